/- Texts of this claim, part 5: Aux, Hof2, Enter, Doer, SameN, PutsS, Make, Rise, Walk, Within, Apply, Rename, PBack, PRank, PGood, TSame, Ali2, Hof, Fid, Srv, Srv2, Cach, Cach2, Unl, Maps, PJud, Jud, Jud2, Jud3, PBfs, PWhole, PWh2, RTree, PApply. No condition. -/
import Derived.Test.YtmcfbfdonjllaaaGreatDoorZR3
set_option maxRecDepth 10000
set_option maxHeartbeats 4000000
set_option linter.unusedSimpArgs false
set_option linter.unusedVariables false
namespace La
open Go Go.Eng Go.Proofs Go.Proofs.Tryz
theorem mL {α:Type} {p:α->Bool} (l:List α):decide (cv (l.findIdx? p)≥0)=l.any p:=by
 cases h:l.findIdx? p with
 | none=>
  rw[YL] at h;have:l.any p=false:=by rw[List.any_eq_false];intro x hx;simp[h x hx]
  rw[this];rfl
 | some k=>
  have:l.any p=true:=by
   obtain ⟨hk,h1,_⟩:=YK.1 h;exact List.any_eq_true.2 ⟨_,YW hk,h1⟩
  rw[this];simp[cv]
theorem fP:∀{l:List AV},(l.all AV.aW)=true->∃q,(∀h,fD h l=some (q,l))/\q
 | [],_=>⟨True,λ_=>rfl,trivial⟩
 | x::r,hp=>by
  simp only[List.all_cons,Bool.and_eq_true] at hp;obtain ⟨q,h1,h2⟩:=fP hp.2;have hx:∀h,view h x=some (True,x):=λh=>by
   cases x with
   | osl=>cases hp.1
   | ptr=>cases hp.1
   | mp=>cases hp.1
   | fn=>cases hp.1
   | agg=>cases hp.1
   | any=>cases hp.1
   | tup=>cases hp.1
   | cnd=>cases hp.1
   | exs=>cases hp.1
   | _=>rfl
  exact ⟨True/\q,λh=>by simp only[fD,hx,h1],trivial,h2⟩
theorem ck:∀{l:List AV},(l.all AV.aW)=true->aB l=[]
 | [],_=>rfl
 | x::r,hp=>by
  simp only[List.all_cons,Bool.and_eq_true] at hp;have hx:refs x=[]:=by cases x<;>first | rfl | cases hp.1
  simp only[aB,hx,ck hp.2,List.append_nil]
theorem fi {α:Type} {l:List α} {p:α->Bool} {j:Nat} (h:l.findIdx? p=some j):(l.take (j+1)).filter (λx=>!p x)=l.take j:=by
 obtain ⟨hk,h1,h2⟩:=YK.1 h;rw[List.take_succ_eq_append_getElem hk,List.filter_append];have e1:(l.take j).filter (λx=>!p x)=l.take j:=Ya.2 λx hx=>by
  obtain ⟨i,hi⟩:=W9 hx;rw[YU] at hi;split at hi
  ·rename_i hij;have:=h2 i hij;have e:l[i]? = some l[i]:=Wz z8;rw[e] at hi;injection hi with hi
   rw[<-hi];simpa using this
  ·cases hi
 rw[e1];simp[h1]
structure DelInv {α:Type} (p:α->Bool) (l:List α) (j:Nat) (L:List α):Prop where
 le:j<=l.length
 len:L.length=l.length
 drop:L.drop j=l.drop j
 take:L.take ((l.take j).filter λx=>!p x).length=(l.take j).filter λx=>!p x
 lt:((l.take j).filter λx=>!p x).length<j
theorem DelInv.start {α:Type} {p:α->Bool} {l:List α} {k:Nat} (h:l.findIdx? p=some k):DelInv p l (k+1) l:=by
 have hk:k<l.length:=(YK.1 h).1;have e:=fi h;have el:(l.take k).length=k:=by simp;omega
 refine ⟨hk,rfl,rfl,?_,?_⟩
 ·rw[e,el]
 ·rw[e,el];omega
theorem DelInv.get {α:Type} [Inhabited α] {p:α->Bool} {l L:List α} {j:Nat} (h:DelInv p l j L) (hj:j<l.length):L.getD j default=l.getD j default:=by
 have:=h.drop;rw[cr hj,cr (show j<L.length by rw[h.len];exact hj)] at this;injection this
theorem DelInv.skip {α:Type} [Inhabited α] {p:α->Bool} {l L:List α} {j:Nat} (h:DelInv p l j L) (hj:j<l.length) (hp:p (l.getD j default)=true):DelInv p l (j+1) L:=by
 have e:(l.take (j+1)).filter (λx=>!p x)=(l.take j).filter λx=>!p x:=by
  rw[ZT hj,List.filter_append];simp only[List.filter_cons,hp,List.filter_nil,Bool.not_true,Bool.false_eq_true,if_false,List.append_nil]
 refine ⟨hj,h.len,?_,?_,?_⟩
 ·rw[<-List.drop_drop,<-List.drop_drop,h.drop]
 ·rw[e];exact h.take
 ·rw[e];have:=h.lt;omega
theorem DelInv.Gj {α:Type} [Inhabited α] {p:α->Bool} {l L:List α} {j:Nat} (h:DelInv p l j L) (hj:j<l.length) (hp:p (l.getD j default)=false) :
  DelInv p l (j+1) (L.set ((l.take j).filter λx=>!p x).length (l.getD j default))/\((l.take (j+1)).filter λx=>!p x).length=((l.take j).filter λx=>!p x).length+1:=by
 have e:(l.take (j+1)).filter (λx=>!p x)=(l.take j).filter (λx=>!p x)++[l.getD j default]:=by
  rw[ZT hj,List.filter_append];simp only[List.filter_cons,hp,List.filter_nil,Bool.not_false,if_true]
 have hlt:=h.lt;have hlen:=h.len;have htk:=h.take;generalize hd:(l.take j).filter (λx=>!p x)=d at *;refine ⟨⟨hj,by simp[hlen],?_,?_,?_⟩,by rw[e];simp⟩
 ·have:(L.set d.length (l.getD j default)).drop (j+1)=L.drop (j+1):=by
   rw[List.drop_set];rw[if_pos z8]
  rw[this,<-List.drop_drop,<-List.drop_drop,h.drop]
 ·rw[e];simp only[List.length_append,List.length_cons,List.length_nil,Yc];rw[List.take_succ_eq_append_getElem k6,List.take_set_of_le (W7 _),htk];simp
 ·rw[e];simp;omega
theorem DelInv.fin {α:Type} {p:α->Bool} {l L:List α} (h:DelInv p l l.length L):L.take (l.filter λx=>!p x).length=l.filter λx=>!p x:=by
 have:=h.take
 rwa [W4] at this
theorem pU {α:Type} (f:α->List AV) (l:List α) (i:Nat) (x:α):(l.map f).set i (f x)=(l.set i x).map f:=by rw[List.map_set]
theorem jw {α:Type} (f:α->List AV) {L:List α} {d:List α} (z:List AV) (h:L.take d.length=d) (hd:d.length<=L.length) :
  aZ (L.map f) d.length (List.replicate (L.length-d.length) z)=d.map f++List.replicate (L.length-d.length) z:=by
 unfold aZ;rw[<-List.map_take,h,List.drop_eq_nil_of_le k6,List.append_nil]
@[go_sem,simp] theorem JC (e s:Nat) (a b:List (List AV)):Eng.ay (.cells e s (a++b))=Eng.ay (.cells e s a)++Eng.ay (.cells e s b):=by
 simp only[Eng.ay,List.flatMap_append]
@[go_sem,simp] theorem Ml (e s n:Nat) (z:List AV) (h:aB z=[]):Eng.ay (.cells e s (List.replicate n z))=[]:=by
 simp only[Eng.ay]
 induction n with
 | zero=>rfl
 | succ n ih=>simp only[List.replicate_succ,List.flatMap_cons,h,ih,List.append_nil]
attribute [go_sem] List.map_append List.map_replicate
theorem iD {α:Type} {a b:List α} {n:Nat} (h:n=a.length):(a++b).take n=a:=by subst h;simp
theorem jP (n:Nat) {z:List AV} (h:(z.all AV.aW)=true):((List.replicate n z).all λrow=>row.all AV.aW)=true:=by
 rw[List.all_eq_true];intro row hr;rw[(Yz.1 hr).2];exact h
theorem um (l:List Node) (hlen:l.length<=100000000) {f:FuncId} {caps:List AV} {p:Node->Bool} (hcal:aJ prog f) (hpure:(caps.all AV.aW)=true)
  (hf:∀x,x∈l->aj prog f (.agg (ZN x)::caps) [] (λr _=>r=.bool (p x))) :
  Fo 233 [.sl (l.map ZN),.fn f caps] (.int .i64 (cv (l.findIdx? p))):=by
 have hcaps:=ck hpure;refine wSG func233 ntmps233 results233 λC=>?_
 refine ZL (λi:Nat=>i<=l.length/\∀x,x∈l.take i->p x=false) (λi=>l.length-i) (λi=>(8,.int .i64 i)::(5,.any)::u0 9 10 []) (λ_=>[]) 0 ⟨by omega,by simp⟩ ?_ λi hi=>?_
 ·simp only[go_sem];exact ZU w3 w3 k9
 obtain ⟨hi,hno⟩:=hi;simp only[go_sem];refine wGD (λh=>?_) (λh=>?_)
 ·have hlt:=lt1 h;have hn:=hf _ (YG hlt);have hg:=Fam.getD (f:=ZN) hlt;have htk:=ZT hlt;have hgi:l[i]? = some (l.getD i default):=by rw[List.getD_eq_getElem?_getD,Wz hlt];rfl
  generalize l.getD i default=n at hn hg htk hgi;refine wGq ?_ ?_ u9
  ·simp[hlt,ZN]
  refine dL rfl rfl z7 w3 hcal k9 (hn) w3 z6 ?_;refine wGD (λh=>?_) (λh=>?_)
  ·refine wGT ?_;rw[eR hgi hno h];rfl
  ·have hw:IntKind.i64.wrap ((i:Int)+1)=(i:Int)+1:=wrap_small z8 z8;refine wG ?_ w4 y7;refine ZB ⟨i+1,⟨by omega,?_⟩,by omega,ZU ?_ ?_ ?_⟩
   ·rw[htk];intro x hx
    rcases List.mem_append.1 hx with hx | hx
    ·exact hno x hx
    ·rw[List.mem_singleton.1 hx];exact h
   ·simp[go_sem]
   ·simp[go_sem]
   ·simp[go_sem,hcaps]
 ·have e:i=l.length:=by simp at h;omega
  refine wGT ?_;rw[e,W4] at hno;rw[YL.2 hno];rfl
theorem se (l:List Node) (hlen:l.length<=100000000) (id:Nat) {f:FuncId} {caps:List AV} {p:Node->Bool} (hcal:aJ prog f) (hpure:(caps.all AV.aW)=true) (hid:id≠7)
  (hf:∀x,x∈l->aj prog f (.agg (ZN x)::caps) [] (λr _=>r=.bool (p x))) :
  aj prog 212 [.osl id 5 0 l.length,.fn f caps] [(id,.cells 94 5 (l.map ZN))] (λr H=>r=.osl id 5 0 (l.filter λx=>!p x).length /\
   ∀i b,aa [(id,.cells 94 5 ((l.filter λx=>!p x).map ZN++List.replicate (l.length-(l.filter λx=>!p x).length) [.int .i64 0,.bool false,.nils,.nils,.int .i64 0]))] i=some b->aa H i=some b):=by
 have hcaps:=ck hpure;obtain ⟨q,hv,hq⟩:=fP hpure;refine wSG func212 ntmps212 results212 λC=>?_
 refine nx rfl rfl z7 w3 Qa Z3 ⟨_,func233,by kernel_rfl,rfl⟩ (um l hlen hcal hpure hf) w3 z6 ?_;refine wGD (λh=>?_) (λh=>?_)
 ·refine wGT ?_;have hn:l.findIdx? p=none:=by
   cases e:l.findIdx? p with
   | none=>rfl
   | some k=>rw[e] at h;simp[cv] at h
  have hfl:l.filter (λx=>!p x)=l:=Ya.2 λx hx=>by
   simp[YL.1 hn x hx]
  rw[hfl];simp[aa]
 obtain ⟨k,hk⟩:∃k,l.findIdx? p=some k:=by
  cases e:l.findIdx? p with
  | none=>rw[e] at h;simp[cv] at h
  | some k=>exact ⟨k,rfl⟩
 have hkl:k<l.length:=(YK.1 hk).1;have hsp:=fi hk;rw[hk];have hw:IntKind.i64.wrap ((k:Int)+1)=((k+1:Nat):Int):=by rw[Eng.wrap_small z8 z8];rfl
 simp only[cv];refine wG ?_ w4 y7;refine ZL (λs:Nat×List Node=>DelInv p l s.1 s.2) (λs=>l.length-s.1) (λs=>(5,.int .i64 (((l.take s.1).filter λx=>!p x).length:Nat))::(6,.int .i64 (s.1:Nat))::(7,.any)::u0 16 20 []) (λs=>[(id,.cells 94 5 (s.2.map ZN))]) (k+1,l) (DelInv.start hk) ?_ λs hs=>?_
 ·have el:((l.take (k+1)).filter λx=>!p x).length=k:=by rw[hsp];simp;omega
  simp only[go_sem,el];exact ZU w3 w3 k9
 obtain ⟨j,L⟩:=s;have hjl:=hs.le;have hL:=hs.len;have hlt:=hs.lt;simp only at hs hjl hL hlt;simp only[go_sem];refine wGD (λh=>?_) (λh=>?_)
 ·have hj:=lt1 h;have hn:=hf _ (YG hj);have hg:(L.map ZN).getD j []=ZN (l.getD j default):=by rw[Fam.getD z8,hs.get hj]
  have hkeep:=hs.Gj hj;have hskip:=hs.skip hj;have htk:=ZT hj;generalize l.getD j default=n at hn hg hkeep hskip htk;refine wGq ?_ ?_ (by simp only[go_sem,hg,ZN,hid,Ne.symm hid];try exact rfl)
  ·simp[ZN];omega
  refine dL rfl rfl z7 w3 hcal k9 (hn) w3 z6 ?_;generalize hm:((l.take j).filter λx=>!p x).length=m at hkeep hlt;have hw1:IntKind.i64.wrap ((j:Int)+1)=((j+1:Nat):Int):=by rw[Eng.wrap_small z8 z8];rfl
  have hw2:IntKind.i64.wrap ((m:Int)+1)=((m+1:Nat):Int):=by rw[Eng.wrap_small z8 z8];rfl
  refine wG ?_ QW WL;refine wD (λh=>?_) (λh=>?_)
  ·have hp:p n=false:=by simpa using h
   obtain ⟨hk1,hk2⟩:=hkeep hp;have aG:=pU ZN L m n;simp only[ZN] at aG;have hgl:(L.map ZN).getD m []=ZN (L.getD m default):=Fam.getD z8;simp only[ZN] at hgl;refine wGq ?_ ?_ v7
   ·simp[hid,Ne.symm hid];omega
   exact ZB ⟨(j+1,L.set m n),hk1,by simp only;omega,ZU QM Qh Qd⟩
  ·have hp:p n=true:=by simpa using h
   refine wG ?_ QB Qe;have hsame:((l.take (j+1)).filter λx=>!p x).length=m:=by
    rw[<-hm,htk,List.filter_append];simp only[List.filter_cons,hp,Bool.not_true,Bool.false_eq_true,if_false,List.filter_nil,List.append_nil]
   exact ZB ⟨(j+1,L),hskip hp,by simp only;omega,ZU Zd Qp k9⟩
 have e:j=l.length:=by simp at h;omega
 subst e;have hfin:=hs.fin;rw[W4];generalize hd:(l.filter λx=>!p x)=d at *;have hdl:d.length<=l.length:=by rw[<-hd];exact W8 _ _
 have hcl:=jw ZN (d:=d) (L:=L) [.int .i64 0,.bool false,.nils,.nils,.int .i64 0] hfin z8;rw[hL] at hcl;refine wGq ?_ ?_ QC
 ·simp only[not_false_eq_true,true_and];omega
 refine wT ?_;simp[aa]
theorem mg (l:List Entry) (hlen:l.length<=100000000) {f:FuncId} {caps:List AV} {p:Entry->Bool} (hcal:aJ prog f) (hpure:(caps.all AV.aW)=true)
  (hf:∀x,x∈l->aj prog f (.agg (ZE x)::caps) [] (λr _=>r=.bool (p x))) :
  Fo 232 [.sl (l.map ZE),.fn f caps] (.int .i64 (cv (l.findIdx? p))):=by
 have hcaps:=ck hpure;refine wSG func232 ntmps232 results232 λC=>?_
 refine ZL (λi:Nat=>i<=l.length/\∀x,x∈l.take i->p x=false) (λi=>l.length-i) (λi=>(8,.int .i64 i)::(5,.any)::u0 9 10 []) (λ_=>[]) 0 ⟨by omega,by simp⟩ ?_ λi hi=>?_
 ·simp only[go_sem];exact ZU w3 w3 k9
 obtain ⟨hi,hno⟩:=hi;simp only[go_sem];refine wGD (λh=>?_) (λh=>?_)
 ·have hlt:=lt1 h;have hn:=hf _ (YG hlt);have hg:=Fam.getD (f:=ZE) hlt;have htk:=ZT hlt;have hgi:l[i]? = some (l.getD i default):=by rw[List.getD_eq_getElem?_getD,Wz hlt];rfl
  generalize l.getD i default=n at hn hg htk hgi;refine wGq ?_ ?_ s6
  ·simp[hlt,ZE]
  refine dL rfl rfl z7 w3 hcal k9 (hn) w3 z6 ?_;refine wGD (λh=>?_) (λh=>?_)
  ·refine wGT ?_;rw[eR hgi hno h];rfl
  ·have hw:IntKind.i64.wrap ((i:Int)+1)=(i:Int)+1:=wrap_small z8 z8;refine wG ?_ w4 y7;refine ZB ⟨i+1,⟨by omega,?_⟩,by omega,ZU ?_ ?_ ?_⟩
   ·rw[htk];intro x hx
    rcases List.mem_append.1 hx with hx | hx
    ·exact hno x hx
    ·rw[List.mem_singleton.1 hx];exact h
   ·simp[go_sem]
   ·simp[go_sem]
   ·simp[go_sem,hcaps]
 ·have e:i=l.length:=by simp at h;omega
  refine wGT ?_;rw[e,W4] at hno;rw[YL.2 hno];rfl
theorem qj (l:List Entry) (hlen:l.length<=100000000) (id:Nat) {f:FuncId} {caps:List AV} {p:Entry->Bool} (hcal:aJ prog f) (hpure:(caps.all AV.aW)=true) (hid:id≠7)
  (hf:∀x,x∈l->aj prog f (.agg (ZE x)::caps) [] (λr _=>r=.bool (p x))) :
  aj prog 210 [.osl id 2 0 l.length,.fn f caps] [(id,.cells 96 2 (l.map ZE))] (λr H=>r=.osl id 2 0 (l.filter λx=>!p x).length /\
   ∀i b,aa [(id,.cells 96 2 ((l.filter λx=>!p x).map ZE++List.replicate (l.length-(l.filter λx=>!p x).length) [.str [],.int .i64 0]))] i=some b->aa H i=some b):=by
 have hcaps:=ck hpure;obtain ⟨q,hv,hq⟩:=fP hpure;refine wSG func210 ntmps210 results210 λC=>?_
 refine nx rfl rfl z7 w3 Qa Z3 ⟨_,func232,by kernel_rfl,rfl⟩ (mg l hlen hcal hpure hf) w3 z6 ?_;refine wGD (λh=>?_) (λh=>?_)
 ·refine wGT ?_;have hn:l.findIdx? p=none:=by
   cases e:l.findIdx? p with
   | none=>rfl
   | some k=>rw[e] at h;simp[cv] at h
  have hfl:l.filter (λx=>!p x)=l:=Ya.2 λx hx=>by
   simp[YL.1 hn x hx]
  rw[hfl];simp[aa]
 obtain ⟨k,hk⟩:∃k,l.findIdx? p=some k:=by
  cases e:l.findIdx? p with
  | none=>rw[e] at h;simp[cv] at h
  | some k=>exact ⟨k,rfl⟩
 have hkl:k<l.length:=(YK.1 hk).1;have hsp:=fi hk;rw[hk];have hw:IntKind.i64.wrap ((k:Int)+1)=((k+1:Nat):Int):=by rw[Eng.wrap_small z8 z8];rfl
 simp only[cv];refine wG ?_ w4 y7;refine ZL (λs:Nat×List Entry=>DelInv p l s.1 s.2) (λs=>l.length-s.1) (λs=>(5,.int .i64 (((l.take s.1).filter λx=>!p x).length:Nat))::(6,.int .i64 (s.1:Nat))::(7,.any)::u0 16 20 []) (λs=>[(id,.cells 96 2 (s.2.map ZE))]) (k+1,l) (DelInv.start hk) ?_ λs hs=>?_
 ·have el:((l.take (k+1)).filter λx=>!p x).length=k:=by rw[hsp];simp;omega
  simp only[go_sem,el];exact ZU w3 w3 k9
 obtain ⟨j,L⟩:=s;have hjl:=hs.le;have hL:=hs.len;have hlt:=hs.lt;simp only at hs hjl hL hlt;simp only[go_sem];refine wGD (λh=>?_) (λh=>?_)
 ·have hj:=lt1 h;have hn:=hf _ (YG hj);have hg:(L.map ZE).getD j []=ZE (l.getD j default):=by rw[Fam.getD z8,hs.get hj]
  have hkeep:=hs.Gj hj;have hskip:=hs.skip hj;have htk:=ZT hj;generalize l.getD j default=n at hn hg hkeep hskip htk;refine wGq ?_ ?_ (by simp only[go_sem,hg,ZE,hid,Ne.symm hid];try exact rfl)
  ·simp[ZE];omega
  refine dL rfl rfl z7 w3 hcal k9 (hn) w3 z6 ?_;generalize hm:((l.take j).filter λx=>!p x).length=m at hkeep hlt;have hw1:IntKind.i64.wrap ((j:Int)+1)=((j+1:Nat):Int):=by rw[Eng.wrap_small z8 z8];rfl
  have hw2:IntKind.i64.wrap ((m:Int)+1)=((m+1:Nat):Int):=by rw[Eng.wrap_small z8 z8];rfl
  refine wG ?_ QW WL;refine wD (λh=>?_) (λh=>?_)
  ·have hp:p n=false:=by simpa using h
   obtain ⟨hk1,hk2⟩:=hkeep hp;have aG:=pU ZE L m n;simp only[ZE] at aG;have hgl:(L.map ZE).getD m []=ZE (L.getD m default):=Fam.getD z8;simp only[ZE] at hgl;refine wGq ?_ ?_ v7
   ·simp[hid,Ne.symm hid];omega
   exact ZB ⟨(j+1,L.set m n),hk1,by simp only;omega,ZU QM Qh Qd⟩
  ·have hp:p n=true:=by simpa using h
   refine wG ?_ QB Qe;have hsame:((l.take (j+1)).filter λx=>!p x).length=m:=by
    rw[<-hm,htk,List.filter_append];simp only[List.filter_cons,hp,Bool.not_true,Bool.false_eq_true,if_false,List.filter_nil,List.append_nil]
   exact ZB ⟨(j+1,L),hskip hp,by simp only;omega,ZU Zd Qp k9⟩
 have e:j=l.length:=by simp at h;omega
 subst e;have hfin:=hs.fin;rw[W4];generalize hd:(l.filter λx=>!p x)=d at *;have hdl:d.length<=l.length:=by rw[<-hd];exact W8 _ _
 have hcl:=jw ZE (d:=d) (L:=L) [.str [],.int .i64 0] hfin z8;rw[hL] at hcl;refine wGq ?_ ?_ QC
 ·simp only[not_false_eq_true,true_and];omega
 refine wT ?_;simp[aa]
theorem oe (l:List Entry) (hlen:l.length<=100000000) {f:FuncId} {caps:List AV} {p:Entry->Bool} (hcal:aJ prog f) (hpure:(caps.all AV.aW)=true)
  (hf:∀x,x∈l->aj prog f (.agg (ZE x)::caps) [] (λr _=>r=.bool (p x))) :
  Fo 214 [.sl (l.map ZE),.fn f caps] (.bool (l.any p)):=by
 have hcaps:=ck hpure;refine wSG func214 ntmps214 results214 λC=>?_
 refine dL rfl rfl z7 w3 ⟨_,func232,by kernel_rfl,rfl⟩ k9 (mg l hlen hcal hpure hf) w3 z6 ?_;refine wGT ?_;rw[mL]
theorem jE (l:List Kept) (hlen:l.length<=100000000) {f:FuncId} {caps:List AV} {p:Kept->Bool} (hcal:aJ prog f) (hpure:(caps.all AV.aW)=true)
  (hf:∀x,x∈l->aj prog f (.agg (ZK x)::caps) [] (λr _=>r=.bool (p x))) :
  Fo 119 [.sl (l.map ZK),.fn f caps] (.int .i64 (cv (l.findIdx? p))):=by
 have hcaps:=ck hpure;refine wSG func119 ntmps119 results119 λC=>?_
 refine ZL (λi:Nat=>i<=l.length/\∀x,x∈l.take i->p x=false) (λi=>l.length-i) (λi=>(8,.int .i64 i)::(5,.any)::u0 9 10 []) (λ_=>[]) 0 ⟨by omega,by simp⟩ ?_ λi hi=>?_
 ·simp only[go_sem];exact ZU w3 w3 k9
 obtain ⟨hi,hno⟩:=hi;simp only[go_sem];refine wGD (λh=>?_) (λh=>?_)
 ·have hlt:=lt1 h;have hn:=hf _ (YG hlt);have hg:=Fam.getD (f:=ZK) hlt;have htk:=ZT hlt;have hgi:l[i]? = some (l.getD i default):=by rw[List.getD_eq_getElem?_getD,Wz hlt];rfl
  generalize l.getD i default=n at hn hg htk hgi;refine wGq ?_ ?_ j9
  ·simp[hlt,ZK]
  refine dL rfl rfl z7 w3 hcal k9 (hn) w3 z6 ?_;refine wGD (λh=>?_) (λh=>?_)
  ·refine wGT ?_;rw[eR hgi hno h];rfl
  ·have hw:IntKind.i64.wrap ((i:Int)+1)=(i:Int)+1:=wrap_small z8 z8;refine wG ?_ w4 y7;refine ZB ⟨i+1,⟨by omega,?_⟩,by omega,ZU ?_ ?_ ?_⟩
   ·rw[htk];intro x hx
    rcases List.mem_append.1 hx with hx | hx
    ·exact hno x hx
    ·rw[List.mem_singleton.1 hx];exact h
   ·simp[go_sem]
   ·simp[go_sem]
   ·simp[go_sem,hcaps]
 ·have e:i=l.length:=by simp at h;omega
  refine wGT ?_;rw[e,W4] at hno;rw[YL.2 hno];rfl
theorem iI (l:List Kept) (hlen:l.length<=100000000) (id:Nat) {f:FuncId} {caps:List AV} {p:Kept->Bool} (hcal:aJ prog f) (hpure:(caps.all AV.aW)=true) (hid:id≠7)
  (hf:∀x,x∈l->aj prog f (.agg (ZK x)::caps) [] (λr _=>r=.bool (p x))) :
  aj prog 80 [.osl id 8 0 l.length,.fn f caps] [(id,.cells 138 8 (l.map ZK))] (λr H=>r=.osl id 8 0 (l.filter λx=>!p x).length /\
   ∀i b,aa [(id,.cells 138 8 ((l.filter λx=>!p x).map ZK++List.replicate (l.length-(l.filter λx=>!p x).length) [.int .i64 0,.bool false,.nils,.nils,.int .i64 0,.bool false,.int .i64 0,.int .i64 0]))] i=some b->aa H i=some b):=by
 have hcaps:=ck hpure;obtain ⟨q,hv,hq⟩:=fP hpure;refine wSG func80 ntmps80 results80 λC=>?_
 refine nx rfl rfl z7 w3 Qa Z3 ⟨_,func119,by kernel_rfl,rfl⟩ (jE l hlen hcal hpure hf) w3 z6 ?_;refine wGD (λh=>?_) (λh=>?_)
 ·refine wGT ?_;have hn:l.findIdx? p=none:=by
   cases e:l.findIdx? p with
   | none=>rfl
   | some k=>rw[e] at h;simp[cv] at h
  have hfl:l.filter (λx=>!p x)=l:=Ya.2 λx hx=>by
   simp[YL.1 hn x hx]
  rw[hfl];simp[aa]
 obtain ⟨k,hk⟩:∃k,l.findIdx? p=some k:=by
  cases e:l.findIdx? p with
  | none=>rw[e] at h;simp[cv] at h
  | some k=>exact ⟨k,rfl⟩
 have hkl:k<l.length:=(YK.1 hk).1;have hsp:=fi hk;rw[hk];have hw:IntKind.i64.wrap ((k:Int)+1)=((k+1:Nat):Int):=by rw[Eng.wrap_small z8 z8];rfl
 simp only[cv];refine wG ?_ w4 y7;refine ZL (λs:Nat×List Kept=>DelInv p l s.1 s.2) (λs=>l.length-s.1) (λs=>(5,.int .i64 (((l.take s.1).filter λx=>!p x).length:Nat))::(6,.int .i64 (s.1:Nat))::(7,.any)::u0 16 20 []) (λs=>[(id,.cells 138 8 (s.2.map ZK))]) (k+1,l) (DelInv.start hk) ?_ λs hs=>?_
 ·have el:((l.take (k+1)).filter λx=>!p x).length=k:=by rw[hsp];simp;omega
  simp only[go_sem,el];exact ZU w3 w3 k9
 obtain ⟨j,L⟩:=s;have hjl:=hs.le;have hL:=hs.len;have hlt:=hs.lt;simp only at hs hjl hL hlt;simp only[go_sem];refine wGD (λh=>?_) (λh=>?_)
 ·have hj:=lt1 h;have hn:=hf _ (YG hj);have hg:(L.map ZK).getD j []=ZK (l.getD j default):=by rw[Fam.getD z8,hs.get hj]
  have hkeep:=hs.Gj hj;have hskip:=hs.skip hj;have htk:=ZT hj;generalize l.getD j default=n at hn hg hkeep hskip htk;refine wGq ?_ ?_ (by simp only[go_sem,hg,ZK,hid,Ne.symm hid];try exact rfl)
  ·simp[ZK];omega
  refine dL rfl rfl z7 w3 hcal k9 (hn) w3 z6 ?_;generalize hm:((l.take j).filter λx=>!p x).length=m at hkeep hlt;have hw1:IntKind.i64.wrap ((j:Int)+1)=((j+1:Nat):Int):=by rw[Eng.wrap_small z8 z8];rfl
  have hw2:IntKind.i64.wrap ((m:Int)+1)=((m+1:Nat):Int):=by rw[Eng.wrap_small z8 z8];rfl
  refine wG ?_ QW WL;refine wD (λh=>?_) (λh=>?_)
  ·have hp:p n=false:=by simpa using h
   obtain ⟨hk1,hk2⟩:=hkeep hp;have aG:=pU ZK L m n;simp only[ZK] at aG;have hgl:(L.map ZK).getD m []=ZK (L.getD m default):=Fam.getD z8;simp only[ZK] at hgl;refine wGq ?_ ?_ v7
   ·simp[hid,Ne.symm hid];omega
   exact ZB ⟨(j+1,L.set m n),hk1,by simp only;omega,ZU QM Qh Qd⟩
  ·have hp:p n=true:=by simpa using h
   refine wG ?_ QB Qe;have hsame:((l.take (j+1)).filter λx=>!p x).length=m:=by
    rw[<-hm,htk,List.filter_append];simp only[List.filter_cons,hp,Bool.not_true,Bool.false_eq_true,if_false,List.filter_nil,List.append_nil]
   exact ZB ⟨(j+1,L),hskip hp,by simp only;omega,ZU Zd Qp k9⟩
 have e:j=l.length:=by simp at h;omega
 subst e;have hfin:=hs.fin;rw[W4];generalize hd:(l.filter λx=>!p x)=d at *;have hdl:d.length<=l.length:=by rw[<-hd];exact W8 _ _
 have hcl:=jw ZK (d:=d) (L:=L) [.int .i64 0,.bool false,.nils,.nils,.int .i64 0,.bool false,.int .i64 0,.int .i64 0] hfin z8;rw[hL] at hcl;refine wGq ?_ ?_ QC
 ·simp only[not_false_eq_true,true_and];omega
 refine wT ?_;simp[aa]
theorem DI (n:Node) (f:Int):Fo 213 [.agg (ZN n),.rp [.int .i64 f] 0] (.bool (n.fid==f)):=by
 unfold ZN;refine wS func213 ntmps213 results213 λC=>?_
 refine wGT ?_;simp
theorem IL (l:List Node) (f:Int) (hl:Small l):Fo 180 [.sl (l.map ZN),.int .i64 f] (.sl ((eQ l f).map ZN)):=by
 have hlen:=hl.len;refine wSG func180 ntmps180 results180 λC=>?_
 refine ZZ 3 rfl (rfl) (wn ?_);refine wCG ?_ [] 100 func66 (hf:=sI l hl);refine wG ?_;refine wCG ?_ [123] 100 func212 (hf:=se l hlen 123 ⟨_,Go.Proofs.Tryz.func213,by kernel_rfl,rfl⟩ rfl j8 (λx _=>DI x f));refine wG ?_;refine ZZ 223 rfl (by rw[List.all_append,fp,Y0];exact jP _ rfl) (wn ?_);refine wT ?_;have hle:=W8 (λx:Node=>!(x.fid==f)) l;have hd:(l.filter λx:Node=>!(x.fid==f))=eQ l f:=rfl;rw[hd] at hle;simp only[hd];generalize eQ l f=d at *;rw[if_pos w8,iD w8]
theorem BN (e:Entry) (s:List UInt8):Fo 211 [.agg (ZE e),.rp [.str s] 0] (.bool (e.name==s)):=by
 unfold ZE;refine wS func211 ntmps211 results211 λC=>?_
 refine wGT ?_;simp
theorem zT (n:Node) (s:List UInt8) (hn:n.Small):Fo 179 [.agg (ZN n),.str s] (.agg (ZN (aE n s))):=by
 have hlen:=hn.entries;refine wS func179 ntmps179 results179 λC=>?_
 refine wGq ?_ ?_ w5
 ·simp[ZN]
 refine ZZ 7 rfl (rfl) ?_;refine ZZ 3 rfl (rfl) (wn ?_);refine wCG ?_ [] 0 func66 (hf:=Au n hn);refine wGq ?_ ?_ (by simp only[go_sem,lD];try exact rfl)
 ·simp[lD]
 refine af (aY 1000 5 z6 y9) ?_;refine af (aY 1000 23 z6 y9) (wn ?_);refine wCG ?_ [1000] 100 func210 (hf:=qj n.entries hlen 1000 ⟨_,Go.Proofs.Tryz.func211,by kernel_rfl,rfl⟩ rfl j8 (λx _=>BN x s));refine ZZ 1100 rfl (by rw[List.all_append,dB,Y0];exact jP _ rfl) (wn ?_);have hle:=W8 (λx:Entry=>!(x.name==s)) n.entries;have hd:(n.entries.filter λx:Entry=>!(x.name==s))=dv n.entries s:=rfl;have hr:ZN (aE n s)=[.int .i64 n.fid,.bool n.dir,.sl (n.data.map ZY),.sl ((dv n.entries s).map ZE),.int .i64 n.version]:=rfl;simp only[hd] at hle ⊢;rw[hr];generalize dv n.entries s=d at *;simp only[go_sem,if_pos (show d.length<=(d.map ZE++List.replicate (n.entries.length-d.length) [AV.str [],AV.int .i64 0]).length by simp),iD (show d.length=(d.map ZE).length by simp)];refine wGT ?_;simp
theorem vj (l M:List Entry) (i:Nat) (hi:i<=l.length) (hlen:l.length<=100000000) (hM:l.take i++⟨[],0⟩::l.drop i=M) :
  aj prog 209 [.osl 1000 2 0 l.length,.int .i64 i,.osl 28 2 0 1] [(28,.cells 96 2 [[.str [],.int .i64 0]]),(1000,.cells 96 2 (l.map ZE))]
   (λr H=>r=.osl 7 2 0 (l.length+1)/\∀i' b,aa [(7,.cells 96 2 (M.map ZE))] i'=some b->aa H i'=some b):=by
 subst hM;have hL:(l.map ZE).length=l.length:=List.length_map ..;have:=aj.K8 (rows':=(l.take i++⟨[],0⟩::l.drop i).map ZE) 7 (xC (l.map ZE) i z8 z8 (r_ l) (vh l) (λid=>mA id l)) (by
  rw[List.map_append,List.map_cons,List.map_append,List.map_cons,<-List.map_take,<-List.map_drop,nU,nU];rfl) (zD (λid=>mA id l) j8)
 rw[hL] at this;exact this
theorem rn {M:List Entry} {i:Nat} (h:i<M.length):(M.map ZE).getD i []=[.str (M.getD i default).name,.int .i64 (M.getD i default).fid]:=by
 rw[Fam.getD h];rfl
theorem zc (n:Node) (s:List UInt8) (f:Int) (hn:n.Small):Fo 177 [.agg (ZN n),.str s,.int .i64 f] (.agg (ZN (aC n s f))):=by
 have hlen:=hn.entries;refine wS func177 ntmps177 results177 λC=>?_
 refine wGq ?_ ?_ w5
 ·simp[ZN]
 refine ZZ 11 rfl (rfl) ?_;refine ZZ 3 rfl (rfl) (wn ?_);refine wCG ?_ [] 0 func66 (hf:=Au n hn);refine wG ?_;refine wV ?_ func140 (hf:=pf n.entries s hlen ⟨_,Go.Proofs.Tryz.func208,by kernel_rfl,rfl⟩ (λe=>zb e s));refine wG ?_;have hple:=qk n.entries s;refine wD (λh=>?_) (λh=>?_)
 ·have hat:isE n.entries s=false:=by simpa using h
  refine wG ?_;refine af (aY 1000 7 z6 y9) ?_;refine af (aY 1000 23 z6 y9) (wn ?_);have hM:(n.entries.take (aM n.entries s)++⟨[],0⟩::n.entries.drop (aM n.entries s)).length=n.entries.length+1:=by simp;omega
  have hS:(n.entries.take (aM n.entries s)++⟨[],0⟩::n.entries.drop (aM n.entries s)).set (aM n.entries s) ⟨s,f⟩=bF n.entries s f:=by
   unfold bF;rw[hat,if_neg w8,List.set_append_right _ _ QI,YA,Yt hple,Ym];rfl
  generalize hMd:n.entries.take (aM n.entries s)++⟨[],0⟩::n.entries.drop (aM n.entries s)=M at *;refine wCG ?_ [1000,28] 200 func209 (hf:=vj n.entries M (aM n.entries s) hple hlen hMd);refine wN 2 ?_;have hE:(bF n.entries s f).length=n.entries.length+1:=by rw[<-hS,YN,hM]
  have hlt:aM n.entries s<(M).length:=by omega
  have hg:=rn hlt;have hq:((M).map ZE).set (aM n.entries s) [.str s,.int .i64 f]=(bF n.entries s f).map ZE:=by
   rw[<-hS,List.map_set];rfl
  refine wR ?_;refine wN 6 ?_;refine wNq 1 ?_ ?_
  ·exact ⟨by simp,by omega,by omega⟩
  refine wNq 1 ?_ ?_
  ·exact ⟨by simp,by omega⟩
  simp only[go_sem,hg,hq];refine ZZ 207 rfl (dB _) ?_;have hr:ZN (aC n s f)=[.int .i64 n.fid,.bool n.dir,.sl (n.data.map ZY),.sl ((bF n.entries s f).map ZE),.int .i64 n.version]:=rfl;rw[hr];have hE2:=W1 (l:=(bF n.entries s f).map ZE) (i:=(bF n.entries s f).length) w8;simp only[go_sem,<-hE,hE2];refine wGT ?_;simp
 ·have hat:isE n.entries s=true:=by simpa using h
  have hpl:aM n.entries s<n.entries.length:=by
   unfold isE at hat;rw[Bool.and_eq_true] at hat;exact of_decide_eq_true hat.1
  have hS:n.entries.set (aM n.entries s) ⟨s,f⟩=bF n.entries s f:=by
   unfold bF;rw[hat,if_pos rfl]
  have hE:(bF n.entries s f).length=n.entries.length:=by rw[<-hS,YN]
  have hlt:aM n.entries s<(n.entries).length:=by omega
  have hg:=rn hlt;have hq:((n.entries).map ZE).set (aM n.entries s) [.str s,.int .i64 f]=(bF n.entries s f).map ZE:=by
   rw[<-hS,List.map_set];rfl
  refine wR ?_;refine wN 6 ?_;refine wNq 1 ?_ ?_
  ·exact ⟨by simp,by omega,by omega⟩
  refine wNq 1 ?_ ?_
  ·exact ⟨by simp,by omega⟩
  simp only[go_sem,hg,hq];refine ZZ 1000 rfl (dB _) ?_;have hr:ZN (aC n s f)=[.int .i64 n.fid,.bool n.dir,.sl (n.data.map ZY),.sl ((bF n.entries s f).map ZE),.int .i64 n.version]:=rfl;rw[hr];have hE2:=W1 (l:=(bF n.entries s f).map ZE) (i:=(bF n.entries s f).length) w8;simp only[go_sem,<-hE,hE2];refine wGT ?_;simp
theorem hold {K H:List (Nat×Blk)} (h:∀p,p∈K->aa H p.1=some p.2):∀i b,aa K i=some b->aa H i=some b:=λi b hb=>h (i,b) (aP hb)
theorem df {a b:Nat} {x y:Blk} {H:List (Nat×Blk)} (h1:aa H a=some x) (h2:aa H b=some y):∀i c,(if a=i then some x else if b=i then some y else none)=some c->aa H i=some c:=λi c hc=>by
 by_cases e1:a=i
 ·subst e1;rw[if_pos rfl] at hc;rw[h1,hc]
 ·rw[if_neg e1] at hc
  by_cases e2:b=i
  ·subst e2;rw[if_pos rfl] at hc;rw[h2,hc]
  ·rw[if_neg e2] at hc;cases hc
def ar (l:List Node) (k:Int):Node:=(ak l k).getD ax
def eM (l:List Node) (k:Int):Int:=match ak l k with
 | none=>12
 | some n=>if n.dir then 0 else 8
def cf (n:Node) (s:List UInt8):Int:=if cH s then (if isE n.entries s then 7 else if n.entries.length≥6 then 5 else 0) else 7
def ZD (l:List Node) (a:Act) (v:Int):List AV:=[.sl (l.map ZN),.int .i64 a.kind,.int .i64 a.fid,.int .i64 a.dir,.str a.name,.int .i64 a.to,.str a.toName,.sl (a.data.map ZY),.int .i64 v]
@[go_sem,simp] theorem Hz (l:List Node) (a:Act) (v:Int):aB (ZD l a v)=[]:=rfl
def dH (R:List AV) (G Y N:Nat->Nat):List (Nat×Blk):=[(15,.cells 228 9 [R])]++pins [15] G Y N
theorem Dl (n:Node) (s:List UInt8) (hn:n.Small) (hs:s.length<=100000000):Fo 175 [.agg (ZN n),.str s] (.int .i64 (cf n s)):=by
 have hlen:=hn.entries;refine wS func175 ntmps175 results175 λC=>?_
 refine wGq ?_ ?_ w5
 ·simp
 refine wC ?_ func139 (hf:=C_ s hs);refine wGD (λh=>?_) (λh=>?_)
 ·have h0:cH s=false:=by simpa using h
  refine wGT ?_;simp[cf,h0]
 have h0:cH s=true:=by simpa using h
 refine wGq ?_ ?_ w5
 ·simp[ZN]
 refine wC ?_ func104 (hf:=kH n s hn);cases he:isE n.entries s with
 | true=>
  have e1:ba n s=some (n.entries.getD (aM n.entries s) default).fid:=by unfold ba;rw[if_pos he]
  rw[e1];simp only[eV];refine wGD (λh=>?_) (λh=>?_)
  ·refine wGT ?_;simp[cf,h0,he]
  ·cases h
 | false=>
  have e1:ba n s=none:=by unfold ba;rw[if_neg QE]
  rw[e1];simp only[eV];refine wGD (λh=>?_) (λh=>?_)
  ·cases h
  refine wGq ?_ ?_ w5
  ·simp[ZN]
  refine wD (λh=>?_) (λh=>?_)
  ·have h6:6<=n.entries.length:=by simp at h;omega
   refine wGT ?_;simp[cf,h0,he,h6]
  ·have h6:¬6<=n.entries.length:=by simp at h;omega
   refine wGT ?_;simp[cf,h0,he,h6]
theorem Bs (l:List Node) (a:Act) (v k:Int) (hl:Small l) (G Y N:Nat->Nat):aj prog 174 [.ptr 15 9 0 0,.int .i64 k] (dH (ZD l a v) G Y N)
  (λr H=>r=.tup [.agg (ZN (ar l k)),.int .i64 (eM l k)]/\∀i b,aa (dH (ZD l a v) G Y N) i=some b->aa H i=some b):=by
 unfold dH;refine wS func174 ntmps174 results174 λC=>?_
 refine wGq ?_ ?_ k0
 ·simp[ZD]
 refine wC ?_ func82 (hf:=dM l k hl);simp only[go_sem,fT];rw[cS];unfold ar eM;generalize ak l k=o;cases o with
 | none=>
  simp only[Option.getD_none,Option.isSome_none];refine wGq ?_ ?_ QP
  ·simp[ZN]
  refine wD (λh=>?_) (λh=>?_)
  ·refine wGq ?_ ?_ QP
   ·simp[ZN]
   refine wU ?_ (df ?_ ?_)
   ·simp[ZN,ax]
   ·simp[go_sem,ZD]
   ·simp[go_sem]
  ·cases h
 | some n=>
  simp only[Option.getD_some,Option.isSome_some];refine wGq ?_ ?_ w5
  ·simp[ZN]
  refine wD (λh=>?_) (λh=>?_)
  ·cases h
  refine wGq ?_ ?_ w5
  ·simp[ZN]
  refine wD (λh=>?_) (λh=>?_)
  ·have hd:n.dir=false:=by simpa using h
   refine wGq ?_ ?_ w5
   ·simp[ZN]
   refine wU ?_ (df ?_ ?_)
   ·simp[ZN,hd]
   ·simp[go_sem,ZD]
   ·simp[go_sem]
  ·have hd:n.dir=true:=by simpa using h
   refine wGq ?_ ?_ w5
   ·simp[ZN]
   refine wU ?_ (df ?_ ?_)
   ·simp[ZN,hd]
   ·simp[go_sem,ZD]
   ·simp[go_sem]
theorem qO (l:List Node) (a:Act) (v:Int) (n:Node) (hl:Small l) (hn:n.Small) (G Y N:Nat->Nat):aj prog 176 [.ptr 15 9 0 0,.agg (ZN n)] (dH (ZD l a v) G Y N)
  (λr H=>r=.tup []/\∀i b,aa (dH (ZD (aI l { n with version:=v }) a v) G Y N) i=some b->aa H i=some b):=by
 have hp:=LN l ({ n with version:=v }:Node) hl ⟨hn.data,hn.entries⟩;unfold dH;refine wS func176 ntmps176 results176 λC=>?_
 refine wGq ?_ ?_ n3
 ·simp[ZD]
 refine ZZ 3 rfl (rfl) (wn ?_);refine wO ?_;refine sG ?_;refine sC ?_ func207 (hf:=hp);refine sG ?_;refine sE ?_;refine dS ?_;refine wKn ?_;refine iE ⟨_,_,rfl,trivial,.tup [],.inr (.inl rfl),rfl,df ?_ ?_⟩
 ·simp[go_sem,ZD]
 ·simp[go_sem]
theorem vd (a b:List UInt8):Fo 123 [.sl (a.map ZY),.sl (b.map ZY)] (.bool (a==b)):=by
 refine wS func123 ntmps123 results123 λC=>?_
 refine wGq ?_ ?_
 ·simp
 refine wT ?_;simp
theorem xi {α:Type} [Inhabited α] [DecidableEq α] {a b:List α} {i:Nat} (h:a.take i=b.take i) (ha:i<a.length) (hb:i<b.length) (e:a.getD i default=b.getD i default):a.take (i+1)=b.take (i+1):=by
 rw[ZT ha,ZT hb,h,e]
theorem xh {α:Type} [Inhabited α] {a b:List α} {i:Nat} (e:¬a.getD i default=b.getD i default):a≠b:=by rintro rfl;exact e rfl
theorem rZ (a b:List Entry) (ha:a.length<=100000000) (hb:b.length<=100000000):Fo 124 [.sl (a.map ZE),.sl (b.map ZE)] (.bool (decide (a=b))):=by
 refine wS func124 ntmps124 results124 λC=>?_
 refine wGD (λh=>?_) (λh=>?_)
 ·have hne:a≠b:=by rintro rfl;simp at h
  refine wGT ?_;simp[hne]
 have hl:a.length=b.length:=by simp at h;omega
 refine wG ?_;refine ZL (λi:Nat=>i<=a.length/\a.take i=b.take i) (λi=>a.length-i) (λi=>(5,.any)::(13,.int .i64 i)::u0 14 12 []) (λ_=>[]) 0 ⟨by omega,by simp⟩ ?_ λi hi=>?_
 ·exact wZ
 obtain ⟨hi,hs⟩:=hi;simp only[go_sem];refine wGD (λh=>?_) (λh=>?_)
 ·have hlt:=lt1 h;have hltb:i<b.length:=by omega
  have hga:=Fam.getD (f:=ZE) hlt;have hgb:=Fam.getD (f:=ZE) hltb;have htk:=xi hs hlt hltb;have htd:=xh (a:=a) (b:=b) (i:=i);generalize a.getD i default=x at hga htk htd;generalize b.getD i default=y at hgb htk htd;refine wGS ?_;refine sNq 8 ?_ ?_ z6 z6 WW
  ·simp[hga,hgb,ZE,hlt,hltb]
  refine sE ?_;refine ff rfl w9 rfl (uS tK rfl (tys:=[9,3]) w9 z7 z7 z6 Zg) rfl ?_;refine wKd ?_;have hxy:(x.name==y.name&&x.fid==y.fid)=decide (x=y):=by
   obtain ⟨n1,f1⟩:=x;obtain ⟨n2,f2⟩:=y
   by_cases h1:n1=n2<;>by_cases h2:f1=f2<;>simp[h1,h2]
  simp only[go_sem,Bool.and_true,hxy];refine wGD (λh=>?_) (λh=>?_)
  ·have hne:x≠y:=by simpa using h
   have:=htd hne;refine wGT ?_;simp[this]
  ·have heq:x=y:=by simpa using h
   have hw:=wi1 (i:=i) z8;refine wG ?_ w4 y7;refine ZB ⟨i+1,⟨by omega,htk heq⟩,by omega,ZU ?_ ?_ ?_⟩
   ·simp[go_sem];exact hw
   ·simp[go_sem]
   ·simp[go_sem]
 ·have e:i=a.length:=by simp at h;omega
  have hab:a=b:=by
   rw[e,W4,hl,W4] at hs;exact hs
  refine wGT ?_;simp[hab]
def dm (v:Bool) (a b:Node):Bool:=a.fid==b.fid&&a.dir==b.dir&&a.data==b.data&&decide (a.entries=b.entries)&&(!v||a.version==b.version)
theorem rQ (a b:Node) (v:Bool) (ha:a.Small) (hb:b.Small):Fo 87 [.agg (ZN a),.agg (ZN b),.bool v] (.bool (dm v a b)):=by
 have hla:=ha.entries;have hlb:=hb.entries;unfold ZN;refine wS func87 ntmps87 results87 λC=>?_
 refine wR ?_;refine wN 3 ?_;refine wR ?_;refine ZZ 3 rfl (rfl) ?_;refine ZZ 4 rfl (rfl) (wn ?_);refine wN 5 ?_;refine wNm 12 λc12 h12=>?_
 refine wN 7 ?_;refine wNm 19 λc19 h19=>?_
 refine wN 9 ?_;refine wNm 28 λc28 h28=>?_
 refine wN 9 ?_;refine wNm 37 λc37 h37=>?_
 refine wNq 10 ?_ ?_
 ·cases c37<;>cases v<;>simp
 refine wNm 47 λc47 h47=>?_
 have hdiff:c47=!(a.fid==b.fid&&a.dir==b.dir&&a.data==b.data&&(a.entries.length==b.entries.length)&&(!v||a.version==b.version)):=by
  subst h47 h37 h28 h19 h12;have e:((a.entries.length:Int) != (b.entries.length:Int))=!(a.entries.length==b.entries.length):=by
   rw[Yu];simp;omega
  rw[e];simp only[bne];cases (a.fid==b.fid)<;>cases (a.dir==b.dir)<;>cases (a.data==b.data)<;>cases (a.entries.length==b.entries.length)<;>cases v<;>cases (a.version==b.version)<;>rfl
 refine wD (λh=>?_) (λh=>?_)
 ·rw[hdiff] at h;refine wGT ?_;have:dm v a b=false:=by
   unfold dm;have hn:decide (a.entries=b.entries)=true->(a.entries.length==b.entries.length)=true:=λh=>by
    rw[of_decide_eq_true h];simp
   revert h hn
   cases (a.fid==b.fid)<;>cases (a.dir==b.dir)<;>cases (a.data==b.data)<;>cases (a.entries.length==b.entries.length)<;>cases v<;>cases (a.version==b.version)<;>cases decide (a.entries=b.entries)<;>simp
  rw[this]
 rw[hdiff] at h;have hl:a.entries.length=b.entries.length:=by
  revert h
  cases e:(a.entries.length==b.entries.length)
  ·simp
  ·intro _;simpa using e
 have hsn:dm v a b=decide (a.entries=b.entries):=by
  unfold dm
  revert h
  cases (a.fid==b.fid)<;>cases (a.dir==b.dir)<;>cases (a.data==b.data)<;>cases (a.entries.length==b.entries.length)<;>cases v<;>cases (a.version==b.version)<;>simp
 rw[hsn];clear h12 h19 h28 h37 h47;refine wG ?_;refine ZL (λi:Nat=>i<=a.entries.length/\a.entries.take i=b.entries.take i) (λi=>a.entries.length-i) (λi=>(7,.any)::(51,.int .i64 i)::u0 52 14 []) (λ_=>[]) 0 ⟨by omega,by simp⟩ ?_ λi hi=>?_
 ·exact wZ
 obtain ⟨hi,hs⟩:=hi;simp only[go_sem];refine wGD (λh=>?_) (λh=>?_)
 ·have hlt:=lt1 h;have hltb:i<b.entries.length:=by omega
  have hga:=Fam.getD (f:=ZE) hlt;have hgb:=Fam.getD (f:=ZE) hltb;have htk:=xi hs hlt hltb;have htd:=xh (a:=a.entries) (b:=b.entries) (i:=i);generalize a.entries.getD i default=x at hga htk htd;generalize b.entries.getD i default=y at hgb htk htd;refine wGS ?_;refine sNq 10 ?_ ?_ z6 z6 WW
  ·simp[hga,hgb,ZE,hlt,hltb]
  refine sE ?_;refine ff rfl w9 rfl (uS tK rfl (tys:=[9,3]) w9 z7 z7 z6 Zg) rfl ?_;refine wKd ?_;have hxy:(x.name==y.name&&x.fid==y.fid)=decide (x=y):=by
   obtain ⟨n1,f1⟩:=x;obtain ⟨n2,f2⟩:=y
   by_cases h1:n1=n2<;>by_cases h2:f1=f2<;>simp[h1,h2]
  simp only[go_sem,Bool.and_true,hxy];refine wGD (λh=>?_) (λh=>?_)
  ·have hne:x≠y:=by simpa using h
   have:=htd hne;refine wGT ?_;simp[this]
  ·have heq:x=y:=by simpa using h
   have hw:=wi1 (i:=i) z8;refine wG ?_ w4 y7;refine ZB ⟨i+1,⟨by omega,htk heq⟩,by omega,ZU ?_ ?_ ?_⟩
   ·simp[go_sem];exact hw
   ·simp[go_sem]
   ·simp[go_sem]
 ·have e:i=a.entries.length:=by simp at h;omega
  have hab:a.entries=b.entries:=by
   rw[e,W4,hl,W4] at hs;exact hs
  refine wGT ?_;simp[hab]
theorem oF {l:List Node} (hl:Small l) {n:Node} (hn:n.Small) (hlen:l.length<=99999999):Small (aI l n):=by
 refine ⟨by have:=rO l n;omega,λx hx=>?_⟩;unfold aI at hx;split at hx
 ·rcases Yg hx with h | rfl
  ·exact hl.each x h
  ·exact hn
 ·rcases List.mem_append.1 hx with h | h
  ·exact hl.each x (YF h)
  ·rcases List.mem_cons.1 h with rfl | h
   ·exact hn
   ·exact hl.each x (YY h)
theorem pe {n:Node} (hn:n.Small) (s:List UInt8) (f:Int) (h:n.entries.length<=99999999):(aC n s f).Small:=by
 refine ⟨hn.data,?_⟩
 show (bF n.entries s f).length<=_
 unfold bF;split
 ·simp;omega
 ·have:=qk n.entries s;simp;omega
theorem py {n:Node} (hn:n.Small) (s:List UInt8):(aE n s).Small:=
 ⟨hn.data,by
  have:=W8 (λe:Entry=>!(e.name==s)) n.entries;have:=hn.entries
  show (dv n.entries s).length<=_
  unfold dv;omega⟩
def bG (l:List Node) (a:Act):Int:=if eM l a.dir=0 then (match ba (ar l a.dir) a.name with
 | none=>6
 | some f=>if f=a.fid then 0 else 13) else eM l a.dir
theorem Ae (l:List Node) (a:Act) (v:Int) (hl:Small l) (hname:a.name.length<=100000000) (G Y N:Nat->Nat):aj prog 178 [.ptr 15 9 0 0] (dH (ZD l a v) G Y N)
  (λr H=>r=.tup [.agg (ZN (ar l a.dir)),.int .i64 (bG l a)]/\∀i b,aa (dH (ZD l a v) G Y N) i=some b->aa H i=some b):=by
 have hsm:(ar l a.dir).Small:=hl.find a.dir;unfold bG;unfold dH;refine wS func178 ntmps178 results178 λC=>?_
 refine wGq ?_ ?_ k0
 ·simp[ZD]
 refine wP ?_ [15] func174 (hf:=Bs l a v a.dir hl);generalize hgn:ar l a.dir=n at hsm;generalize hge:eM l a.dir=e;refine wGq ?_ ?_ w5
 ·simp[ZN]
 refine wD (λh=>?_) (λh=>?_)
 ·have he:e≠0:=by simpa using h
  refine wGq ?_ ?_ w5
  ·simp[ZN]
  refine wU ?_ (df ?_ ?_)
  ·simp[ZN,he]
  ·simp[go_sem,ZD]
  ·simp[go_sem]
 have he:e=0:=by simpa using h
 subst he;refine wGS ?_;refine sNq 6 ?_ ?_ z6 z6 QQ
 ·simp[ZN,ZD]
 refine sC ?_ func104 (hf:=kH n a.name hsm);cases hen:ba n a.name with
 | none=>
  simp only[eV];refine sG ?_;refine wX ?_;refine wGD (λh=>?_) (λh=>?_)
  ·refine wGq ?_ ?_ w5
   ·simp[ZN]
   refine wU ?_ (df ?_ ?_)
   ·simp[ZN]
   ·simp[go_sem,ZD]
   ·simp[go_sem]
  ·cases h
 | some f=>
  simp only[eV];refine sG ?_;refine wX ?_;refine wGD (λh=>?_) (λh=>?_)
  ·cases h
  refine wGq ?_ ?_ k0
  ·simp[ZD]
  refine wD (λh=>?_) (λh=>?_)
  ·have hf:¬f=a.fid:=by simpa using h
   refine wGq ?_ ?_ w5
   ·simp[ZN]
   refine wU ?_ (df ?_ ?_)
   ·simp[ZN,hf]
   ·simp[go_sem,ZD]
   ·simp[go_sem]
  ·have hf:f=a.fid:=by simpa using h
   refine wGq ?_ ?_ w5
   ·simp[ZN]
   refine wU ?_ (df ?_ ?_)
   ·simp[ZN,hf]
   ·simp[go_sem,ZD]
   ·simp[go_sem]
def da (l:List Node) (a:Act):Int:=if eM l a.dir=0 then (if cf (ar l a.dir) a.name=0 then (if (bf l a.fid||a.fid==0)=true then 13 else if l.length≥24 then 5 else 0) else cf (ar l a.dir) a.name) else eM l a.dir
def dX (a:Act) (v:Int):Node:=⟨a.fid,a.kind==2,[],[],v⟩
def dY (l:List Node) (a:Act) (v:Int):List Node:=if da l a=0 then aI (aI l { aC (ar l a.dir) a.name a.fid with version:=v }) (dX a v) else l
theorem Jf (l:List Node) (a:Act) (v:Int) (hl:Small l) (hlen:l.length<=99999990) (hent:∀n,n∈l->n.entries.length<=99999990) (hname:a.name.length<=100000000) (G Y N:Nat->Nat):aj prog 148 [.ptr 15 9 0 0] (dH (ZD l a v) G Y N)
  (λr H=>r=.int .i64 (da l a)/\∀i b,aa (dH (ZD (dY l a v) a v) G Y N) i=some b->aa H i=some b):=by
 have hsm:(ar l a.dir).Small:=hl.find a.dir;have hen:(ar l a.dir).entries.length<=99999999:=by
  unfold ar;cases e:ak l a.dir with
  | none=>simp[ax]
  | some n=>have:=hent n (qn e);simp only[Option.getD_some];omega
 have hmE:dY l a v=if da l a=0 then aI (aI l { aC (ar l a.dir) a.name a.fid with version:=v }) (dX a v) else l:=rfl;rw[hmE];unfold da;unfold dH;refine wS func148 ntmps148 results148 λC=>?_
 refine wGq ?_ ?_ k0
 ·simp[ZD]
 refine wP ?_ [15] func174 (hf:=Bs l a v a.dir hl);have hee:=zc (ar l a.dir) a.name a.fid hsm;have hes:=pe hsm a.name a.fid hen;have hsv:({ aC (ar l a.dir) a.name a.fid with version:=v }:Node).Small:=⟨hes.data,hes.entries⟩;have hl1:=oF hl hsv z8;have hp1:=qO l a v (aC (ar l a.dir) a.name a.fid) hl hes;have hp2:=qO (aI l { aC (ar l a.dir) a.name a.fid with version:=v }) a v (dX a 0) hl1 ⟨by simp[dX],by simp[dX]⟩;have hmv:({ dX a 0 with version:=v }:Node)=dX a v:=rfl;rw[hmv] at hp2;generalize aI (aI l { aC (ar l a.dir) a.name a.fid with version:=v }) (dX a v)=l2 at hp2;generalize aI l { aC (ar l a.dir) a.name a.fid with version:=v }=l1 at hp1 hp2 hl1;have hp3:∀(G Y N:Nat->Nat),aj prog 176 [.ptr 15 9 0 0,.agg [.int .i64 a.fid,.bool (a.kind==2),.nils,.nils,.int .i64 0]] (dH (ZD l1 a v) G Y N) (λr H=>r=.tup []/\∀i b,aa (dH (ZD l2 a v) G Y N) i=some b->aa H i=some b):=λG Y N=>aj.nrm rfl (hp2 G Y N)
 generalize aC (ar l a.dir) a.name a.fid=en at hee hp1;generalize hgn:ar l a.dir=n at hsm hee;generalize hge:eM l a.dir=e;refine wGq ?_ ?_ w5
 ·simp[ZN]
 refine wD (λh=>?_) (λh=>?_)
 ·have he:e≠0:=by simpa using h
  refine wG ?_;refine wU ?_ (df ?_ ?_)
  ·simp[he]
  ·simp[go_sem,ZD,he]
  ·simp[go_sem]
 have he:e=0:=by simpa using h
 subst he;simp only[if_true];refine wGS ?_;refine sNq 6 ?_ ?_ z6 z6 QQ
 ·simp[ZN,ZD]
 refine sC ?_ func175 (hf:=Dl n a.name hsm hname);generalize hre:cf n a.name=e2;refine sG ?_;refine wX ?_;refine wGD (λh=>?_) (λh=>?_)
 ·have he:e2≠0:=by simpa using h
  refine wG ?_;refine wU ?_ (df ?_ ?_)
  ·simp[he]
  ·simp[go_sem,ZD,he]
  ·simp[go_sem]
 have he:e2=0:=by simpa using h
 subst he;simp only[if_true];refine wGS ?_;refine sNq 9 ?_ ?_ z6 z6 k0
 ·simp[ZD]
 refine sC ?_ func82 (hf:=dM l a.fid hl);simp only[go_sem,fT];generalize (ak l a.fid).getD ax=x;generalize bf l a.fid=z;refine sG ?_;refine sW ?_;simp only[go_sem,ZN];refine sT ?_;refine sE ?_;refine dS ?_;refine wKn ?_;refine wR ?_;refine wN 1 ?_;refine wNm 44 λc44 h44=>?_
 subst h44;cases hz:(z||a.fid==0) with
 | true=>
  refine wNq 8 ?_ ?_ z6 z6 k0
  ·cases z<;>simp[ZD]
  have hb:(bif z then true else a.fid==0)=true:=by rw[<-hz];cases z<;>rfl
  simp only[go_sem,hb];refine wGD (λh=>?_) (λh=>?_)
  ·refine wG ?_;refine wU ?_ (df ?_ ?_)
   ·simp
   ·simp[go_sem,ZD]
   ·simp[go_sem]
  ·cases h
 | false=>
  refine wNq 8 ?_ ?_ z6 z6 k0
  ·cases z<;>simp[ZD]
  have hb:(bif z then true else a.fid==0)=false:=by rw[<-hz];cases z<;>rfl
  simp only[go_sem,hb];refine wGD (λh=>?_) (λh=>?_)
  ·cases h
  refine wGq ?_ ?_ k0
  ·simp[ZD]
  refine wD (λh=>?_) (λh=>?_)
  ·have h24:l.length≥24:=by simp at h;omega
   refine wG ?_;refine wU ?_ (df ?_ ?_)
   ·simp[h24]
   ·simp[go_sem,ZD,h24]
   ·simp[go_sem]
  have h24:¬l.length≥24:=by simp at h;omega
  simp only[h24,if_false,if_true];refine wGS ?_;refine sNq 12 ?_ ?_ z6 z6 QQ
  ·simp[ZN,ZD]
  refine sC ?_ func177 (hf:=hee);refine sE ?_;refine ff rfl w9 rfl (wTP [15] func176 (hf:=hp1)) rfl ?_;refine wKn ?_;refine wGS ?_;refine sNq 12 ?_ ?_ z6 z6 QQ
  ·simp[ZN,ZD]
  refine sB ?_;refine sE ?_;refine ff rfl w9 rfl (wTP [15] func176 (hf:=hp3)) rfl ?_;refine wKG ?_;refine wU ?_ (df ?_ ?_)
  ·simp
  ·simp[go_sem]
  ·simp[go_sem]
def cU (l:List Node) (a:Act):Int:=if bG l a=0 then (match ak l a.fid with
 | none=>12
 | some x=>if x.entries.length>0 then 10 else 0) else bG l a
def cV (l:List Node) (a:Act) (v:Int):List Node:=if cU l a=0 then eQ (aI l { aE (ar l a.dir) a.name with version:=v }) a.fid else l
theorem Eu (l:List Node) (a:Act) (v:Int) (hl:Small l) (hlen:l.length<=99999990) (hname:a.name.length<=100000000) (G Y N:Nat->Nat):aj prog 150 [.ptr 15 9 0 0] (dH (ZD l a v) G Y N)
  (λr H=>r=.int .i64 (cU l a)/\∀i b,aa (dH (ZD (cV l a v) a v) G Y N) i=some b->aa H i=some b):=by
 have hsm:(ar l a.dir).Small:=hl.find a.dir;have hmE:cV l a v=if cU l a=0 then eQ (aI l { aE (ar l a.dir) a.name with version:=v }) a.fid else l:=rfl;rw[hmE];unfold cU;unfold dH;refine wSG func150 ntmps150 results150 λC=>?_
 refine wP ?_ [15] func178 (hf:=Ae l a v hl hname);have hee:=zT (ar l a.dir) a.name hsm;have hes:=py hsm a.name;have hsv:({ aE (ar l a.dir) a.name with version:=v }:Node).Small:=⟨hes.data,hes.entries⟩;have hl1:=oF hl hsv z8;have hp1:=qO l a v (aE (ar l a.dir) a.name) hl hes;have hp2:=IL (aI l { aE (ar l a.dir) a.name with version:=v }) a.fid hl1;generalize eQ (aI l { aE (ar l a.dir) a.name with version:=v }) a.fid=l2 at hp2;generalize aI l { aE (ar l a.dir) a.name with version:=v }=l1 at hp1 hp2 hl1;generalize aE (ar l a.dir) a.name=en at hee hp1;generalize hgn:ar l a.dir=n at hsm hee;generalize hge:bG l a=e;refine wGq ?_ ?_ w5
 ·simp[ZN]
 refine wD (λh=>?_) (λh=>?_)
 ·have he:e≠0:=by simpa using h
  refine wG ?_;refine wU ?_ (df ?_ ?_)
  ·simp[he]
  ·simp[go_sem,ZD,he]
  ·simp[go_sem]
 have he:e=0:=by simpa using h
 subst he;simp only[if_true];refine wGS ?_;refine sNq 9 ?_ ?_ z6 z6 k0
 ·simp[ZD]
 refine sC ?_ func82 (hf:=dM l a.fid hl);simp only[go_sem,fT];rw[cS];cases hfd:ak l a.fid with
 | none=>
  simp only[Option.getD_none,Option.isSome_none];refine sG ?_;refine sW ?_;simp only[go_sem,ZN,ax];refine sT ?_;refine sE ?_;refine dS ?_;refine wKn ?_;refine wGD (λh=>?_) (λh=>?_)
  ·refine wG ?_;refine wU ?_ (df ?_ ?_)
   ·simp
   ·simp[go_sem,ZD]
   ·simp[go_sem]
  ·cases h
 | some x=>
  simp only[Option.getD_some,Option.isSome_some];refine sG ?_;refine sW ?_;simp only[go_sem,ZN];refine sT ?_;refine sE ?_;refine dS ?_;refine wKn ?_;refine wGD (λh=>?_) (λh=>?_)
  ·cases h
  refine wGD (λh=>?_) (λh=>?_)
  ·have h0:x.entries.length>0:=by have h2:=of_decide_eq_true h;omega
   refine wG ?_;refine wU ?_ (df ?_ ?_)
   ·simp[h0]
   ·simp[go_sem,ZD,h0]
   ·simp[go_sem]
  have h0:¬x.entries.length>0:=by have h2:=of_decide_eq_false h;omega
  simp only[h0,if_false,if_true];refine wGS ?_;refine sNq 7 ?_ ?_ z6 z6 QQ
  ·simp[ZN,ZD]
  refine sC ?_ func179 (hf:=hee);refine sE ?_;refine ff rfl w9 rfl (wTP [15] func176 (hf:=hp1)) rfl ?_;refine wKn ?_;refine wGS ?_;refine sNq 10 ?_ ?_ z6 z6 k0
  ·simp[ZD]
  refine sC ?_ func180 (hf:=hp2);refine sNq 2 ?_ ?_ z6 z6 k0
  ·simp[ZD]
  refine sE ?_;refine dSq ?_ ?_
  ·simp[go_sem,ZD]
  refine wKG ?_;refine wU ?_ (df ?_ ?_)
  ·simp
  ·simp[go_sem,ZD]
  ·simp[go_sem]
def e_ (l:List Node) (a:Act):Int:=match ak l a.fid with
 | none=>12
 | some n=>if n.dir then 9 else if a.data.length>20 then 4 else 0
def eG (l:List Node) (a:Act) (v:Int):List Node:=if e_ l a=0 then aI l { ar l a.fid with data:=a.data,version:=v } else l
theorem Hj (l:List Node) (a:Act) (v:Int) (hl:Small l) (ha:a.data.length<=100000000) (G Y N:Nat->Nat):aj prog 149 [.ptr 15 9 0 0] (dH (ZD l a v) G Y N)
  (λr H=>r=.int .i64 (e_ l a)/\∀i b,aa (dH (ZD (eG l a v) a v) G Y N) i=some b->aa H i=some b):=by
 have hsm:(ar l a.fid).Small:=hl.find a.fid;have hmE:eG l a v=if e_ l a=0 then aI l { ar l a.fid with data:=a.data,version:=v } else l:=rfl;rw[hmE];have hp1:=qO l a v { ar l a.fid with data:=a.data } hl ⟨ha,hsm.entries⟩;have hlet:({ ({ ar l a.fid with data:=a.data }:Node) with version:=v }:Node)={ ar l a.fid with data:=a.data,version:=v }:=rfl;rw[hlet] at hp1;generalize aI l { ar l a.fid with data:=a.data,version:=v }=l2 at hp1;unfold e_;unfold ar at hp1;unfold dH;refine wS func149 ntmps149 results149 λC=>?_
 refine wGS ?_;refine sNq 9 ?_ ?_ z6 z6 k0
 ·simp[ZD]
 refine sC ?_ func82 (hf:=dM l a.fid hl);simp only[go_sem,fT];rw[cS];cases hfd:ak l a.fid with
 | none=>
  simp only[Option.getD_none,Option.isSome_none];refine sG ?_;refine sW ?_;simp only[go_sem,ZN,ax];refine sT ?_;refine sE ?_;refine dS ?_;refine wKn ?_;refine wGD (λh=>?_) (λh=>?_)
  ·refine wG ?_;refine wU ?_ (df ?_ ?_)
   ·simp
   ·simp[go_sem,ZD]
   ·simp[go_sem]
  ·cases h
 | some x=>
  rw[hfd] at hp1;simp only[Option.getD_some,Option.isSome_some] at hp1 ⊢;refine sG ?_;refine sW ?_;simp only[go_sem,ZN];refine sT ?_;refine sE ?_;refine dS ?_;refine wKn ?_;refine wGD (λh=>?_) (λh=>?_)
  ·cases h
  refine wGD (λh=>?_) (λh=>?_)
  ·have h0:x.dir=true:=h;refine wG ?_;refine wU ?_ (df ?_ ?_)
   ·simp[h0]
   ·simp[go_sem,ZD,h0]
   ·simp[go_sem]
  have h0:x.dir=false:=h;refine wGq ?_ ?_ k0
  ·simp[ZD]
  refine wD (λh=>?_) (λh=>?_)
  ·have h1:a.data.length>20:=by simp at h;omega
   refine wG ?_;refine wU ?_ (df ?_ ?_)
   ·simp[h0,h1]
   ·simp[go_sem,ZD,h0,h1]
   ·simp[go_sem]
  have h1:¬a.data.length>20:=by simp at h;omega
  have hs0:(if x.dir=true then (9:Int) else if a.data.length>20 then 4 else 0)=0:=by simp[h0,h1]
  simp only[hs0,if_true];refine wGq ?_ ?_ k0
  ·simp[ZD]
  refine wP ?_ [15] func176 (hf:=hp1);refine wG ?_;refine wU ?_ (df ?_ ?_)
  ·simp
  ·simp[go_sem,ZD]
  ·simp[go_sem]
def gT (v:Bool):List Node->List Node->Bool
 | [],[]=>true
 | x::a,y::b=>dm v x y&&gT v a b
 | _,_=>false
theorem lb (v:Bool):∀(a b:List Node),gT v a b=true↔a.length=b.length/\∀j,j<a.length->dm v (a.getD j default) (b.getD j default)=true
 | [],[]=>by simp[gT]
 | [],_::_=>by simp[gT]
 | _::_,[]=>by simp[gT]
 | x::a,y::b=>by
  rw[gT,Bool.and_eq_true,lb v a b];constructor
  ·rintro ⟨h1,h2,h3⟩;refine ⟨by simp[h2],λj hj=>?_⟩;cases j with
   | zero=>simpa using h1
   | succ j=>simpa using h3 j QR
  ·rintro ⟨h2,h3⟩;refine ⟨by simpa using h3 0 w8,by simpa using h2,λj hj=>by simpa using h3 (j+1) QR⟩
theorem GG:Fo 52 [] (.sl [[.int .i64 0,.bool true,.nils,.nils,.int .i64 0]]):=by
 refine wSG func52 ntmps52 results52 λC=>?_
 refine ZZ 2 rfl (rfl) (wn ?_);refine wT ?_;rfl
def bw (l:List Node) (fid:Int):Nat->Int->Option Bool
 | 0,_=>none
 | f+1,k=>if fid=k then some true else match ak l k with
  | none=>some false
  | some n=>if n.entries.all (λe=>decide (e.fid=k)||(bw l fid f e.fid).isSome) then some (n.entries.any λe=>!(decide (e.fid=k))&&(bw l fid f e.fid).getD false) else none
theorem Ba (l:List Node) (fid k:Int) (e:Entry) (b:Bool) (h:e.fid≠k->Fo 181 [.sl (l.map ZN),.int .i64 fid,.int .i64 e.fid] (.bool b)) :
  Fo 215 [.agg (ZE e),.rp [.int .i64 k] 0,.rp [.sl (l.map ZN)] 0,.rp [.int .i64 fid] 0] (.bool (!(decide (e.fid=k))&&b)):=by
 unfold ZE;refine wS func215 ntmps215 results215 λC=>?_
 refine wR ?_;refine wN 2 ?_;refine wR ?_;refine ZZ 4 rfl (rfl) (wn ?_);refine wN 4 ?_;refine wNm 9 λc9 h9=>?_
 cases c9 with
 | true=>
  have hne:e.fid≠k:=by simpa using h9
  refine wG ?_;refine wCC ?_ func181 (hf:=λhb=>(h hne));refine wGT ?_;simp[hne]
 | false=>
  have hne:e.fid=k:=by simpa using h9
  refine wG ?_;refine fF (.bool false) rfl ?_;simp only[go_sem];refine wGT ?_;simp[hne]
theorem Bb (l:List Node) (hl:Small l) (fid:Int) (f:Nat) (ih:∀(k:Int) (b:Bool),bw l fid f k=some b->Fo 181 [.sl (l.map ZN),.int .i64 fid,.int .i64 k] (.bool b)) (k:Int) (b:Bool) (hb:bw l fid (f+1) k=some b) :
  Fo 181 [.sl (l.map ZN),.int .i64 fid,.int .i64 k] (.bool b):=by
 unfold bw at hb;refine wS func181 ntmps181 results181 λC=>?_
 refine wGD (λh=>?_) (λh=>?_)
 ·have e:fid=k:=by simpa using h
  rw[if_pos e] at hb;refine wGT ?_;simpa using hb
 have e:¬fid=k:=by simpa using h
 rw[if_neg e] at hb;refine ZZ 3 rfl (rfl) ?_;refine ZZ 4 rfl (rfl) ?_;refine ZZ 5 rfl (rfl) (wn ?_);refine wG ?_;refine wC ?_ func82 (hf:=dM l k hl);have hsm:=hl.find k;simp only[go_sem,fT];rw[cS];generalize hfd:ak l k=o at hb hsm;cases o with
 | none=>
  simp only[Option.getD_none,Option.isSome_none] at hb ⊢;refine wGq ?_ ?_ QP
  ·simp[ZN]
  refine wD (λh=>?_) (λh=>?_)
  ·refine wGT ?_;simpa using hb
  ·cases h
 | some n=>
  simp only[Option.getD_some,Option.isSome_some] at hb hsm ⊢;split at hb
  ·rename_i hall;injection hb with hb
   have hcl:=oe n.entries hsm.entries (f:=215) (caps:=[.rp [.int .i64 k] 0,.rp [.sl (l.map ZN)] 0,.rp [.int .i64 fid] 0]) (p:=λe=>!(decide (e.fid=k))&&(bw l fid f e.fid).getD false) ⟨_,Go.Proofs.Tryz.func215,by kernel_rfl,rfl⟩ rfl (λx hx=>Ba l fid k x ((bw l fid f x.fid).getD false) (λhne=>by
    have h1:=List.all_eq_true.1 hall x hx;simp only[hne,decide_false,Yv] at h1;cases h2:bw l fid f x.fid with
    | none=>rw[h2] at h1;cases h1
    | some c=>exact ih x.fid c h2))
   refine wGq ?_ ?_ w5
   ·simp[ZN]
   refine wD (λh=>?_) (λh=>?_)
   ·cases h
   refine wGq ?_ ?_ w5
   ·simp[ZN]
   refine wC ?_ func214 (hf:=hcl);refine wGT ?_;simpa using hb
  ·cases hb
theorem xl (l:List Node) (hl:Small l) (fid:Int):∀(f:Nat) (k:Int) (b:Bool),bw l fid f k=some b->Fo 181 [.sl (l.map ZN),.int .i64 fid,.int .i64 k] (.bool b)
 | 0,_,_,h=>by cases h
 | f+1,k,b,h=>Bb l hl fid f (xl l hl fid f) k b h
theorem EM (a b:Node) (ha:a.Small) (hb:b.Small):Fo 122 [.agg (ZN a),.agg (ZN b)] (.bool (dm false a b)):=by
 have hla:=ha.entries;have hlb:=hb.entries;unfold ZN;refine wS func122 ntmps122 results122 λC=>?_
 refine wR ?_;refine wN 3 ?_;refine wR ?_;refine ZZ 2 rfl (rfl) ?_;refine ZZ 3 rfl (rfl) (wn ?_);refine wN 5 ?_;refine wNm 9 λc9 h9=>?_
 refine wN 7 ?_;refine wNm 16 λc16 h16=>?_
 refine wN 5 ?_;refine wCC ?_ func123 (hf:=λhb=>(vd a.data b.data));refine wN 1 ?_;refine wNm 23 λc23 h23=>?_
 refine wN 5 ?_;refine wCC ?_ func124 (hf:=λhb=>(rZ a.entries b.entries hla hlb));refine wGT ?_;subst h23 h16 h9;unfold dm;cases (a.fid==b.fid)<;>cases (a.dir==b.dir)<;>cases (a.data==b.data)<;>cases decide (a.entries=b.entries)<;>rfl
end La
namespace La
open Go Go.Eng Go.Proofs Go.Proofs.Tryz
open Classical in
noncomputable def kq (l:List Node) (fid k:Int):Bool:=decide (∃f,bw l fid f k=some true)
def toN (l:List Node) (a:Act):Node:=if a.to=a.dir then aE (ar l a.dir) a.name else ar l a.to
noncomputable def dy (l:List Node) (a:Act):Int:=if bG l a=0 then (if eM l a.to=0 then (if cf (toN l a) a.toName=0 then (if bf l a.fid=true then (if kq l a.to a.fid=true then 11 else 0) else 12) else cf (toN l a) a.toName) else eM l a.to) else bG l a
noncomputable def dp (l:List Node) (a:Act) (v:Int):List Node:=if dy l a=0 then aI (if a.to=a.dir then l else aI l { aE (ar l a.dir) a.name with version:=v }) { aC (toN l a) a.toName a.fid with version:=v } else l
noncomputable def aF (l:List Node) (a:Act):Int:=if a.kind=1 then da l a else if a.kind=2 then da l a else if a.kind=3 then e_ l a else if a.kind=4 then cU l a else if a.kind=5 then dy l a else 1
noncomputable def aK (l:List Node) (a:Act) (v:Int):List Node:=if a.kind=1 then dY l a v else if a.kind=2 then dY l a v else if a.kind=3 then eG l a v else if a.kind=4 then cV l a v else if a.kind=5 then dp l a v else l
noncomputable def ob (l:List Node) (a:Act) (v:Int):AV:=if aF l a=0 then .tup [.sl ((aK l a v).map ZN),.int .i64 0] else .tup [.sl [],.int .i64 (aF l a)]
structure FitA (l:List Node) (a:Act):Prop where
 small:Small l
 len:l.length<=99999990
 ent:∀n,n∈l->n.entries.length<=99999990
 name:a.name.length<=100000000
 toName:a.toName.length<=100000000
 data:a.data.length<=100000000
theorem Dy (l:List Node) (a:Act) (v:Int) (hf:FitA l a)
  (hren:a.kind=5->∀(G Y N:Nat->Nat),aj prog 151 [.ptr 15 9 0 0] (dH (ZD l a v) G Y N) (λr H=>r=.int .i64 (dy l a)/\∀i b,aa (dH (ZD (dp l a v) a v) G Y N) i=some b->aa H i=some b)) :
  Fo 109 [.sl (l.map ZN),.agg (ZA a),.int .i64 v] (if aF l a=0 then .tup [.sl ((aK l a v).map ZN),.int .i64 0] else .tup [.nils,.int .i64 (aF l a)]):=by
 have hl:=hf.small;have c1:=Jf l a v hl hf.len hf.ent hf.name;have c3:=Hj l a v hl hf.data;have c4:=Eu l a v hl hf.len hf.name;generalize hE:aF l a=e;generalize hL:aK l a v=L;refine wS func109 ntmps109 results109 λC=>?_
 refine wGq ?_ ?_ QY
 ·simp
 refine ZZ 4 rfl (rfl) (wn ?_);refine wO ?_;refine sG ?_;refine sC ?_ func66 (hf:=lP l hl);refine sN 2 ?_ z6 z6 QY (by simp[go_sem,ZA]);refine sB ?_;refine sW ?_;refine sE ?_;refine dS ?_;refine wKn ?_;refine wGD (λh=>?_) (λh=>?_)
 ·have hk:a.kind=1:=by simpa using h
  have q1:da l a=e:=by rw[<-hE];simp[aF,hk]
  have q2:dY l a v=L:=by rw[<-hL];simp[aK,hk]
  rw[q1,q2] at c1;refine Fe ?_ (hb:=QX);refine wP ?_ [15] func148 (hf:=c1);refine wGD (λh=>?_) (λh=>?_)
  ·have he:e≠0:=by simpa using h
   refine wGT ?_;simp[he]
  ·have he:e=0:=by simpa using h
   refine wGq ?_ ?_ k0
   ·simp[ZD]
   refine wT ?_;simp[he]
 have hk1:¬a.kind=1:=by simpa using h
 refine wG ?_
 by_cases hk2:a.kind=2
 ·have hk:a.kind=2:=hk2;have q1:da l a=e:=by rw[<-hE];simp[aF,hk]
  have q2:dY l a v=L:=by rw[<-hL];simp[aK,hk]
  rw[q1,q2] at c1;refine wTG ?_ (hb:=QX);refine wP ?_ [15] func148 (hf:=c1);refine wGD (λh=>?_) (λh=>?_)
  ·have he:e≠0:=by simpa using h
   refine wGT ?_;simp[he]
  ·have he:e=0:=by simpa using h
   refine wGq ?_ ?_ k0
   ·simp[ZD]
   refine wT ?_;simp[he]
 refine wDF ?_ (hb:=by simpa using hk2);refine wGD (λh=>?_) (λh=>?_)
 ·have hk:a.kind=3:=by simpa using h
  have q1:e_ l a=e:=by rw[<-hE];simp[aF,hk]
  have q2:eG l a v=L:=by rw[<-hL];simp[aK,hk]
  rw[q1,q2] at c3;refine wG ?_;refine wP ?_ [15] func149 (hf:=c3);refine wGD (λh=>?_) (λh=>?_)
  ·have he:e≠0:=by simpa using h
   refine wGT ?_;simp[he]
  ·have he:e=0:=by simpa using h
   refine wGq ?_ ?_ k0
   ·simp[ZD]
   refine wT ?_;simp[he]
 have hk3:¬a.kind=3:=by simpa using h
 refine wGD (λh=>?_) (λh=>?_)
 ·have hk:a.kind=4:=by simpa using h
  have q1:cU l a=e:=by rw[<-hE];simp[aF,hk]
  have q2:cV l a v=L:=by rw[<-hL];simp[aK,hk]
  rw[q1,q2] at c4;refine wG ?_;refine wP ?_ [15] func150 (hf:=c4);refine wGD (λh=>?_) (λh=>?_)
  ·have he:e≠0:=by simpa using h
   refine wGT ?_;simp[he]
  ·have he:e=0:=by simpa using h
   refine wGq ?_ ?_ k0
   ·simp[ZD]
   refine wT ?_;simp[he]
 have hk4:¬a.kind=4:=by simpa using h
 refine wGD (λh=>?_) (λh=>?_)
 ·have hk:a.kind=5:=by simpa using h
  have c5:=hren hk;have q1:dy l a=e:=by rw[<-hE];simp[aF,hk]
  have q2:dp l a v=L:=by rw[<-hL];simp[aK,hk]
  rw[q1,q2] at c5;refine wG ?_;refine wP ?_ [15] func151 (hf:=c5);refine wGD (λh=>?_) (λh=>?_)
  ·have he:e≠0:=by simpa using h
   refine wGT ?_;simp[he]
  ·have he:e=0:=by simpa using h
   refine wGq ?_ ?_ k0
   ·simp[ZD]
   refine wT ?_;simp[he]
 have hk5:¬a.kind=5:=by simpa using h
 have q1:e=1:=by rw[<-hE];simp[aF,hk1,hk2,hk3,hk4,hk5]
 subst q1;refine wG ?_;refine wDT ?_ (hb:=w8);refine wGT ?_;simp
theorem Ft (l:List Node) (a:Act) (v:Int) (hf:FitA l a)
  (hren:a.kind=5->∀(G Y N:Nat->Nat),aj prog 151 [.ptr 15 9 0 0] (dH (ZD l a v) G Y N) (λr H=>r=.int .i64 (dy l a)/\∀i b,aa (dH (ZD (dp l a v) a v) G Y N) i=some b->aa H i=some b)) :
  Fo 109 [.sl (l.map ZN),.agg (ZA a),.int .i64 v] (ob l a v):=by
 refine aj.jb (Dy l a v hf hren) ?_;unfold ob;split
 ·have h1:jb ((aK l a v).map ZN)=(aK l a v).map ZN:=by
   rw[dV,Yf];exact Yj λn _=>rJ n
  simp only[nrm,fq,h1]
 ·rfl
end La
namespace La
open Go Go.Eng Go.Proofs Go.Proofs.Tryz
theorem pY (l:List Node) (fid:Int):∀(f:Nat) (k:Int) (b:Bool),bw l fid f k=some b->bw l fid (f+1) k=some b
 | 0,_,_,h=>by cases h
 | f+1,k,b,h=>by
  rw[bw] at h ⊢
  by_cases hk:fid=k
  ·rw[if_pos hk] at h ⊢;exact h
  ·rw[if_neg hk] at h ⊢;cases e:ak l k with
   | none=>rw[e] at h;exact h
   | some n=>
    rw[e] at h;simp only at h ⊢;split at h
    ·rename_i hall;injection h with h
     have key:∀x,x∈n.entries->decide (x.fid=k)=false->bw l fid (f+1) x.fid=bw l fid f x.fid:=λx hx hne=>by
      have h1:=List.all_eq_true.1 hall x hx;rw[hne,Yv] at h1;cases h2:bw l fid f x.fid with
      | none=>rw[h2] at h1;cases h1
      | some c=>exact pY l fid f x.fid c h2
     rw[if_pos (List.all_eq_true.2 λx hx=>by
      cases hne:decide (x.fid=k) with
      | true=>rfl
      | false=>rw[key x hx hne,<-hne];exact List.all_eq_true.1 hall x hx),<-h]
     congr 1
     rw[Yu,List.any_eq_true,List.any_eq_true];constructor
     ·rintro ⟨x,hx,h3⟩;refine ⟨x,hx,?_⟩;cases hne:decide (x.fid=k) with
      | true=>rw[hne] at h3;exact h3
      | false=>rw[key x hx hne,hne] at h3;exact h3
     ·rintro ⟨x,hx,h3⟩;refine ⟨x,hx,?_⟩;cases hne:decide (x.fid=k) with
      | true=>rw[hne] at h3;exact h3
      | false=>rw[hne] at h3;rw[key x hx hne];exact h3
    ·cases h
theorem uZ {l:List Node} {fid k:Int} {b:Bool} {f g:Nat} (hfg:f<=g) (h:bw l fid f k=some b):bw l fid g k=some b:=by
 obtain ⟨d,rfl⟩:=Nat.exists_eq_add_of_le hfg;clear hfg
 induction d with
 | zero=>exact h
 | succ d ih=>exact pY l fid _ k b ih
open Classical in
theorem CF {l:List Node} {fid k:Int} {b:Bool} {f:Nat} (h:bw l fid f k=some b):kq l fid k=b:=by
 unfold kq;cases b with
 | true=>exact decide_eq_true ⟨f,h⟩
 | false=>
  refine decide_eq_false ?_;rintro ⟨g,hg⟩
  rcases Nat.le_total f g with hle | hle
  ·rw[uZ hle h] at hg;cases hg
  ·rw[uZ hle hg] at h;cases h
theorem tQ {l:List Node} (hl:Small l) (k:Int):(ar l k).Small:=hl.find k
theorem Ev (l:List Node) (a:Act) (v:Int) (hf:FitA l a) (f:Nat) (hw:bw l a.to f a.fid=some (kq l a.to a.fid)) (G Y N:Nat->Nat):aj prog 151 [.ptr 15 9 0 0] (dH (ZD l a v) G Y N)
  (λr H=>r=.int .i64 (dy l a)/\∀i b,aa (dH (ZD (dp l a v) a v) G Y N) i=some b->aa H i=some b):=by
 have hl:=hf.small;have hlen:=hf.len;have hmE:dp l a v=if dy l a=0 then aI (if a.to=a.dir then l else aI l { aE (ar l a.dir) a.name with version:=v }) { aC (toN l a) a.toName a.fid with version:=v } else l:=rfl;rw[hmE];unfold dy;have hwi:=xl l hl a.to f a.fid _ hw;generalize kq l a.to a.fid=wb at hwi;have hsn:=tQ hl a.dir;have hst:=tQ hl a.to;have hent:∀k,(ar l k).entries.length<=99999990:=λk=>by
  unfold ar;cases e:ak l k with
  | none=>simp[ax]
  | some n=>exact hf.ent n (qn e)
 have hlv:=zT (ar l a.dir) a.name hsn;have hls:=py hsn a.name;have hto:(toN l a).Small:=by unfold toN;split;exact hls;exact hst
 have htoe:(toN l a).entries.length<=99999990:=by
  unfold toN;split
  ·have h1:=W8 (λe:Entry=>!(e.name==a.name)) (ar l a.dir).entries;have h2:=hent a.dir;have h3:(aE (ar l a.dir) a.name).entries.length<=(ar l a.dir).entries.length:=h1;omega
  ·exact hent a.to
 have hroom:=Dl (toN l a) a.toName hto hf.toName;have hent2:=zc (toN l a) a.toName a.fid hto;have hens:=pe hto a.toName a.fid z8;have hp1:=qO l a v (aE (ar l a.dir) a.name) hl hls;have hl1:Small (if a.to=a.dir then l else aI l { aE (ar l a.dir) a.name with version:=v }):=by
  split
  ·exact hl
  ·exact oF hl ⟨hls.data,hls.entries⟩ z8
 have hp2:=qO (if a.to=a.dir then l else aI l { aE (ar l a.dir) a.name with version:=v }) a v (aC (toN l a) a.toName a.fid) hl1 hens;have hT:toN l a=if a.to=a.dir then aE (ar l a.dir) a.name else ar l a.to:=rfl;unfold dH;refine wSG func151 ntmps151 results151 λC=>?_
 refine wP ?_ [15] func178 (hf:=Ae l a v hl hf.name);generalize aI (if a.to=a.dir then l else aI l { aE (ar l a.dir) a.name with version:=v }) { aC (toN l a) a.toName a.fid with version:=v }=l2 at hp2;generalize aC (toN l a) a.toName a.fid=en at hent2 hp2;generalize toN l a=T at *;generalize aE (ar l a.dir) a.name=lv at *;generalize ar l a.dir=n at *;generalize hge:bG l a=e;refine wGq ?_ ?_ w5
 ·simp[ZN]
 refine wD (λh=>?_) (λh=>?_)
 ·have he:e≠0:=by simpa using h
  refine wG ?_;refine wU ?_ (df ?_ ?_)
  ·simp[he]
  ·simp[go_sem,ZD,he]
  ·simp[go_sem]
 have he:e=0:=by simpa using h
 subst he;simp only[if_true];refine wGq ?_ ?_ k0
 ·simp[ZD]
 refine wP ?_ [15] func174 (hf:=Bs l a v a.to hl);generalize ar l a.to=m at *;generalize hgd:eM l a.to=e;refine wGq ?_ ?_ w5
 ·simp[ZN]
 refine wD (λh=>?_) (λh=>?_)
 ·have he:e≠0:=by simpa using h
  refine wG ?_;refine wU ?_ (df ?_ ?_)
  ·simp[he]
  ·simp[go_sem,ZD,he]
  ·simp[go_sem]
 have he:e=0:=by simpa using h
 subst he;simp only[if_true];refine wGS ?_;refine sNq 11 ?_ ?_ z6 z6 k0
 ·simp[ZD]
 refine wX ?_;refine wD (λh=>?_) (λh=>?_)
 ·have htd:a.to=a.dir:=by simpa using h
  simp only[htd,if_true] at hT hp2;subst hT;refine wGS ?_;refine sNq 6 ?_ ?_ z6 z6 n3
  ·simp[ZD,ZN]
  refine sC ?_ func179 (hf:=hlv);refine sE ?_;refine dSq ?_ ?_
  ·simp[go_sem,ZN]
  refine wKn ?_;refine wGS ?_;refine sNq 6 ?_ ?_ z6 z6 n3
  ·simp[ZD,ZN]
  refine sC ?_ func175 (hf:=hroom);refine sE ?_;refine dS ?_;refine wKn ?_;generalize hgr:cf T a.toName=e;refine wGD (λh=>?_) (λh=>?_)
  ·have he:e≠0:=by simpa using h
   refine wG ?_;refine wU ?_ (df ?_ ?_)
   ·simp[he]
   ·simp[go_sem,ZD,he]
   ·simp[go_sem]
  have he:e=0:=by simpa using h
  subst he;simp only[if_true];refine wGS ?_;refine sNq 9 ?_ ?_ z6 z6 k0
  ·simp[ZD]
  refine sC ?_ func82 (hf:=dM l a.fid hl);simp only[go_sem,fT];generalize hgx:(ak l a.fid).getD ax=x;generalize hga:bf l a.fid=ia;refine sG ?_;refine sW ?_;simp only[go_sem,ZN];refine sT ?_;refine sE ?_;refine dS ?_;refine wKn ?_;refine wGD (λh=>?_) (λh=>?_)
  ·have h0:ia=false:=by simpa using h
   subst h0;refine wG ?_;refine wU ?_ (df ?_ ?_)
   ·simp
   ·simp[go_sem,ZD]
   ·simp[go_sem]
  have h0:ia=true:=by simpa using h
  subst h0;simp only[if_true];refine wGS ?_;refine sNq 14 ?_ ?_ z6 z6 k0
  ·simp[ZD]
  refine sC ?_ func181 (hf:=hwi);refine wX ?_;refine wD (λh=>?_) (λh=>?_)
  ·have h0:wb=true:=by simpa using h
   subst h0;refine wG ?_;refine wU ?_ (df ?_ ?_)
   ·simp
   ·simp[go_sem,ZD]
   ·simp[go_sem]
  have h0:wb=false:=by simpa using h
  subst h0;simp only[Bool.false_eq_true,if_false,if_true];refine wGS ?_;refine sNq 11 ?_ ?_ z6 z6 k0
  ·simp[ZD]
  refine wX ?_;refine wDF ?_ (hb:=by simp[htd]);refine wGS ?_;refine sNq 12 ?_ ?_ z6 z6 n3
  ·simp[ZD,ZN]
  refine sC ?_ func177 (hf:=hent2);refine sE ?_;refine ff rfl w9 rfl (wTP [15] func176 (hf:=hp2)) rfl ?_;refine wKG ?_;refine wU ?_ (df ?_ ?_)
  ·simp
  ·simp[go_sem,ZD]
  ·simp[go_sem]
 ·have htd:¬a.to=a.dir:=by simpa using h
  simp only[htd,if_false] at hT hp2;subst hT;generalize aI l { lv with version:=v }=l1 at *;refine wGS ?_;refine sNq 6 ?_ ?_ z6 z6 n3
  ·simp[ZD,ZN]
  refine sC ?_ func175 (hf:=hroom);refine sE ?_;refine dS ?_;refine wKn ?_;generalize hgr:cf T a.toName=e;refine wGD (λh=>?_) (λh=>?_)
  ·have he:e≠0:=by simpa using h
   refine wG ?_;refine wU ?_ (df ?_ ?_)
   ·simp[he]
   ·simp[go_sem,ZD,he]
   ·simp[go_sem]
  have he:e=0:=by simpa using h
  subst he;simp only[if_true];refine wGS ?_;refine sNq 9 ?_ ?_ z6 z6 k0
  ·simp[ZD]
  refine sC ?_ func82 (hf:=dM l a.fid hl);simp only[go_sem,fT];generalize hgx:(ak l a.fid).getD ax=x;generalize hga:bf l a.fid=ia;refine sG ?_;refine sW ?_;simp only[go_sem,ZN];refine sT ?_;refine sE ?_;refine dS ?_;refine wKn ?_;refine wGD (λh=>?_) (λh=>?_)
  ·have h0:ia=false:=by simpa using h
   subst h0;refine wG ?_;refine wU ?_ (df ?_ ?_)
   ·simp
   ·simp[go_sem,ZD]
   ·simp[go_sem]
  have h0:ia=true:=by simpa using h
  subst h0;simp only[if_true];refine wGS ?_;refine sNq 14 ?_ ?_ z6 z6 k0
  ·simp[ZD]
  refine sC ?_ func181 (hf:=hwi);refine wX ?_;refine wD (λh=>?_) (λh=>?_)
  ·have h0:wb=true:=by simpa using h
   subst h0;refine wG ?_;refine wU ?_ (df ?_ ?_)
   ·simp
   ·simp[go_sem,ZD]
   ·simp[go_sem]
  have h0:wb=false:=by simpa using h
  subst h0;simp only[Bool.false_eq_true,if_false,if_true];refine wGS ?_;refine sNq 11 ?_ ?_ z6 z6 k0
  ·simp[ZD]
  refine wX ?_;refine wDT ?_ (hb:=by simp[htd]);refine wGS ?_;refine sNq 7 ?_ ?_ z6 z6 n3
  ·simp[ZD,ZN]
  refine sC ?_ func179 (hf:=hlv);refine sE ?_;refine ff rfl w9 rfl (wTP [15] func176 (hf:=hp1)) rfl ?_;refine wKn ?_;refine wGS ?_;refine sNq 12 ?_ ?_ z6 z6 n3
  ·simp[ZD,ZN]
  refine sC ?_ func177 (hf:=hent2);refine sE ?_;refine ff rfl w9 rfl (wTP [15] func176 (hf:=hp2)) rfl ?_;refine wKG ?_;refine wU ?_ (df ?_ ?_)
  ·simp
  ·simp[go_sem,ZD]
  ·simp[go_sem]
end La
namespace La
open Go
theorem qo {l:List Node} (h:Up l) (n:Node) (k:Int):ak (aI l n) k=if k=n.fid then some n else ak l k:=by
 by_cases e:k=n.fid
 ·subst e;rw[if_pos rfl];exact B4 h n
 ·rw[if_neg e];exact (B5 h n e).symm
theorem Bw {l:List Node} (h:Up l) (f k:Int):ak (eQ l f) k=if k=f then none else ak l k:=by
 obtain ⟨h1,h2⟩:=ir h f
 by_cases e:k=f
 ·subst e;rw[if_pos rfl];exact (eS h1).2 λx hx=>((h2 x).1 hx).2
 ·rw[if_neg e];cases e1:ak l k with
  | none=>
   rw[eS h1];exact λx hx=>(eS h).1 e1 x ((h2 x).1 hx).1
  | some x=>
   obtain ⟨k1,k2⟩:=(ZO h).1 e1;exact (ZO h1).2 ⟨(h2 x).2 ⟨k1,by rw[k2];exact e⟩,k2⟩
end La
namespace La
open Go Go.Eng
def me (r:Int->Nat) (l:List Node):Prop:=∀n,n∈l->∀e,e∈n.entries->r e.fid<r n.fid
inductive Reach (l:List Node):Int->Int->Prop
 | refl (k:Int):Reach l k k
 | head (n:Node) (e:Entry) (t:Int) (hn:n∈l) (he:e∈n.entries) (h:Reach l e.fid t):Reach l n.fid t
theorem Reach.tail {l:List Node} {k:Int} {n:Node} (hn:n∈l) {e:Entry} (he:e∈n.entries) (h:Reach l k n.fid):Reach l k e.fid:=by
 generalize ht:n.fid=t at h
 induction h with
 | refl k=>subst ht;exact .head n e _ hn he (.refl _)
 | head m d t hm hd h ih=>exact .head m d _ hm hd (ih ht)
theorem rY {l:List Node} (hu:Up l) {r:Int->Nat} (hr:me r l) (t:Int):∀(f:Nat) (k:Int),r k<f->∃b,bw l t f k=some b
 | 0,k,h=>by omega
 | f+1,k,h=>by
  rw[bw];split
  ·exact ⟨_,rfl⟩
  ·cases e:ak l k with
   | none=>exact ⟨_,rfl⟩
   | some n=>
    obtain ⟨hn,hk⟩:=(ZO hu).1 e;simp only;rw[if_pos (List.all_eq_true.2 λx hx=>by
     have h1:=hr n hn x hx;obtain ⟨b,hb⟩:=rY hu hr t f x.fid (by rw[hk] at h1;omega);rw[hb,Option.isSome_some,Bool.or_true])]
    exact ⟨_,rfl⟩
theorem pZ {l:List Node} (hu:Up l) {r:Int->Nat} (hr:me r l) {k t:Int} (h:Reach l k t):∀(f:Nat) (b:Bool),bw l t f k=some b->b=true:=by
 induction h with
 | refl k=>
  intro f b hb;cases f with
  | zero=>cases hb
  | succ f=>rw[bw,if_pos rfl] at hb;injection hb with hb;exact hb.symm
 | head n e t hn he h ih=>
  intro f b hb;cases f with
  | zero=>cases hb
  | succ f=>
   rw[bw] at hb;split at hb
   ·injection hb with hb;exact hb.symm
   ·rw[(ZO hu).2 ⟨hn,rfl⟩] at hb;simp only at hb;split at hb
    ·rename_i hall;injection hb with hb
     rw[<-hb,List.any_eq_true];have hne:decide (e.fid=n.fid)=false:=decide_eq_false λh0=>by have:=hr n hn e he;rw[h0] at this;omega
     have h1:=List.all_eq_true.1 hall e he;rw[hne,Yv] at h1;refine ⟨e,he,?_⟩;cases h2:bw l t f e.fid with
     | none=>rw[h2] at h1;cases h1
     | some c=>rw[hne,ih f c h2];rfl
    ·cases hb
theorem oc {l:List Entry} {s:List UInt8} {f:Int} {x:Entry} (h:x∈bF l s f):x=⟨s,f⟩\/x∈l:=by
 unfold bF at h;split at h
 ·rcases Yg h with h | h
  ·exact .inr h
  ·exact .inl h
 ·rcases List.mem_append.1 h with h | h
  ·exact .inr (YF h)
  ·rcases List.mem_cons.1 h with h | h
   ·exact .inl h
   ·exact .inr (YY h)
theorem lI {l:List Entry} {s:List UInt8} {x:Entry} (h:x∈dv l s):x∈l:=(YI.1 h).1
theorem ga {l:List Node} {n x:Node} (h:x∈aI l n):x=n\/x∈l:=by
 unfold aI at h;split at h
 ·rcases Yg h with h | h
  ·exact .inr h
  ·exact .inl h
 ·rcases List.mem_append.1 h with h | h
  ·exact .inr (YF h)
  ·rcases List.mem_cons.1 h with h | h
   ·exact .inl h
   ·exact .inr (YY h)
structure Good (l:List Node):Prop where
 up:Up l
 dr:∃r,me r l
 len:l.length<=24
 data:∀n,n∈l->n.data.length<=20
 ent:∀n,n∈l->n.entries.length<=6
theorem Good.ends {l:List Node} (h:Good l) (t k:Int):∃f,bw l t f k=some (kq l t k):=by
 obtain ⟨r,hr⟩:=h.dr;obtain ⟨b,hb⟩:=rY h.up hr t (r k+1) k z8;exact ⟨_,by rw[CF hb];exact hb⟩
theorem jh {l:List Node} {k:Int} (h:eM l k=0):∃n,ak l k=some n/\ar l k=n/\n.dir=true:=by
 unfold eM at h;unfold ar;cases e:ak l k with
 | none=>rw[e] at h;cases h
 | some n=>
  rw[e] at h;simp only at h;cases hd:n.dir with
  | false=>rw[hd] at h;cases h
  | true=>exact ⟨n,rfl,rfl,hd⟩
theorem sJ {l:List Node} {n:Node} (h:bf l n.fid=true):(aI l n).length=l.length:=by
 unfold aI;rw[if_pos h,YN]
theorem lE {l:List Node} {k:Int} {n:Node} (h:ak l k=some n):bf l k=true:=by rw[cS,h];rfl
theorem tC (l:List Entry) (s:List UInt8) (f:Int):(bF l s f).length<=l.length+1:=by
 unfold bF;split
 ·simp
 ·have:=qk l s;simp;omega
theorem ud (l:List Entry) (s:List UInt8):(dv l s).length<=l.length:=W8 _ _
theorem uA {n:Node} {s:List UInt8} (h:cf n s=0):n.entries.length<=5:=by
 unfold cf at h;split at h
 ·split at h
  ·cases h
  ·split at h
   ·cases h
   ·omega
 ·cases h
end La
namespace La
open Go Go.Eng Go.Proofs Go.Proofs.Tryz
theorem qw {l:List Node} (h:Good l) (a:Act) (v:Int) (he:da l a=0):Good (dY l a v):=by
 have hL:dY l a v=aI (aI l { aC (ar l a.dir) a.name a.fid with version:=v }) (dX a v):=by unfold dY;rw[if_pos he]
 rw[hL];unfold da at he;split at he
 ·rename_i hd;obtain ⟨n,hf,hg,_⟩:=jh hd;rw[hg] at he ⊢;obtain ⟨hn,hnk⟩:=(ZO h.up).1 hf;split at he
  ·rename_i hro;have h5:=uA hro;split at he
   ·cases he
   ·rename_i hnew;have hno:bf l a.fid=false:=by
     cases e:bf l a.fid with
     | false=>rfl
     | true=>rw[e] at hnew;exact absurd rfl hnew
    have hnoN:∀x,x∈l->x.fid≠a.fid:=(eS h.up).1 (by
     cases e:ak l a.fid with
     | none=>rfl
     | some m=>rw[lE e] at hno;cases hno)
    split at he
    ·cases he
    ·rename_i h24;obtain ⟨r,hr⟩:=h.dr;have hfid:({ aC n a.name a.fid with version:=v }:Node).fid=n.fid:=rfl;have hu1:=bt h.up { aC n a.name a.fid with version:=v };refine ⟨(bt hu1.1 (dX a v)).1,⟨λx=>if x=a.fid then 0 else r x+1,λx hx e hx2=>?_⟩,?_,λx hx=>?_,λx hx=>?_⟩
     ·rcases ga hx with rfl | hx
      ·simp[dX] at hx2
      ·rcases ga hx with rfl | hx
       ·have hnf:n.fid≠a.fid:=hnoN n hn;have hx3:e∈bF n.entries a.name a.fid:=hx2
        show (if e.fid=a.fid then 0 else r e.fid+1)<(if n.fid=a.fid then 0 else r n.fid+1)
        rw[if_neg hnf]
        rcases oc hx3 with rfl | hx3
        ·simp
        ·have:=hr n hn e hx3;split<;>omega
       ·have hnf:x.fid≠a.fid:=hnoN x hx;have:=hr x hx e hx2;simp only;rw[if_neg hnf];split<;>omega
     ·have h1:=rO (aI l { aC n a.name a.fid with version:=v }) (dX a v);have h2:(aI l { aC n a.name a.fid with version:=v }).length=l.length:=sJ (by rw[hfid,hnk];exact lE hf);omega
     ·rcases ga hx with rfl | hx
      ·simp[dX]
      ·rcases ga hx with rfl | hx
       ·exact h.data n hn
       ·exact h.data x hx
     ·rcases ga hx with rfl | hx
      ·simp[dX]
      ·rcases ga hx with rfl | hx
       ·have:=tC n.entries a.name a.fid
        show (bF n.entries a.name a.fid).length<=6
        omega
       ·exact h.ent x hx
  ·rename_i hro;exact absurd he hro
 ·rename_i hd;exact absurd he hd
theorem tW {l:List Node} (h:Good l) (a:Act) (v:Int) (he:e_ l a=0):Good (eG l a v):=by
 have hL:eG l a v=aI l { ar l a.fid with data:=a.data,version:=v }:=by unfold eG;rw[if_pos he]
 rw[hL];unfold e_ at he;cases hf:ak l a.fid with
 | none=>rw[hf] at he;cases he
 | some n=>
  rw[hf] at he;simp only at he;obtain ⟨hn,hnk⟩:=(ZO h.up).1 hf;have hg:ar l a.fid=n:=by unfold ar;rw[hf];rfl
  rw[hg];split at he
  ·cases he
  ·split at he
   ·cases he
   ·rename_i h20;obtain ⟨r,hr⟩:=h.dr;refine ⟨(bt h.up _).1,⟨r,λx hx e hx2=>?_⟩,?_,λx hx=>?_,λx hx=>?_⟩
    ·rcases ga hx with rfl | hx
     ·exact hr n hn e hx2
     ·exact hr x hx e hx2
    ·rw[sJ (by show bf l n.fid=true;rw[hnk];exact lE hf)];exact h.len
    ·rcases ga hx with rfl | hx
     ·show a.data.length<=20;omega
     ·exact h.data x hx
    ·rcases ga hx with rfl | hx
     ·exact h.ent n hn
     ·exact h.ent x hx
theorem mU {l:List Node} {a:Act} (h:bG l a=0):∃n,ak l a.dir=some n/\ar l a.dir=n:=by
 unfold bG at h;split at h
 ·rename_i hd;obtain ⟨n,h1,h2,_⟩:=jh hd;exact ⟨n,h1,h2⟩
 ·rename_i hd;exact absurd h hd
theorem tU {l:List Node} (h:Good l) {n:Node} (hn:n∈l) (hf:ak l n.fid=some n) (s:List UInt8) (v:Int) {r:Int->Nat} (hr:me r l) :
  Good (aI l { aE n s with version:=v })/\me r (aI l { aE n s with version:=v }):=by
 have hr2:me r (aI l { aE n s with version:=v }):=λx hx e hx2=>by
  rcases ga hx with rfl | hx
  ·exact hr n hn e (lI hx2)
  ·exact hr x hx e hx2
 refine ⟨⟨(bt h.up _).1,⟨r,hr2⟩,?_,λx hx=>?_,λx hx=>?_⟩,hr2⟩
 ·rw[sJ (by show bf l n.fid=true;exact lE hf)];exact h.len
 ·rcases ga hx with rfl | hx
  ·exact h.data n hn
  ·exact h.data x hx
 ·rcases ga hx with rfl | hx
  ·have:=ud n.entries s;have:=h.ent n hn
   show (dv n.entries s).length<=6
   omega
  ·exact h.ent x hx
theorem rA {l:List Node} (h:Good l) (a:Act) (v:Int) (he:cU l a=0):Good (cV l a v):=by
 have hL:cV l a v=eQ (aI l { aE (ar l a.dir) a.name with version:=v }) a.fid:=by unfold cV;rw[if_pos he]
 rw[hL];unfold cU at he;split at he
 ·rename_i hnm;obtain ⟨n,hf,hg⟩:=mU hnm;rw[hg];obtain ⟨hn,hnk⟩:=(ZO h.up).1 hf;obtain ⟨r,hr⟩:=h.dr;obtain ⟨h1,hr1⟩:=tU h hn (by rw[hnk];exact hf) a.name v hr;have hsub:∀x,x∈eQ (aI l { aE n a.name with version:=v }) a.fid->x∈aI l { aE n a.name with version:=v }:=λx hx=>(YI.1 hx).1
  refine ⟨(ir h1.up a.fid).1,⟨r,λx hx e hx2=>hr1 x (hsub x hx) e hx2⟩,?_,λx hx=>h1.data x (hsub x hx),λx hx=>h1.ent x (hsub x hx)⟩;have:=W8 (λn:Node=>!(n.fid==a.fid)) (aI l { aE n a.name with version:=v });have:=h1.len;unfold eQ;omega
 ·rename_i hnm;exact absurd he hnm
open Classical in
theorem rB {l:List Node} (h:Good l) (a:Act) (v:Int) (he:dy l a=0):Good (dp l a v):=by
 have hL:dp l a v=aI (if a.to=a.dir then l else aI l { aE (ar l a.dir) a.name with version:=v }) { aC (toN l a) a.toName a.fid with version:=v }:=by unfold dp;rw[if_pos he]
 rw[hL];unfold dy at he;split at he
 ·rename_i hnm;obtain ⟨n,hf,hg⟩:=mU hnm;obtain ⟨hn,hnk⟩:=(ZO h.up).1 hf;split at he
  ·rename_i hdt;obtain ⟨t,htf,htg,_⟩:=jh hdt;obtain ⟨htm,htk⟩:=(ZO h.up).1 htf;split at he
   ·rename_i hro;have h5:=uA hro;split at he
    ·split at he
     ·cases he
     ·rename_i hwb;obtain ⟨f,hw⟩:=h.ends a.to a.fid;obtain ⟨r,hr⟩:=h.dr;have hnr:¬Reach l a.fid a.to:=λhR=>by
       have:=pZ h.up hr hR f _ hw;exact hwb this
      -- the node that gets the entry: that directory, some entries less
      have hTf:(toN l a).fid=a.to:=by
       unfold toN;split
       ·rename_i htd;show (ar l a.dir).fid=a.to;rw[hg,hnk,htd]
       ·rw[htg,htk]
      have hTe:∀e,e∈(toN l a).entries->e∈t.entries:=λe hx=>by
       unfold toN at hx;split at hx
       ·rename_i htd;have h1:=lI hx;rw[hg] at h1;rw[htd,hf] at htf;injection htf with htf
        rwa [<-htf]
       ·rwa [htg] at hx
      have hTd:(toN l a).data.length<=20:=by
       unfold toN;split
       ·show (ar l a.dir).data.length<=20;rw[hg];exact h.data n hn
       ·rw[htg];exact h.data t htm
      have key:∀l1:List Node,Up l1->(∀x,x∈l1->x.data.length<=20/\x.entries.length<=6)->l1.length<=24->bf l1 a.to=true ->
        (∀x,x∈l1->∃y,y∈l/\y.fid=x.fid/\∀e,e∈x.entries->e∈y.entries)->Good (aI l1 { aC (toN l a) a.toName a.fid with version:=v }):=λl1 hu1 hs1 hl1 ha1 hsub=>by
       let q:Int->Nat:=λx=>if Reach l a.fid x then r x else r x+(r a.fid+1)
       have hq:∀y,y∈l->∀e,e∈y.entries->q e.fid<q y.fid:=λy hy e hx=>by
        have h1:=hr y hy e hx
        show (if Reach l a.fid e.fid then r e.fid else r e.fid+(r a.fid+1))<(if Reach l a.fid y.fid then r y.fid else r y.fid+(r a.fid+1))
        by_cases hR:Reach l a.fid y.fid
        ·rw[if_pos hR,if_pos (hR.tail hy hx)];exact h1
        ·rw[if_neg hR];split<;>omega
       refine ⟨(bt hu1 _).1,⟨q,λx hx e hx2=>?_⟩,?_,λx hx=>?_,λx hx=>?_⟩
       ·rcases ga hx with rfl | hx
        ·have hx3:e∈bF (toN l a).entries a.toName a.fid:=hx2
         show q e.fid<q (toN l a).fid
         rw[hTf]
         rcases oc hx3 with rfl | hx3
         ·show (if Reach l a.fid a.fid then r a.fid else r a.fid+(r a.fid+1))<(if Reach l a.fid a.to then r a.to else r a.to+(r a.fid+1))
          rw[if_pos (.refl _),if_neg hnr];omega
         ·have:=hq t htm e (hTe e hx3)
          rwa [htk] at this
        ·obtain ⟨y,hy,hyf,hye⟩:=hsub x hx;have:=hq y hy e (hye e hx2)
         rwa [hyf] at this
       ·rw[sJ (by show bf l1 (toN l a).fid=true;rw[hTf];exact ha1)];exact hl1
       ·rcases ga hx with rfl | hx
        ·exact hTd
        ·exact (hs1 x hx).1
       ·rcases ga hx with rfl | hx
        ·have:=tC (toN l a).entries a.toName a.fid
         show (bF (toN l a).entries a.toName a.fid).length<=6
         omega
        ·exact (hs1 x hx).2
      split
      ·exact key l h.up (λx hx=>⟨h.data x hx,h.ent x hx⟩) h.len (lE htf) (λx hx=>⟨x,hx,rfl,λ_ h=>h⟩)
      ·rename_i htd;rw[hg];obtain ⟨h1,_⟩:=tU h hn (by rw[hnk];exact hf) a.name v hr;refine key _ h1.up (λx hx=>⟨h1.data x hx,h1.ent x hx⟩) h1.len ?_ (λx hx=>?_)
       ·have:ak (aI l { aE n a.name with version:=v }) a.to=some t:=by
         rw[qo h.up,if_neg (λe=>htd (e.trans (show n.fid=a.dir from hnk)))];exact htf
        exact lE this
       ·rcases ga hx with rfl | hx
        ·exact ⟨n,hn,rfl,λe hx2=>lI hx2⟩
        ·exact ⟨x,hx,rfl,λ_ h=>h⟩
    ·cases he
   ·rename_i hro;exact absurd he hro
  ·rename_i hdt;exact absurd he hdt
 ·rename_i hnm;exact absurd he hnm
theorem fJ {l:List Node} (h:Good l) (a:Act) (v:Int) (he:aF l a=0):Good (aK l a v):=by
 unfold aF at he;unfold aK;split at he
 ·rename_i h1;rw[if_pos h1];exact qw h a v he
 ·rename_i h1;rw[if_neg h1];split at he
  ·rename_i h2;rw[if_pos h2];exact qw h a v he
  ·rename_i h2;rw[if_neg h2];split at he
   ·rename_i h3;rw[if_pos h3];exact tW h a v he
   ·rename_i h3;rw[if_neg h3];split at he
    ·rename_i h4;rw[if_pos h4];exact rA h a v he
    ·rename_i h4;rw[if_neg h4];split at he
     ·rename_i h5;rw[if_pos h5];exact rB h a v he
     ·cases he
theorem vW:Good [⟨0,true,[],[],0⟩]:=⟨by unfold Up;simp,⟨λ_=>0,λn hn e he=>by rw[List.mem_singleton.1 hn] at he;simp at he⟩,by simp,λn hn=>by rw[List.mem_singleton.1 hn];simp,λn hn=>by rw[List.mem_singleton.1 hn];simp⟩
theorem Good.small {l:List Node} (h:Good l):Small l:=⟨by have:=h.len;omega,λn hn=>⟨by have:=h.data n hn;omega,by have:=h.ent n hn;omega⟩⟩
theorem Good.fit {l:List Node} (h:Good l) {a:Act} (h1:a.name.length<=100000000) (h2:a.toName.length<=100000000) (h3:a.data.length<=100000000):FitA l a:=
 ⟨h.small,by have:=h.len;omega,λn hn=>by have:=h.ent n hn;omega,h1,h2,h3⟩
structure ActFit (a:Act):Prop where
 name:a.name.length<=100000000
 toName:a.toName.length<=100000000
 data:a.data.length<=100000000
theorem lj {l:List Node} (h:Good l) (a:Act) (v:Int) (ha:ActFit a):Fo 109 [.sl (l.map ZN),.agg (ZA a),.int .i64 v] (ob l a v):=by
 obtain ⟨f,hf⟩:=h.ends a.to a.fid;exact Ft l a v (h.fit ha.name ha.toName ha.data) (λ_=>Ev l a v (h.fit ha.name ha.toName ha.data) f hf)
theorem xD (a b:List Node) (ha:Small a) (hb:Small b):Fo 121 [.sl (a.map ZN),.sl (b.map ZN),.fn 122 []] (.bool (gT false a b)):=by
 have hla:=ha.len;have hlb:=hb.len;refine wS func121 ntmps121 results121 λC=>?_
 refine wGD (λh=>?_) (λh=>?_)
 ·have hne:gT false a b=false:=by
   cases e:gT false a b with
   | false=>rfl
   | true=>have:=((lb false a b).1 e).1;simp[this] at h
  refine wGT ?_;simp[hne]
 have hl:a.length=b.length:=by simp at h;omega
 refine wG ?_;refine ZL (λi:Nat=>i<=a.length/\∀j,j<i->dm false (a.getD j default) (b.getD j default)=true) (λi=>a.length-i) (λi=>(7,.any)::(8,.any)::(9,.any)::(17,.int .i64 i)::u0 18 14 []) (λ_=>[]) 0 ⟨by omega,by omega⟩ ?_ λi hi=>?_
 ·exact wZ
 obtain ⟨hi,hs⟩:=hi;simp only[go_sem];refine wGD (λh=>?_) (λh=>?_)
 ·have hlt:=lt1 h;have hltb:i<b.length:=by omega
  have hga:=Fam.getD (f:=ZN) hlt;have hgb:=Fam.getD (f:=ZN) hltb;have hsm:=EM _ _ (ha.each _ (YG hlt)) (hb.each _ (YG hltb));have hno:dm false (a.getD i default) (b.getD i default)=false->gT false a b=false:=λh0=>by
   cases e:gT false a b with
   | false=>rfl
   | true=>rw[((lb false a b).1 e).2 i hlt] at h0;cases h0
  have hyes:dm false (a.getD i default) (b.getD i default)=true->∀j,j<i+1->dm false (a.getD j default) (b.getD j default)=true:=λh0 j hj=>by
   rcases Nat.lt_succ_iff_lt_or_eq.1 hj with h1 | rfl
   ·exact hs j h1
   ·exact h0
  clear hs;generalize a.getD i default=x at hga hsm hno hyes;generalize b.getD i default=y at hgb hsm hno hyes;refine wGq ?_ ?_ (by simp only[go_sem,hga,hgb,ZN];try exact rfl)
  ·simp[hga,hgb,ZN,hlt,hltb]
  refine wC ?_ func122 (hf:=hsm);refine wGD (λh=>?_) (λh=>?_)
  ·have h0:dm false x y=false:=by simpa using h
   have:=hno h0;refine wGT ?_;simp[this]
  ·have h0:dm false x y=true:=by simpa using h
   have hw:=wi1 (i:=i) z8;refine wG ?_ w4 y7;refine ZB ⟨i+1,⟨by omega,hyes h0⟩,by omega,ZU ?_ ?_ ?_⟩
   ·simp[go_sem]
   ·simp[go_sem]
   ·simp[go_sem]
 ·obtain rfl:=eq1 hi h;have hab:gT false a b=true:=(lb false a b).2 ⟨hl,hs⟩;refine wGT ?_;simp[hab]
theorem kn (a b:List Node) (ha:Small a) (hb:Small b):Fo 84 [.sl (a.map ZN),.sl (b.map ZN)] (.bool (gT false a b)):=by
 refine wSG func84 ntmps84 results84 λC=>?_
 refine wC ?_ func121 (hf:=xD a b ha hb);refine wGT ?_;rfl
def gS:Node:=⟨0,true,[],[],0⟩
theorem kA (l:List Rec) (hlen:l.length<=100000000) {f:FuncId} {caps:List AV} {p:Rec->Bool} (hcal:aJ prog f) (hpure:(caps.all AV.aW)=true)
  (hf:∀x,x∈l->aj prog f (.agg (ZR x)::caps) [] (λr _=>r=.bool (p x))) :
  Fo 186 [.sl (l.map ZR),.fn f caps] (.int .i64 (cv (l.findIdx? p))):=by
 have hcaps:=ck hpure;refine wSG func186 ntmps186 results186 λC=>?_
 refine ZL (λi:Nat=>i<=l.length/\∀x,x∈l.take i->p x=false) (λi=>l.length-i) (λi=>(8,.int .i64 i)::(5,.any)::u0 9 10 []) (λ_=>[]) 0 ⟨by omega,by simp⟩ ?_ λi hi=>?_
 ·simp only[go_sem];exact ZU w3 w3 k9
 obtain ⟨hi,hno⟩:=hi;simp only[go_sem];refine wGD (λh=>?_) (λh=>?_)
 ·have hlt:=lt1 h;have hn:=hf _ (YG hlt);have hg:=Fam.getD (f:=ZR) hlt;have htk:=ZT hlt;have hgi:l[i]? = some (l.getD i default):=by rw[List.getD_eq_getElem?_getD,Wz hlt];rfl
  generalize l.getD i default=n at hn hg htk hgi;refine wGq ?_ ?_ u6
  ·simp[hlt,ZR]
  refine dL rfl rfl z7 w3 hcal k9 (hn) w3 z6 ?_;refine wGD (λh=>?_) (λh=>?_)
  ·refine wGT ?_;rw[eR hgi hno h];rfl
  ·have hw:IntKind.i64.wrap ((i:Int)+1)=(i:Int)+1:=wrap_small z8 z8;refine wG ?_ w4 y7;refine ZB ⟨i+1,⟨by omega,?_⟩,by omega,ZU ?_ ?_ ?_⟩
   ·rw[htk];intro x hx
    rcases List.mem_append.1 hx with hx | hx
    ·exact hno x hx
    ·rw[List.mem_singleton.1 hx];exact h
   ·simp[go_sem]
   ·simp[go_sem]
   ·simp[go_sem,hcaps]
 ·have e:i=l.length:=by simp at h;omega
  refine wGT ?_;rw[e,W4] at hno;rw[YL.2 hno];rfl
theorem qP (l:List Rec) (hlen:l.length<=100000000) {f:FuncId} {caps:List AV} {p:Rec->Bool} (hcal:aJ prog f) (hpure:(caps.all AV.aW)=true)
  (hf:∀x,x∈l->aj prog f (.agg (ZR x)::caps) [] (λr _=>r=.bool (p x))) :
  Fo 183 [.sl (l.map ZR),.fn f caps] (.bool (l.any p)):=by
 have hcaps:=ck hpure;refine wSG func183 ntmps183 results183 λC=>?_
 refine dL rfl rfl z7 w3 ⟨_,func186,by kernel_rfl,rfl⟩ k9 (kA l hlen hcal hpure hf) w3 z6 ?_;refine wGT ?_;rw[mL]
theorem m_ (l:List Rec) (hlen:l.length<=100000000) (id:Nat) {f:FuncId} {caps:List AV} {p:Rec->Bool} (hcal:aJ prog f) (hpure:(caps.all AV.aW)=true) (hid:id≠7)
  (hf:∀x,x∈l->aj prog f (.agg (ZR x)::caps) [] (λr _=>r=.bool (p x))) :
  aj prog 153 [.osl id 9 0 l.length,.fn f caps] [(id,.cells 51 9 (l.map ZR))] (λr H=>r=.osl id 9 0 (l.filter λx=>!p x).length /\
   ∀i b,aa [(id,.cells 51 9 ((l.filter λx=>!p x).map ZR++List.replicate (l.length-(l.filter λx=>!p x).length) [.int .i64 0,.int .i64 0,.int .i64 0,.str [],.int .i64 0,.str [],.nils,.int .i64 0,.int .i64 0]))] i=some b->aa H i=some b):=by
 have hcaps:=ck hpure;obtain ⟨q,hv,hq⟩:=fP hpure;refine wSG func153 ntmps153 results153 λC=>?_
 refine nx rfl rfl z7 w3 Qa Z3 ⟨_,func186,by kernel_rfl,rfl⟩ (kA l hlen hcal hpure hf) w3 z6 ?_;refine wGD (λh=>?_) (λh=>?_)
 ·refine wGT ?_;have hn:l.findIdx? p=none:=by
   cases e:l.findIdx? p with
   | none=>rfl
   | some k=>rw[e] at h;simp[cv] at h
  have hfl:l.filter (λx=>!p x)=l:=Ya.2 λx hx=>by
   simp[YL.1 hn x hx]
  rw[hfl];simp[aa]
 obtain ⟨k,hk⟩:∃k,l.findIdx? p=some k:=by
  cases e:l.findIdx? p with
  | none=>rw[e] at h;simp[cv] at h
  | some k=>exact ⟨k,rfl⟩
 have hkl:k<l.length:=(YK.1 hk).1;have hsp:=fi hk;rw[hk];have hw:IntKind.i64.wrap ((k:Int)+1)=((k+1:Nat):Int):=by rw[Eng.wrap_small z8 z8];rfl
 simp only[cv];refine wG ?_ w4 y7;refine ZL (λs:Nat×List Rec=>DelInv p l s.1 s.2) (λs=>l.length-s.1) (λs=>(5,.int .i64 (((l.take s.1).filter λx=>!p x).length:Nat))::(6,.int .i64 (s.1:Nat))::(7,.any)::u0 16 20 []) (λs=>[(id,.cells 51 9 (s.2.map ZR))]) (k+1,l) (DelInv.start hk) ?_ λs hs=>?_
 ·have el:((l.take (k+1)).filter λx=>!p x).length=k:=by rw[hsp];simp;omega
  simp only[go_sem,el];exact ZU w3 w3 k9
 obtain ⟨j,L⟩:=s;have hjl:=hs.le;have hL:=hs.len;have hlt:=hs.lt;simp only at hs hjl hL hlt;simp only[go_sem];refine wGD (λh=>?_) (λh=>?_)
 ·have hj:=lt1 h;have hn:=hf _ (YG hj);have hg:(L.map ZR).getD j []=ZR (l.getD j default):=by rw[Fam.getD z8,hs.get hj]
  have hkeep:=hs.Gj hj;have hskip:=hs.skip hj;have htk:=ZT hj;generalize l.getD j default=n at hn hg hkeep hskip htk;refine wGq ?_ ?_ (by simp only[go_sem,hg,ZR,hid,Ne.symm hid];try exact rfl)
  ·simp[ZR];omega
  refine dL rfl rfl z7 w3 hcal k9 (hn) w3 z6 ?_;generalize hm:((l.take j).filter λx=>!p x).length=m at hkeep hlt;have hw1:IntKind.i64.wrap ((j:Int)+1)=((j+1:Nat):Int):=by rw[Eng.wrap_small z8 z8];rfl
  have hw2:IntKind.i64.wrap ((m:Int)+1)=((m+1:Nat):Int):=by rw[Eng.wrap_small z8 z8];rfl
  refine wG ?_ QW WL;refine wD (λh=>?_) (λh=>?_)
  ·have hp:p n=false:=by simpa using h
   obtain ⟨hk1,hk2⟩:=hkeep hp;have aG:=pU ZR L m n;simp only[ZR] at aG;have hgl:(L.map ZR).getD m []=ZR (L.getD m default):=Fam.getD z8;simp only[ZR] at hgl;refine wGq ?_ ?_ v7
   ·simp[hid,Ne.symm hid];omega
   exact ZB ⟨(j+1,L.set m n),hk1,by simp only;omega,ZU QM Qh Qd⟩
  ·have hp:p n=true:=by simpa using h
   refine wG ?_ QB Qe;have hsame:((l.take (j+1)).filter λx=>!p x).length=m:=by
    rw[<-hm,htk,List.filter_append];simp only[List.filter_cons,hp,Bool.not_true,Bool.false_eq_true,if_false,List.filter_nil,List.append_nil]
   exact ZB ⟨(j+1,L),hskip hp,by simp only;omega,ZU Zd Qp k9⟩
 have e:j=l.length:=by simp at h;omega
 subst e;have hfin:=hs.fin;rw[W4];generalize hd:(l.filter λx=>!p x)=d at *;have hdl:d.length<=l.length:=by rw[<-hd];exact W8 _ _
 have hcl:=jw ZR (d:=d) (L:=L) [.int .i64 0,.int .i64 0,.int .i64 0,.str [],.int .i64 0,.str [],.nils,.int .i64 0,.int .i64 0] hfin z8;rw[hL] at hcl;refine wGq ?_ ?_ QC
 ·simp only[not_false_eq_true,true_and];omega
 refine wT ?_;simp[aa]
theorem xG (a:Act):Fo 126 [.agg (ZA a)] (.sl ((cA a).map ZI)):=by
 unfold ZA;refine wS func126 ntmps126 results126 λC=>?_
 refine wGD (λh=>?_) (λh=>?_)
 ·refine wG ?_;refine ZZ 9 rfl (rfl) (wn ?_);refine wT ?_;simp[go_sem,cA,ZI,eq_of_beq h]
 ·refine wG ?_;have h1:a.kind≠3:=by simpa using h
  refine wD (λh=>?_) (λh=>?_)
  ·refine wG ?_;refine ZZ 18 rfl (rfl) (wn ?_);refine wT ?_;have h2:a.kind=5:=by simpa using h
   simp[go_sem,cA,ZI,h2]
  ·refine wG ?_;refine ZZ 23 rfl (rfl) (wn ?_);refine wT ?_;have h2:a.kind≠5:=by simpa using h
   simp[go_sem,cA,ZI,h1,h2]
theorem fA (a:Act):(cA a).length<=3:=by
 unfold cA;split
 ·simp
 ·split<;>simp
theorem Ge (l:List Int) (hlen:l.length<=100000000) (v:Int):Fo 217 [.sl (l.map ZI),.int .i64 v] (.int .i64 (cv (l.findIdx? (v==·)))):=by
 refine wSG func217 ntmps217 results217 λC=>?_
 refine ZL (λi:Nat=>i<=l.length/\∀x,x∈l.take i->(v==x)=false) (λi=>l.length-i) (λi=>(8,.int .i64 i)::(5,.any)::u0 9 10 []) (λ_=>[]) 0 ⟨by omega,by simp⟩ ?_ λi hi=>?_
 ·exact wY
 obtain ⟨hi,hno⟩:=hi;simp only[go_sem];refine wGD (λh=>?_) (λh=>?_)
 ·have hlt:=lt1 h;have hg:=Fam.getD (f:=ZI) hlt;have htk:=ZT hlt;have hgi:l[i]? = some (l.getD i default):=by rw[List.getD_eq_getElem?_getD,Wz hlt];rfl
  generalize l.getD i default=n at hg htk hgi;refine wGq ?_ ?_ Zr
  ·simp[hlt]
  refine wD (λh=>?_) (λh=>?_)
  ·refine wGT ?_;rw[eR hgi hno h];rfl
  ·have hw:IntKind.i64.wrap ((i:Int)+1)=(i:Int)+1:=wrap_small z8 z8;refine wG ?_ w4 y7;refine ZB ⟨i+1,⟨by omega,?_⟩,by omega,ZU ?_ ?_ ?_⟩
   ·rw[htk];intro x hx
    rcases List.mem_append.1 hx with hx | hx
    ·exact hno x hx
    ·rw[List.mem_singleton.1 hx];exact h
   ·simp[go_sem]
   ·simp[go_sem]
   ·simp only[go_sem]
 ·have e:i=l.length:=by simp at h;omega
  refine wGT ?_;rw[e,W4] at hno;rw[YL.2 hno];rfl
theorem yQ (l:List Int) (hlen:l.length<=100000000) (v:Int):Fo 187 [.sl (l.map ZI),.int .i64 v] (.bool (l.contains v)):=by
 refine wSG func187 ntmps187 results187 λC=>?_
 refine wC ?_ func217 (hf:=Ge l hlen v);refine wGT ?_;rw[mL,List.contains_eq_any_beq]
theorem Af (r:Rec) (f:Int):aj prog 155 [.rp (ZR r) 0,.int .i64 f] [] (λx _=>x=.bool (r.names f)):=by
 unfold ZR;refine wSG func155 ntmps155 results155 λC=>?_
 refine wCg ?_ func126 (hf:=xG r.act);refine wC ?_ func187 (hf:=yQ (cA r.act) (by have:=fA r.act;omega) f);refine wGT ?_;rfl
theorem cZ (a b:Bool):(bif a then b else false)=(a&&b):=by cases a<;>rfl
theorem fe (a b:Bool):(bif a then true else b)=(a||b):=by cases a<;>rfl
theorem Cx (r:Rec) (d:Int) (n:List UInt8):aj prog 185 [.rp (ZR r) 0,.int .i64 d,.str n] [] (λx _=>x=.bool (fH r.act d n)):=by
 unfold ZR;refine wS func185 ntmps185 results185 λC=>?_
 refine wGD (λh=>?_) (λh=>?_)
 ·refine wG ?_;refine wDT ?_ (hb:=h);refine wR ?_;refine wN 6 ?_;refine wNm 24 λc24 h24=>?_
  refine wN 8 ?_;refine wNm 32 λc32 h32=>?_
  refine wGT ?_;subst h32 h24;have hk:=eq_of_beq h;simp[fH,hk,cZ]
 ·refine wGD (λh=>?_) (λh=>?_)
  ·refine wG ?_;refine wDT ?_ (hb:=h);refine wR ?_;refine wN 6 ?_;refine wNm 24 λc24 h24=>?_
   refine wN 8 ?_;refine wNm 32 λc32 h32=>?_
   refine wGT ?_;subst h32 h24;have hk:=eq_of_beq h;simp[fH,hk,cZ]
  ·refine wGD (λh=>?_) (λh=>?_)
   ·refine wR ?_;refine wN 6 ?_;refine wNm 24 λc24 h24=>?_
    refine wN 8 ?_;refine wNm 32 λc32 h32=>?_
    refine wGT ?_;subst h32 h24;have hk:=eq_of_beq h;simp[fH,hk,cZ]
   ·refine wGD (λh=>?_) (λh=>?_)
    ·have hk:=eq_of_beq h;refine wR ?_;refine wN 6 ?_;refine wNm 40 λc40 h40=>?_
     refine wN 8 ?_;refine wNm 48 λc48 h48=>?_
     cases c48
     ·cases e3:(r.act.to==d)<;>cases e4:(r.act.toName==n)
      all_goals refine wG ?_ (by simp only[go_sem,e3,e4];try exact rfl) (by simp[go_sem,e3,e4])
      all_goals refine wT ?_
      all_goals rw[<-h40,cZ] at h48
      all_goals simp[fH,hk,h48,e3,e4]
     ·refine wGT ?_;rw[<-h40,cZ] at h48;simp[fH,hk,h48]
    ·refine wGT ?_
     simp_all [fH]
structure Srv where
 tree:List Node
 next:Int
 past:List Past
def ZQ (s:Srv):List AV:=[.sl (s.tree.map ZN),.int .i64 s.next,.sl (s.past.map ZP)]
@[go_sem,simp] theorem JM (s:Srv):aB (ZQ s)=[]:=rfl
theorem uW (s:Srv) (h:s.past.length<=100000000):Fo 86 [.agg (ZQ s)] (.int .i64 ((s.past.length+1:Nat):Int)):=by
 have hw:IntKind.i64.wrap ((s.past.length:Int)+1)=((s.past.length+1:Nat):Int):=by rw[Eng.wrap_small z8 z8];rfl
 unfold ZQ;refine wS func86 ntmps86 results86 λC=>?_
 refine wG ?_ w4 y7;refine wT ?_;rfl
theorem Hf:Fo 33 [] (.agg [.sl [[.int .i64 0,.bool true,.nils,.nils,.int .i64 0]],.int .i64 1,.nils]):=by
 refine wSG func33 ntmps33 results33 λC=>?_
 refine wC ?_ func52 (hf:=GG);refine wGT ?_;rfl
theorem JK:Fo 33 [] (.agg (ZQ ⟨[gS],1,[]⟩)):=aj.jb Hf rfl
structure SmallP (l:List Past):Prop where
 len:l.length<=90000000
 each:∀p,p∈l->p.act.data.length<=100000000
theorem sQ (s:Srv) (ht:Small s.tree) (hp:SmallP s.past):Fo 40 [.agg (ZQ s)] (.agg (ZQ s)):=by
 have hlen:=hp.len;unfold ZQ;refine wSG func40 ntmps40 results40 λC=>?_
 refine ZZ 1 rfl (rfl) (wn ?_);refine wO ?_;refine sN 2 ?_;refine sC ?_ func66 (hf:=lP s.tree ht);refine sN 2 ?_;refine sB ?_;refine sW ?_;refine sE ?_;refine dS ?_;refine wKG ?_;refine af (C8 28 8 3 z7 z7) ?_;refine af (le_empty 28 79 8 z7) (wn ?_);refine wL s.past.length (λi=>(5,.any)::(15,.int .i64 i)::u0 16 15 [])
  (λi=>[(3,.cells 32 3 [[.sl (s.tree.map ZN),.int .i64 s.next,.osl 28 8 0 i]]),(28,.cells 79 8 ((s.past.take i).map ZP))]) ?_ λi hi=>?_
 ·exact wY
 simp only[go_sem];refine wGD (λh=>?_) (λh=>?_)
 ·have hlt:=lt1 h;have hw:=wi1 (i:=i) z8;have hg:=Fam.getD (f:=ZP) hlt;have hs:=dI ZP hlt;have ha:=hp.each _ (YG hlt);generalize s.past.getD i default=x at *;refine wGq ?_ ?_ Zn
  ·simp[hg,ZP,hlt]
  refine ZZ 5 rfl (rfl) (wn ?_);refine wO ?_;refine sN 6 ?_;refine sC ?_ func67 (hf:=ml x.act ha);simp only[go_sem,ZA];refine sB ?_;refine sW ?_;refine sE ?_;refine iX (aY 28 3 z6 y9) ?_;simp only[go_sem];refine dSq ?_ ?_
  ·simp[go_sem,rowsOf];refine ⟨by omega,by omega,λx hx y hy hr=>?_⟩;have h1:=YF (YF hx);have:=List.all_eq_true.1 (List.all_eq_true.1 (bJ 28 s.past) x h1) y hy;simp only[Yb,List.contains_eq_mem,decide_eq_false_iff_not] at this;exact this hr
  simp only[go_sem];refine dS ?_;refine dS ?_;refine wKn ?_;refine wG ?_ w4 y7;refine ZB ⟨i+1,by omega,by omega,ZU ?_ ?_ ?_⟩
  ·simp[go_sem]
  ·simp[go_sem,hs,ZP,List.take_take]
  ·simp only[go_sem]
 ·obtain rfl:=eq1 hi h;refine wG ?_;refine ZZ 28 rfl (ea _) (wn ?_);refine wT ?_;simp
theorem AX (s:Srv) (ht:Small s.tree) (hp:SmallP s.past):aj prog 40 [.agg (ZQ s)] [] (λr H=>r=.agg [.sl (s.tree.map ZN),.int .i64 s.next,.osl 28 8 0 s.past.length]/\∀i b,aa [(28,.cells 79 8 (s.past.map ZP))] i=some b->aa H i=some b):=by
 have hlen:=hp.len;unfold ZQ;refine wSG func40 ntmps40 results40 λC=>?_
 refine ZZ 1 rfl (rfl) (wn ?_);refine wO ?_;refine sN 2 ?_;refine sC ?_ func66 (hf:=lP s.tree ht);refine sN 2 ?_;refine sB ?_;refine sW ?_;refine sE ?_;refine dS ?_;refine wKG ?_;refine af (C8 28 8 3 z7 z7) ?_;refine af (le_empty 28 79 8 z7) (wn ?_);refine wL s.past.length (λi=>(5,.any)::(15,.int .i64 i)::u0 16 15 [])
  (λi=>[(3,.cells 32 3 [[.sl (s.tree.map ZN),.int .i64 s.next,.osl 28 8 0 i]]),(28,.cells 79 8 ((s.past.take i).map ZP))]) ?_ λi hi=>?_
 ·exact wY
 simp only[go_sem];refine wGD (λh=>?_) (λh=>?_)
 ·have hlt:=lt1 h;have hw:=wi1 (i:=i) z8;have hg:=Fam.getD (f:=ZP) hlt;have hs:=dI ZP hlt;have ha:=hp.each _ (YG hlt);generalize s.past.getD i default=x at *;refine wGq ?_ ?_ Zn
  ·simp[hg,ZP,hlt]
  refine ZZ 5 rfl (rfl) (wn ?_);refine wO ?_;refine sN 6 ?_;refine sC ?_ func67 (hf:=ml x.act ha);simp only[go_sem,ZA];refine sB ?_;refine sW ?_;refine sE ?_;refine iX (aY 28 3 z6 y9) ?_;simp only[go_sem];refine dSq ?_ ?_
  ·simp[go_sem,rowsOf];refine ⟨by omega,by omega,λx hx y hy hr=>?_⟩;have h1:=YF (YF hx);have:=List.all_eq_true.1 (List.all_eq_true.1 (bJ 28 s.past) x h1) y hy;simp only[Yb,List.contains_eq_mem,decide_eq_false_iff_not] at this;exact this hr
  simp only[go_sem];refine dS ?_;refine dS ?_;refine wKn ?_;refine wG ?_ w4 y7;refine ZB ⟨i+1,by omega,by omega,ZU ?_ ?_ ?_⟩
  ·simp[go_sem]
  ·simp[go_sem,hs,ZP,List.take_take]
  ·simp only[go_sem]
 ·obtain rfl:=eq1 hi h;refine wGT ?_;simp[go_sem]
theorem KL:Fo 52 [] (.sl ([gS].map ZN)):=aj.jb GG rfl
theorem Ey (l:List Past) (st:Nat->List Node) (hlen:l.length<=90000000) (h0:st 0=[gS])
  (hs:∀i,i<l.length->Good (st i)/\ActFit (l.getD i default).act/\aF (st i) (l.getD i default).act=0/\st (i+1)=aK (st i) (l.getD i default).act ((i+1:Nat):Int)) :
  Fo 83 [.sl (l.map ZP)] (.tup [.sl ((st l.length).map ZN),.int .i64 0]):=by
 have hn:Fo 52 [] (.sl ((st 0).map ZN)):=by rw[h0];exact KL
 refine wSG func83 ntmps83 results83 λC=>?_
 refine wCg ?_ func52 (hf:=hn);refine wL l.length (λi=>(4,.sl ((st i).map ZN))::u0 5 4 ((12,.int .i64 i)::u0 13 18 [])) (λ_=>[]) ?_ λi hi=>?_
 ·exact wZ
 simp only[go_sem];refine wGD (λh=>?_) (λh=>?_)
 ·have hlt:=lt1 h;have hg:=Fam.getD (f:=ZP) hlt;have hw:=wi1 (i:=i) z8;obtain ⟨h1,h2,h3,h4⟩:=hs i hlt;have hap:=lj h1 (l.getD i default).act ((i+1:Nat):Int) h2;unfold ob at hap;rw[if_pos h3,<-h4] at hap;generalize l.getD i default=a at hg hap;refine wGq ?_ ?_ (by simp only[go_sem,hg,ZP,hw];try exact rfl)
  ·simp[hg,hlt,ZP]
  refine ZZ 6 rfl (rfl) (wn ?_);refine wC ?_ func109 (hf:=hap);refine wGD (λh=>?_) (λh=>?_)
  ·cases h
  refine wG ?_ w4 y7;exact ZB ⟨i+1,by omega,by omega,ZU w3 w3 w3⟩
 ·obtain rfl:=eq1 hi h;refine wGT ?_;rfl
def aR (a:Act):Bool:=a.kind==1||a.kind==2
def doA (s:Srv) (a:Act):Act:=if aR a then { a with fid:=s.next } else a
noncomputable def doE (s:Srv) (a:Act):Int:=aF s.tree (doA s a)
noncomputable def doS (s:Srv) (c:Int) (a:Act):Srv:=⟨aK s.tree (doA s a) ((s.past.length+1:Nat):Int),if aR a then s.next+1 else s.next,s.past++[⟨c,doA s a⟩]⟩
noncomputable def doR (s:Srv) (c:Int) (a:Act):AV:=if doE s a=0 then .tup [.agg (ZQ (doS s c a)),.int .i64 0] else .tup [.agg [.nils,.int .i64 0,.nils],.int .i64 (doE s a)]
theorem Lt (s:Srv) (c:Int) (a:Act) (hg:Good s.tree) (hp:SmallP s.past) (ha:ActFit a) (hn:s.next.natAbs<=90000000):Fo 107 [.agg (ZQ s),.int .i64 c,.agg (ZA a)] (doR s c a):=by
 have hlen:=hp.len;have hw:IntKind.i64.wrap (s.next+1)=s.next+1:=Eng.wrap_small z8 z8;have hda:ActFit (doA s a):=by unfold doA;split;exact ⟨ha.name,ha.toName,ha.data⟩;exact ha
 have hv:=uW s z8;have hap:=lj hg (doA s a) ((s.past.length+1:Nat):Int) hda;have hso:=AX s hg.small hp;have how:=ml (doA s a) hda.data;unfold ob at hap;unfold doR doS doE;unfold ZQ at hv hso ⊢;refine wS func107 ntmps107 results107 λC=>?_
 refine wGq ?_ ?_ QY
 ·simp[ZA]
 refine ZZ 3 rfl (rfl) (wn ?_);refine wD (λh=>?_) (λh=>?_)
 ·have hm:aR a=true:=by unfold aR;revert h;cases (a.kind==1)<;>simp
  have hdo:doA s a={ a with fid:=s.next }:=by unfold doA;rw[if_pos hm]
  rw[hdo] at hap how ⊢;simp only[hm,if_true];generalize aF s.tree { a with fid:=s.next }=e at *;generalize aK s.tree { a with fid:=s.next } ((s.past.length+1:Nat):Int)=L at *;refine wG ?_
  by_cases he:e=0
  ·subst he;simp only[if_true] at hap ⊢;refine ZZ 5 rfl (rfl) (wn ?_);refine wO ?_;refine sN 4 ?_;refine sC ?_ func86 (hf:=hv);refine sC ?_ func109 (hf:=hap);refine sN 5 ?_;refine wXG ?_;refine wFG ?_ (hb:=w8);refine wCG ?_ [] 972 func40 (hf:=hso);refine wGS ?_;refine sN 4 ?_;refine sC ?_ func67 (hf:=how);simp only[go_sem,ZA];refine sB ?_;refine sW ?_;refine sE ?_;refine iX (aY 1000 11 z6 y9) ?_;simp only[go_sem];refine dSq ?_ ?_
   ·simp[go_sem,rowsOf];refine ⟨by omega,λx hx y hy hr=>?_⟩;have:=List.all_eq_true.1 (List.all_eq_true.1 (bJ 1000 s.past) (ZP x) (W5.2 ⟨x,hx,rfl⟩)) y hy;simp only[Yb,List.contains_eq_mem,decide_eq_false_iff_not] at this;exact this hr
   simp only[go_sem];refine dS ?_;refine dS ?_;refine wKG ?_;refine wDT ?_ (hb:=by simpa[aR] using hm);refine wG ?_ w4 y7;refine ZZ 48 rfl Zt (wn ?_);refine wT ?_;rw[W1 w8];rfl
  ·simp only[he,if_false] at hap ⊢;refine ZZ 5 rfl (rfl) (wn ?_);refine wO ?_;refine sN 4 ?_;refine sC ?_ func86 (hf:=hv);refine sC ?_ func109 (hf:=hap);refine sN 5 ?_;refine wXG ?_;refine wDT ?_ (hb:=QE);refine wGT ?_;rfl
 ·have hm:aR a=false:=by unfold aR;revert h;cases (a.kind==1)<;>simp
  have hdo:doA s a=a:=by unfold doA;rw[if_neg (by rw[hm];simp)]
  rw[hdo] at hap how ⊢;simp only[hm,Bool.false_eq_true,if_false];generalize aF s.tree a=e at *;generalize aK s.tree a ((s.past.length+1:Nat):Int)=L at *;refine wG ?_
  by_cases he:e=0
  ·subst he;simp only[if_true] at hap ⊢;refine ZZ 5 rfl (rfl) (wn ?_);refine wO ?_;refine sN 4 ?_;refine sC ?_ func86 (hf:=hv);refine sC ?_ func109 (hf:=hap);refine sN 5 ?_;refine wXG ?_;refine wFG ?_ (hb:=w8);refine wCG ?_ [] 972 func40 (hf:=hso);refine wGS ?_;refine sN 4 ?_;refine sC ?_ func67 (hf:=how);simp only[go_sem,ZA];refine sB ?_;refine sW ?_;refine sE ?_;refine iX (aY 1000 11 z6 y9) ?_;simp only[go_sem];refine dSq ?_ ?_
   ·simp[go_sem,rowsOf];refine ⟨by omega,λx hx y hy hr=>?_⟩;have:=List.all_eq_true.1 (List.all_eq_true.1 (bJ 1000 s.past) (ZP x) (W5.2 ⟨x,hx,rfl⟩)) y hy;simp only[Yb,List.contains_eq_mem,decide_eq_false_iff_not] at this;exact this hr
   simp only[go_sem];refine dS ?_;refine dS ?_;refine wKG ?_;refine wFG ?_ (hb:=by simpa[aR] using hm);refine ZZ 48 rfl Zt (wn ?_);refine wT ?_;rw[W1 w8];rfl
  ·simp only[he,if_false] at hap ⊢;refine ZZ 5 rfl (rfl) (wn ?_);refine wO ?_;refine sN 4 ?_;refine sC ?_ func86 (hf:=hv);refine sC ?_ func109 (hf:=hap);refine sN 5 ?_;refine wXG ?_;refine wDT ?_ (hb:=QE);refine wGT ?_;rfl
structure SmallK (l:List Kept):Prop where
 len:l.length<=100000000
 each:∀k,k∈l->k.node.Small
theorem SmallK.one {k:Kept} (h:k.node.Small):SmallK [k]:=⟨by simp,λx hx=>by rw[List.mem_singleton.1 hx];exact h⟩
theorem dE {n:Node} (h:n.Small):Small [n]:=⟨by simp,λx hx=>by rw[List.mem_singleton.1 hx];exact h⟩
theorem kN (l:List Kept) (hl:SmallK l):aj prog 68 [.sl (l.map ZK)] [] (λr H=>r=.osl 22 8 0 (l.map ZK).length/\∀i b,aa [(22,.cells 138 8 (l.map ZK))] i=some b->aa H i=some b):=by
 have hlen:=hl.len;refine wSG func68 ntmps68 results68 λC=>?_
 refine wL l.length (λi=>(3,.osl 22 8 0 i)::(5,.any)::(8,.int .i64 i)::u0 9 16 [])
  (λi=>[(22,.cells 138 8 ((l.take i).map ZK))]) ?_ λi hi=>?_
 ·exact wY
 simp only[go_sem];refine wGD (λh=>?_) (λh=>?_)
 ·have hlt:=lt1 h;have hn:=hl.each _ (YG hlt);have hg:=Fam.getD (f:=ZK) hlt;have hs:=dI ZK hlt;generalize l.getD i default=n at hn hg hs;refine wGq ?_ ?_ j9
  ·simp[hlt,ZK]
  refine ZZ 14 rfl (rfl) (wn ?_);refine wC ?_ func66 (hf:=lP [n.node] (dE hn));have ht:List.take i (List.map ZK (List.take i l))=List.map ZK (List.take i l):=W1 k6;have hw:IntKind.i64.wrap ((i:Int)+1)=(i:Int)+1:=wrap_small z8 z8;refine wGq ?_ ?_ (by simp only[go_sem,ht,hw,ZN];try exact rfl)
  ·simp[rowsOf,ZN];omega
  refine ZB ⟨i+1,by omega,by omega,ZU ?_ ?_ ?_⟩
  ·simp[go_sem]
  ·simp[go_sem,hs,ZK]
  ·simp only[go_sem]
 ·obtain rfl:=eq1 hi h;refine wGT ?_;simp[go_sem]
theorem sA (l:List Kept) (hl:SmallK l):Fo 68 [.sl (l.map ZK)] (.sl (l.map ZK)):=aj.read (kN l hl) (bg _)
theorem BM (k:Kept) (fid:Int):Fo 188 [.agg (ZK k),.rp [.int .i64 fid] 0] (.bool (k.node.fid==fid)):=by
 unfold ZK;refine wS func188 ntmps188 results188 λC=>?_
 refine wGT ?_;simp
def ch (l:List Kept) (fid:Int):Option Nat:=l.findIdx? λk=>k.node.fid==fid
theorem nE (l:List Kept) (fid:Int) (hlen:l.length<=100000000):Fo 157 [.sl (l.map ZK),.int .i64 fid] (.int .i64 (cv (ch l fid))):=by
 refine wSG func157 ntmps157 results157 λC=>?_
 refine ZZ 3 rfl (rfl) (wn ?_);refine wC ?_ func119 (hf:=jE l hlen ⟨_,Go.Proofs.Tryz.func188,by kernel_rfl,rfl⟩ rfl (λx _=>BM x fid));refine wGT ?_;simp[ch]
def F8 (l:List Kept) (fid:Int):Bool:=l.any λk=>k.node.fid==fid
theorem Ly (l:List Kept) (fid:Int) (hlen:l.length<=100000000):Fo 143 [.sl (l.map ZK),.int .i64 fid] (.bool (F8 l fid)):=by
 refine wSG func143 ntmps143 results143 λC=>?_
 refine wC ?_ func157 (hf:=nE l fid hlen);refine wGT ?_;rw[ch,mL];rfl
theorem DD (k:Kept):Fo 160 [.agg (ZK k)] (.bool k.dirty):=by
 unfold ZK;refine wS func160 ntmps160 results160 λC=>?_
 refine wGT ?_;simp
theorem FD (l:List Kept) (hl:SmallK l):Fo 114 [.sl (l.map ZK)] (.sl ((l.filter λk=>!k.dirty).map ZK)):=by
 refine wSG func114 ntmps114 results114 λC=>?_
 refine wCG ?_ [] 978 func68 (hf:=kN l hl);refine wG ?_;refine wCG ?_ [1000] 100 func80 (hf:=iI l hl.len 1000 ⟨_,Go.Proofs.Tryz.func160,by kernel_rfl,rfl⟩ rfl j8 (λx _=>DD x));refine wG ?_;refine ZZ 1100 rfl Qo (wn ?_);refine wT ?_;have hle:=W8 (λk:Kept=>!k.dirty) l;generalize l.filter (λk=>!k.dirty)=d at *;rw[if_pos w8,iD w8]
theorem qD {l:List Kept} {fid:Int} {i:Nat} (h:ch l fid=some i):i<l.length:=(YK.1 h).1
def yF (l:List Kept) (fid now:Int):List Kept:=match ch l fid with
 | none=>l
 | some i=>l.set i { l.getD i default with last:=now }
theorem gZ {M:List Kept} {i:Nat} (h:i<M.length):(M.map ZK).getD i []=[.int .i64 (M.getD i default).node.fid,.bool (M.getD i default).node.dir,.sl ((M.getD i default).node.data.map ZY),.sl ((M.getD i default).node.entries.map ZE),.int .i64 (M.getD i default).node.version,.bool (M.getD i default).dirty,.int .i64 (M.getD i default).worth,.int .i64 (M.getD i default).last]:=by
 rw[Fam.getD h];rfl
theorem ke (M:List Kept) (i:Nat) (n:Kept):(M.map ZK).set i (ZK n)=(M.set i n).map ZK:=by rw[List.map_set]
def bN (at_:List Node) (k:Kept):Bool:=!k.dirty&&(!bf at_ k.node.fid||!(((ak at_ k.node.fid).getD ax).version==k.node.version))
theorem DO (at_:List Node) (k:Kept) (hat:Small at_):Fo 81 [.agg (ZK k),.rp [.sl (at_.map ZN)] 0] (.bool (bN at_ k)):=by
 unfold ZK;refine wSG func81 ntmps81 results81 λC=>?_
 refine wC ?_ func82 (hf:=dM at_ k.node.fid hat);simp only[go_sem,fT];unfold bN;generalize (ak at_ k.node.fid).getD ax=n;generalize bf at_ k.node.fid=b;refine wGq ?_ ?_ w5
 ·simp[ZN];exact λh=>⟨h,λhb=>⟨h,hb⟩⟩
 refine wT ?_;cases k.dirty<;>cases b<;>rfl
theorem tP (l:List Kept) (at_:List Node) (hl:SmallK l) (hat:Small at_):Fo 43 [.sl (l.map ZK),.sl (at_.map ZN)] (.sl ((l.filter λk=>!bN at_ k).map ZK)):=by
 refine wSG func43 ntmps43 results43 λC=>?_
 refine ZZ 3 rfl (rfl) (wn ?_);refine wCG ?_ [] 978 func68 (hf:=kN l hl);refine wG ?_;refine wCG ?_ [1000] 100 func80 (hf:=iI l hl.len 1000 ⟨_,Go.Proofs.Tryz.func81,by kernel_rfl,rfl⟩ (by simp[AV.aW]) j8 (λx _=>DO at_ x hat));refine wG ?_;refine ZZ 1100 rfl Qo (wn ?_);refine wT ?_;have hle:=W8 (λk:Kept=>!bN at_ k) l;generalize l.filter (λk=>!bN at_ k)=d at *;rw[if_pos w8,iD w8]
def ja (f:Nat->Int) (g:Nat->AV):Nat->List (Int×AV)
 | 0=>[]
 | i+1=>aU (ja f g i) (f i) (g i)
theorem lL (f:Nat->Int) (g:Nat->AV):∀i,(ja f g i).Pairwise λa b=>a.1<b.1
 | 0=>List.Pairwise.nil
 | i+1=>cu (lL f g i)
theorem pA {f:Nat->Int} {g:Nat->AV} {k:Int}:∀{i},(∀j,j<i->f j≠k)->br (ja f g i) k=none
 | 0,_=>rfl
 | i+1,h=>by
  rw[ja,kS (lL f g i),if_neg (λe=>h i z8 e.symm)];exact pA λj hj=>h j z8
theorem pB {f:Nat->Int} {g:Nat->AV} {k:Int}:∀{i j},j<i->f j=k->(∀m,j<m->m<i->f m≠k)->br (ja f g i) k=some (g j)
 | 0,_,h,_,_=>by omega
 | i+1,j,h,he,hl=>by
  rw[ja,kS (lL f g i)]
  by_cases hj:j=i
  ·subst hj;rw[if_pos he.symm]
  ·rw[if_neg (λe=>hl i z8 z8 e.symm)];exact pB z8 he λm h1 h2=>hl m h1 z8
def zg (l:List Kept) (i:Nat):Int:=(l.getD i default).node.fid
def oQ (l:List Kept) (n:Nat):Prop:=∀i,i<n->∀j,j<i->zg l j≠zg l i
instance (l:List Kept) (n:Nat):Decidable (oQ l n):=by unfold oQ;infer_instance
def sR (l:List Kept):Bool:=decide (oQ l l.length)
def gO (l:List Node) (i:Nat):Int:=(l.getD i default).fid
def kR (l:List Node) (i:Nat):List (Int×AV):=ja (gO l) (λi=>.agg (ZN (l.getD i default))) i
def Ec (l:List Node):List (Int×AV):=kR l l.length
theorem Gy {l:List Node} (h:Up l) (k:Int):br (Ec l) k=(ak l k).map λn=>.agg (ZN n):=by
 unfold Ec kR;cases e:ak l k with
 | none=>
  have hn:=(eS h).1 e;exact pA λj hj=>hn _ (YG hj)
 | some n=>
  obtain ⟨hm,hf⟩:=(ZO h).1 e;obtain ⟨j,hj⟩:=W9 hm;have hjl:j<l.length:=(W6.1 hj).1;have hjd:=lB hj;rw[pB (j:=j) hjl (by unfold gO;rw[hjd];exact hf) λm h1 h2 h3=>by
   have:=h.lt h1 h2;unfold gO at h3;rw[hjd,hf,h3] at this;omega]
  simp only[Option.map_some,hjd]
theorem mT {α β:Type} (g:α->β):∀(m:List (Int×α)) (f:Int),br (m.map λp=>(p.1,g p.2)) f=(br m f).map g
 | [],_=>rfl
 | p::r,f=>by
  simp only[List.map_cons,br,mT g r f];split<;>rfl
theorem pC {α β:Type} (g:α->β):∀(m:List (Int×α)) (f:Int) (v:α),aU (m.map λp=>(p.1,g p.2)) f (g v)=(aU m f v).map λp=>(p.1,g p.2)
 | [],_,_=>rfl
 | p::r,f,v=>by
  simp only[List.map_cons,aU,pC g r f v];split
  ·rfl
  ·split<;>rfl
theorem Gz {α β:Type} (g:α->β) (m:List (Int×α)) (f:Int):eB (m.map λp=>(p.1,g p.2)) f=(eB m f).map λp=>(p.1,g p.2):=by
 unfold eB;rw[List.filter_map];rfl
def mI (m:List (Int×Int)):List (Int×AV):=m.map λp=>(p.1,.int .i64 p.2)
def mB (m:List (Int×Bool)):List (Int×AV):=m.map λp=>(p.1,.bool p.2)
def cE (m:List (Int×Bool)) (f:Int):Bool:=(br m f).getD false
def f_ (m:List (Int×Int)) (f:Int):Int:=(br m f).getD 0
def iH (m:List (Int×Int)) (f:Int):Bool:=(br m f).isSome
@[go_sem] theorem ME (m:List (Int×Int)) (f:Int):(br (mI m) f).getD (.int .i64 0)=.int .i64 (f_ m f):=by
 unfold mI f_;rw[mT (λx=>AV.int .i64 x)];cases br m f<;>rfl
@[go_sem] theorem MF (m:List (Int×Int)) (f:Int):(br (mI m) f).isSome=iH m f:=by
 unfold mI iH;rw[mT (λx=>AV.int .i64 x)];cases br m f<;>rfl
@[go_sem] theorem MG (m:List (Int×Int)) (f x:Int):aU (mI m) f (.int .i64 x)=mI (aU m f x):=pC (λx=>AV.int .i64 x) m f x
@[go_sem] theorem MD (m:List (Int×Int)) (f:Int):eB (mI m) f=mI (eB m f):=Gz (λx=>AV.int .i64 x) m f
@[go_sem] theorem MB (m:List (Int×Bool)) (f:Int):(br (mB m) f).getD (.bool false)=.bool (cE m f):=by
 unfold mB cE;rw[mT AV.bool];cases br m f<;>rfl
@[go_sem] theorem MC (m:List (Int×Bool)) (f:Int) (x:Bool):aU (mB m) f (.bool x)=mB (aU m f x):=pC AV.bool m f x
def mN (m:List (Int×Node)):List (Int×AV):=m.map λp=>(p.1,.agg (ZN p.2))
theorem iJ (m:List (Int×Node)) (k:Int):br (mN m) k=(br m k).map λn=>.agg (ZN n):=mT (λn=>AV.agg (ZN n)) m k
theorem xY (m:List (Int×Node)) (k:Int) (n:Node):aU (mN m) k (.agg (ZN n))=mN (aU m k n):=pC (λn=>AV.agg (ZN n)) m k n
def dO {α:Type} (m:List (Int×α)):Prop:=m.Pairwise λa b=>a.1<b.1
theorem kJ {m:List (Int×Bool)} (h:dO m) (f:Int) (b:Bool) (x:Int):cE (aU m f b) x=if x=f then b else cE m x:=by
 unfold cE;rw[kS h];split<;>rfl
structure JS where
 l:List Node
 next:Int
 version:Int
 own:List (Int×Int)
 ours:List (Int×Bool)
 lost:List (Int×Bool)
def atF (m:List (Int×Int)) (f:Int):Int:=if iH m f=true then f_ m f else f
def gy (j:JS) (a:Act):Bool:=(cA a).any (cE j.lost)
def fy (j:JS) (r:Rec) (a:Act):Bool:=
 if ((a.kind≠3/\a.kind≠4)\/r.version<0)\/cE j.ours a.fid=true then false
 else match ak j.l a.fid with
  | none=>true
  | some n=>n.version != r.version
def cF (j:JS) (r:Rec):List (Int×Int):=if aR r.act=true then aU j.own r.act.fid j.next else j.own
def bV (j:JS) (r:Rec):Act:={ r.act with fid:=atF (cF j r) r.act.fid,dir:=atF (cF j r) r.act.dir,to:=if r.act.kind=5 then atF (cF j r) r.act.to else r.act.to }
noncomputable def jK (j:JS) (r:Rec):Int:=
 if gy j r.act=true then 14
 else if aR r.act=true/\(iH j.own r.act.fid=true\/r.act.fid≥0) then 2
 else if fy { j with own:=cF j r } r (bV j r)=true then 13
 else aF j.l (bV j r)
noncomputable def fx (j:JS) (r:Rec):JS:=
 if gy j r.act=true then j
 else if aR r.act=true/\(iH j.own r.act.fid=true\/r.act.fid≥0) then j
 else if fy { j with own:=cF j r } r (bV j r)=true then { j with own:=cF j r }
 else if aF j.l (bV j r)≠0 then { j with own:=if aR r.act=true then eB (cF j r) r.act.fid else cF j r }
 else { j with l:=aK j.l (bV j r) j.version,next:=if aR r.act=true then j.next+1 else j.next,version:=j.version+1,own:=cF j r }
def kz (j:JS) (r:Rec):Act:=
 if gy j r.act=true then r.act
 else if aR r.act=true/\(iH j.own r.act.fid=true\/r.act.fid≥0) then r.act
 else bV j r
noncomputable def iK (j:JS) (r:Rec):Verdict:=⟨jK j r,if jK j r=0 then (bV j r).fid else 0⟩
structure JG where
 j:JS
 vs:List Verdict
 done:List Act
def xV (j:JS) (f:Int):JS:={ j with lost:=aU j.lost f true }
def kj (m:List (Int×Bool)) (l:List Int):List (Int×Bool):=l.foldl (λm f=>aU m f true) m
noncomputable def iT (s:JG) (r:Rec):JG:=
 if jK s.j r=0 then ⟨{ fx s.j r with ours:=kj (fx s.j r).ours (cA (kz s.j r)) },s.vs++[iK s.j r],s.done++[kz s.j r]⟩
 else ⟨xV (fx s.j r) r.act.fid,s.vs++[iK s.j r],s.done⟩
def iP (l:List Node) (next version:Int):JG:=⟨⟨l,next,version,[],[],[]⟩,[],[]⟩
noncomputable def bM (l:List Node) (next version:Int) (log:List Rec):JG:=log.foldl iT (iP l next version)
noncomputable def jU (s:Srv) (c:Int) (log:List Rec):Srv:=
 ⟨(bM s.tree s.next ((s.past.length+1:Nat):Int) log).j.l,(bM s.tree s.next ((s.past.length+1:Nat):Int) log).j.next,s.past++(bM s.tree s.next ((s.past.length+1:Nat):Int) log).done.map λa=>⟨c,a⟩⟩
inductive Hist:List Past->List Node->Prop
 | nil:Hist [] [gS]
 | snoc {p:List Past} {t:List Node} (c:Int) (a:Act) (h:Hist p t) (ha:ActFit a) (he:aF t a=0):Hist (p++[⟨c,a⟩]) (aK t a ((p.length+1:Nat):Int))
theorem Hist.bR {p:List Past} {t:List Node} (h:Hist p t):Good t:=by
 induction h with
 | nil=>exact vW
 | snoc c a h ha he ih=>exact fJ ih _ _ he
theorem Hist.st {p:List Past} {t:List Node} (h:Hist p t):∃st:Nat->List Node,st 0=[gS]/\st p.length=t /\
  ∀i,i<p.length->Good (st i)/\ActFit (p.getD i default).act/\aF (st i) (p.getD i default).act=0/\st (i+1)=aK (st i) (p.getD i default).act ((i+1:Nat):Int):=by
 induction h with
 | nil=>exact ⟨λ_=>[gS],rfl,rfl,λi hi=>by simp at hi⟩
 | @snoc p t c a h ha he ih=>
  obtain ⟨st,h0,h1,h2⟩:=ih;refine ⟨λi=>if i<=p.length then st i else aK t a ((p.length+1:Nat):Int),?_,?_,λi hi=>?_⟩
  ·simp[h0]
  ·show (if (p++[(⟨c,a⟩:Past)]).length<=p.length then _ else _)=_
   rw[if_neg w8]
  ·have hl:(p++[(⟨c,a⟩:Past)]).length=p.length+1:=by simp
   rw[hl] at hi
   by_cases e:i<p.length
   ·have hg:(p++[(⟨c,a⟩:Past)]).getD i default=p.getD i default:=by
     rw[List.getD_eq_getElem?_getD,YP e,List.getD_eq_getElem?_getD]
    rw[hg];simp only[show i<=p.length by omega,if_true,show i+1<=p.length by omega];exact h2 i e
   ·have e2:i=p.length:=by omega
    subst e2;have hg:(p++[(⟨c,a⟩:Past)]).getD p.length default=⟨c,a⟩:=by
     rw[List.getD_eq_getElem?_getD,YO (W7 _)];simp
    rw[hg];simp only[W7,if_true,show ¬p.length+1<=p.length by omega,if_false,h1];exact ⟨h.bR,ha,he,trivial⟩
theorem sV {j:JS} {r:Rec} (h:ActFit r.act):ActFit (bV j r):=⟨h.name,h.toName,h.data⟩
structure JInv (p:List Past) (c:Int) (k:Nat) (n0:Int) (s:JG):Prop where
 hist:Hist (p++s.done.map λa=>⟨c,a⟩) s.j.l
 version:s.j.version=((p.length+s.done.length+1:Nat):Int)
 len:s.done.length<=k
 vlen:s.vs.length=k
 next:n0<=s.j.next/\s.j.next<=n0+k
theorem JInv.step {p:List Past} {c:Int} {k:Nat} {n0:Int} {s:JG} (h:JInv p c k n0 s) {r:Rec} (hr:ActFit r.act):JInv p c (k+1) n0 (iT s r):=by
 unfold iT;have h1:=h.next;have h2:=h.len;have h3:=h.vlen
 by_cases he:jK s.j r=0
 ·rw[if_pos he];unfold jK at he;split at he
  ·omega
  ·rename_i c1;split at he
   ·omega
   ·rename_i c2;split at he
    ·omega
    ·rename_i c3;have hJ:fx s.j r={ s.j with l:=aK s.j.l (bV s.j r) s.j.version,next:=if aR r.act=true then s.j.next+1 else s.j.next,version:=s.j.version+1,own:=cF s.j r }:=by
      unfold fx;rw[if_neg c1,if_neg c2,if_neg c3,if_neg QE]
     have hA:kz s.j r=bV s.j r:=by unfold kz;rw[if_neg c1,if_neg c2]
     rw[hJ,hA];refine ⟨?_,?_,?_,?_,?_⟩
     ·have:=Hist.snoc c (bV s.j r) h.hist (sV hr) he;rw[List.length_append,List.length_map,<-h.version] at this;simpa using this
     ·have:=h.version;simp only[List.length_append,List.length_cons,List.length_nil];omega
     ·simp only[List.length_append,List.length_cons,List.length_nil];omega
     ·simp only[List.length_append,List.length_cons,List.length_nil];omega
     ·simp only;split<;>omega
 ·rw[if_neg he];have hJ:(fx s.j r).l=s.j.l/\(fx s.j r).next=s.j.next/\(fx s.j r).version=s.j.version:=by
   unfold fx;unfold jK at he;split
   ·exact ⟨rfl,rfl,rfl⟩
   ·rename_i c1;rw[if_neg c1] at he;split
    ·exact ⟨rfl,rfl,rfl⟩
    ·rename_i c2;rw[if_neg c2] at he;split
     ·exact ⟨rfl,rfl,rfl⟩
     ·rename_i c3;rw[if_neg c3] at he;rw[if_pos he];exact ⟨rfl,rfl,rfl⟩
  obtain ⟨j1,j2,j3⟩:=hJ;refine ⟨?_,?_,?_,?_,?_⟩
  ·show Hist _ (fx s.j r).l
   rw[j1];exact h.hist
  ·show (fx s.j r).version=_
   rw[j3];exact h.version
  ·show s.done.length<=k+1;omega
  ·simp only[List.length_append,List.length_cons,List.length_nil];omega
  ·show n0<=(fx s.j r).next/\(fx s.j r).next<=n0+((k+1:Nat):Int)
   rw[j2];omega
theorem JInv.start {p:List Past} {t:List Node} (h:Hist p t) (c n0:Int):JInv p c 0 n0 (iP t n0 ((p.length+1:Nat):Int)):=
 ⟨by simpa[iP] using h,by simp[iP],by simp[iP],by simp[iP],by simp[iP]⟩
theorem JInv.pt {p:List Past} {t:List Node} (h:Hist p t) (c n0:Int) (log:List Rec) (hl:∀r,r∈log->ActFit r.act):JInv p c log.length n0 (bM t n0 ((p.length+1:Nat):Int) log):=by
 have key:∀(l:List Rec) (k:Nat) (s:JG),(∀r,r∈l->ActFit r.act)->JInv p c k n0 s->JInv p c (k+l.length) n0 (l.foldl iT s):=λl=>by
  induction l with
  | nil=>exact λk s _ h=>h
  | cons r l ih=>
   intro k s hl h;have:=ih (k+1) (iT s r) (λx hx=>hl x (List.mem_cons_of_mem _ hx)) (h.step (hl r List.mem_cons_self));rw[List.foldl_cons,List.length_cons,show k+(l.length+1)=k+1+l.length by omega];exact this
 have:=key log 0 _ hl (JInv.start h c n0)
 rwa [Yc] at this
structure SrvOK (k:Nat) (s:Srv):Prop where
 hist:Hist s.past s.tree
 len:s.past.length<=k
 next:1<=s.next/\s.next<=1+k
theorem SrvOK.new:SrvOK 0 ⟨[gS],1,[]⟩:=⟨.nil,by simp,by simp⟩
theorem SrvOK.mono {k m:Nat} {s:Srv} (h:SrvOK k s) (hk:k<=m):SrvOK m s:=⟨h.hist,by have:=h.len;omega,by have:=h.next;omega⟩
theorem SrvOK.step {k:Nat} {s:Srv} (h:SrvOK k s) (c:Int) {a:Act} (ha:ActFit a) (he:doE s a=0):SrvOK (k+1) (doS s c a):=by
 have h1:=h.len;have h2:=h.next;have hf:ActFit (doA s a):=by unfold doA;split;exact ⟨ha.name,ha.toName,ha.data⟩;exact ha
 refine ⟨Hist.snoc c _ h.hist hf he,by simp[doS];omega,?_⟩
 show 1<=(if aR a=true then s.next+1 else s.next)/\(if aR a=true then s.next+1 else s.next)<=1+((k+1:Nat):Int)
 split<;>omega
theorem SrvOK.take {k:Nat} {s:Srv} (h:SrvOK k s) (c:Int) {log:List Rec} (hl:∀r,r∈log->ActFit r.act):SrvOK (k+log.length) (jU s c log):=by
 have h1:=h.len;have h2:=h.next;have hj:=JInv.pt h.hist c s.next log hl;have h3:=hj.len;have h4:=hj.next;exact ⟨hj.hist,by simp only[jU,List.length_append,List.length_map];omega,by show 1<=(bM s.tree s.next _ log).j.next/\(bM s.tree s.next _ log).j.next<=_;omega⟩
def lF (j:JS):List AV:=[.sl (j.l.map ZN),.int .i64 j.next,.int .i64 j.version,.mp 25,.mp 26,.mp 27]
def jB (j:JS):List (Nat×Blk):=[(29,.cells 200 6 [lF j]),(27,.map (mB j.lost)),(26,.map (mB j.ours)),(25,.map (mI j.own))]
def jH (j:JS) (G Y N:Nat->Nat):List (Nat×Blk):=jB j++pins [29,25,26,27] G Y N
def jcH (j:JS) (G Y N:Nat->Nat):List (Nat×Blk):=([(2,.cells 198 1 [[.ptr 29 6 0 0]])]++jB j)++pins [29,25,26,27,2] G Y N
def jaH (j:JS) (a:Act) (G Y N:Nat->Nat):List (Nat×Blk):=([(6,.cells 49 7 [ZA a])]++jB j)++pins [29,25,26,27,6] G Y N
def Holds (L H:List (Nat×Blk)):Prop:=∀i b,aa L i=some b->aa H i=some b
theorem YH (H:List (Nat×Blk)):Holds [] H:=λ_ _ h=>nomatch h
theorem ZH {L H:List (Nat×Blk)} {k:Nat} {B:Blk} (h:aa H k=some B) (hL:Holds L H):Holds ((k,B)::L) H:=λi b hb=>by
 simp only[aa] at hb;split at hb
 ·rename_i e;subst e;rw[h];exact hb
 ·exact hL i b hb
theorem Lv (j:JS) (f:Int) (G Y N:Nat->Nat):aj prog 166 [.ptr 29 6 0 0,.int .i64 f] (jH j G Y N) (λr H=>r=.int .i64 (atF j.own f)/\Holds (jH j G Y N) H):=by
 unfold jH jB lF atF;refine wS func166 ntmps166 results166 λC=>?_
 refine wR ?_;refine wN 1 ?_;refine wR ?_;refine wN 5 ?_;refine wG ?_;cases e:iH j.own f with
 | true=>
  refine wDT ?_ (hb:=by simp[e]);refine wGT ?_;exact ⟨rfl,λi b hb=>hb⟩
 | false=>
  refine wDF ?_ (hb:=by simp[e]);refine wGT ?_;exact ⟨rfl,λi b hb=>hb⟩
theorem Jd (j:JS) (f:Int) (G Y N:Nat->Nat):aj prog 193 [.int .i64 f,.ptr 2 1 0 0] (jcH j G Y N) (λr H=>r=.bool (cE j.lost f)/\Holds (jcH j G Y N) H):=by
 unfold jcH jB lF;refine wS func193 ntmps193 results193 λC=>?_
 refine wGT ?_;exact ⟨rfl,λi b hb=>hb⟩
theorem BT (j:JS) (l:List Int) (hlen:l.length<=100000000) (G Y N:Nat->Nat):aj prog 219 [.sl (l.map ZI),.fn 193 [.ptr 2 1 0 0]] (jcH j G Y N)
  (λr H=>r=.int .i64 (cv (l.findIdx? (cE j.lost)))/\Holds (jcH j G Y N) H):=by
 unfold jcH jB lF;refine wSG func219 ntmps219 results219 λC=>?_
 refine ZL (λi:Nat=>i<=l.length/\∀x,x∈l.take i->cE j.lost x=false) (λi=>l.length-i) (λi=>(8,.int .i64 i)::(5,.any)::u0 9 10 []) (λ_=>[]) 0 ⟨by omega,by simp⟩ ?_ λi hi=>?_
 ·exact wZ
 obtain ⟨hi,hno⟩:=hi;simp only[go_sem];refine wGD (λh=>?_) (λh=>?_)
 ·have hlt:=lt1 h;have hg:=Fam.getD (f:=ZI) hlt;have htk:=ZT hlt;have hgi:l[i]? = some (l.getD i default):=by rw[List.getD_eq_getElem?_getD,Wz hlt];rfl
  have hc:=Jd j (l.getD i default);unfold jcH jB lF at hc;generalize l.getD i default=n at hg htk hgi hc;refine wGq ?_ ?_ Zr
  ·simp[hlt,ZI]
  refine wP ?_ [29,25,26,27,2] func193 (hf:=hc);refine wGD (λh=>?_) (λh=>?_)
  ·refine wG ?_;refine wU ?_ ?_
   ·rw[eR hgi hno h];rfl
   ·exact q9
  ·have hw:IntKind.i64.wrap ((i:Int)+1)=(i:Int)+1:=wrap_small z8 z8;refine wG ?_ w4 y7;refine ZB ⟨i+1,⟨by omega,?_⟩,by omega,ZU ?_ ?_ ?_⟩
   ·rw[htk];intro x hx
    rcases List.mem_append.1 hx with hx | hx
    ·exact hno x hx
    ·rw[List.mem_singleton.1 hx];exact h
   ·simp[go_sem]
   ·simp[go_sem]
   ·simp[go_sem]
 ·have e:i=l.length:=by simp at h;omega
  refine wG ?_;refine wU ?_ ?_
  ·rw[e,W4] at hno;rw[YL.2 hno];rfl
  ·exact q9
theorem BS (j:JS) (l:List Int) (hlen:l.length<=100000000) (G Y N:Nat->Nat):aj prog 192 [.sl (l.map ZI),.fn 193 [.ptr 2 1 0 0]] (jcH j G Y N)
  (λr H=>r=.bool (l.any (cE j.lost))/\Holds (jcH j G Y N) H):=by
 have hc:=BT j l hlen;unfold jcH jB lF at hc ⊢;refine wSG func192 ntmps192 results192 λC=>?_
 refine wP ?_ [29,25,26,27,2] func219 (hf:=hc);refine wG ?_;refine wU ?_ ?_
 ·rw[mL]
 ·exact q9
theorem G1 (j:JS) (a:Act) (G Y N:Nat->Nat):aj prog 165 [.ptr 29 6 0 0,.ptr 6 7 0 0] (jaH j a G Y N) (λr H=>r=.bool (gy j a)/\Holds (jaH j a G Y N) H):=by
 have hc:=BS j (cA a) (by have:=fA a;omega);have hf:=xG a;unfold gy;generalize (cA a).any (cE j.lost)=z at hc ⊢;generalize cA a=l at hc hf;unfold jcH jB lF at hc;unfold ZA at hf;unfold jaH jB lF ZA;refine wSG func165 ntmps165 results165 λC=>?_
 refine wCg ?_ func126 (hf:=hf);refine wP ?_ [29,25,26,27,2] func192 (hf:=hc);refine wG ?_;refine wU ?_ ?_
 ·rfl
 ·exact q9
theorem Hh (j:JS) (r:Rec) (a:Act) (hl:Small j.l) (G Y N:Nat->Nat):aj prog 167 [.ptr 29 6 0 0,.rp (ZR r) 0,.ptr 6 7 0 0] (jaH j a G Y N) (λx H=>x=.bool (fy j r a)/\Holds (jaH j a G Y N) H):=by
 have hf:=dM j.l a.fid hl;unfold fy;unfold jaH jB lF ZA ZR;refine wS func167 ntmps167 results167 λC=>?_
 refine wGS ?_;refine sN 12 ?_;refine ep 20 z6 (λc20 h20=>?_);simp only[go_sem];refine sN 7 ?_;refine ep 27 z6 (λc27 h27=>?_);simp only[go_sem];refine sG ?_;refine wX ?_;refine wR ?_;refine wNm 38 λc38 h38=>?_
 have hst:(((a.kind≠3/\a.kind≠4)\/r.version<0)\/cE j.ours a.fid=true)↔c38=true:=by
  subst h38 h27 h20;simp[cZ,fe]
 clear h38 h27 h20;cases c38 with
 | true=>
  rw[if_pos (hst.2 rfl)];refine wTG ?_ (hb:=rfl);refine wU ?_ ?_
  ·rfl
  ·exact q9
 | false=>
  rw[if_neg (λh=>nomatch hst.1 h)];refine wDF ?_ (hb:=rfl);refine wGS ?_;refine sN 8 ?_;refine sC ?_ func82 (hf:=hf);simp only[go_sem,fT];rw[cS];cases ak j.l a.fid with
  | none=>
   simp only[Option.getD_none,Option.isSome_none];refine sG ?_;refine sW ?_;simp only[go_sem,ZN,ax];refine sT ?_;refine sE ?_;refine dS ?_;refine wKn ?_;refine wGS ?_;refine sG ?_;refine wXG ?_;refine wU ?_ ?_
   ·rfl
   ·exact q9
  | some n=>
   simp only[Option.getD_some,Option.isSome_some];refine sG ?_;refine sW ?_;simp only[go_sem,ZN];refine sT ?_;refine sE ?_;refine dS ?_;refine wKn ?_;refine wGS ?_;refine sG ?_;refine wXG ?_;refine wU ?_ ?_
   ·rfl
   ·exact q9
theorem Em {j:JS} {r:Rec} (h:gy j r.act=true):iK j r=⟨14,0⟩/\kz j r=r.act/\fx j r=j:=by
 simp[iK,kz,fx,jK,h]
theorem GN {j:JS} {r:Rec} (h:gy j r.act=false) (h1:aR r.act=true) (h2:iH j.own r.act.fid=true\/r.act.fid≥0):iK j r=⟨2,0⟩/\kz j r=r.act/\fx j r=j:=by
 simp[iK,kz,fx,jK,h,h1,h2]
theorem En {j:JS} {r:Rec} (h:gy j r.act=false) (h1:¬(aR r.act=true/\(iH j.own r.act.fid=true\/r.act.fid≥0))) (h2:fy { j with own:=cF j r } r (bV j r)=true) :
  iK j r=⟨13,0⟩/\kz j r=bV j r/\fx j r={ j with own:=cF j r }:=by
 simp[iK,kz,fx,jK,h,h1,h2]
theorem Jr {j:JS} {r:Rec} (h:gy j r.act=false) (h1:¬(aR r.act=true/\(iH j.own r.act.fid=true\/r.act.fid≥0))) (h2:fy { j with own:=cF j r } r (bV j r)=false) (h3:aF j.l (bV j r)≠0) :
  iK j r=⟨aF j.l (bV j r),0⟩/\kz j r=bV j r/\fx j r={ j with own:=if aR r.act=true then eB (cF j r) r.act.fid else cF j r }:=by
 simp[iK,kz,fx,jK,h,h1,h2,h3]
theorem GM {j:JS} {r:Rec} (h:gy j r.act=false) (h1:¬(aR r.act=true/\(iH j.own r.act.fid=true\/r.act.fid≥0))) (h2:fy { j with own:=cF j r } r (bV j r)=false) (h3:aF j.l (bV j r)=0) :
  iK j r=⟨0,(bV j r).fid⟩/\kz j r=bV j r/\fx j r={ j with l:=aK j.l (bV j r) j.version,next:=if aR r.act=true then j.next+1 else j.next,version:=j.version+1,own:=cF j r }:=by
 simp[iK,kz,fx,jK,h,h1,h2,h3]
theorem LJ (j:JS) (r:Rec) (hg:Good j.l) (hr:ActFit r.act) (hn:j.next.natAbs<=90000000) (hv:j.version.natAbs<=90000000) (G Y N:Nat->Nat):aj prog 125 [.ptr 29 6 0 0,.rp (ZR r) 0] (jH j G Y N)
  (λx H=>x=.tup [.agg (ZV (iK j r)),.agg (ZA (kz j r))]/\Holds (jH (fx j r) G Y N) H):=by
 have how:=ml r.act hr.data;have hre:=G1 j r.act;have q0:=@Em j r;have q1:=@GN j r;have q2:=@En j r;have q3:=@Jr j r;have q4:=@GM j r;have hfid:∀f (G Y N:Nat->Nat),aj prog 166 [.ptr 29 6 0 0,.int .i64 f] (jH { j with own:=cF j r } G Y N) (λx H=>x=.int .i64 (atF (cF j r) f)/\Holds (jH { j with own:=cF j r } G Y N) H):=λf=>Lv { j with own:=cF j r } f
 unfold jH jB lF at hfid;simp only at hfid;have hst:=Hh { j with own:=cF j r } r (bV j r) hg.small;have hap:=lj hg (bV j r) j.version (sV hr);have hwn:IntKind.i64.wrap (j.next+1)=j.next+1:=Eng.wrap_small z8 z8;have hwv:IntKind.i64.wrap (j.version+1)=j.version+1:=Eng.wrap_small z8 z8;unfold jaH jB lF at hst;unfold ob at hap;generalize fy { j with own:=cF j r } r (bV j r)=st at *;generalize aF j.l (bV j r)=E at *;generalize aK j.l (bV j r) j.version=L at *;simp only[ZA,bV] at hst hap;generalize iK j r=V at *;generalize kz j r=A at *;generalize fx j r=J at *;unfold jaH jB lF ZA at hre;unfold ZA at how;unfold jH jB lF ZR;refine wSG func125 ntmps125 results125 λC=>?_
 refine wCg ?_ func67 (hf:=how);refine wP ?_ [29,25,26,27,6] func165 (hf:=hre);cases h0:gy j r.act with
 | true=>
  obtain ⟨e1,e2,e3⟩:=q0 h0;refine wG ?_;refine wDT ?_ (hb:=rfl);refine wGS ?_;refine sB ?_;refine sN 1 ?_;refine sT ?_;refine sT ?_;refine wXG ?_;refine wU ?_ ?_
  ·simp[ZV,ZA,e1,e2]
  ·rw[e3];exact q9
 | false=>
  clear q0;refine wG ?_;refine wDF ?_ (hb:=rfl);refine wR ?_;refine wN 8 ?_;refine wNm 28 λc28 h28=>?_
  have h28':c28=aR r.act:=by rw[<-h28,fe];rfl
  clear h28;subst h28';refine wG ?_;cases h1:aR r.act with
  | true=>
   refine wDT ?_ (hb:=rfl);refine wGS ?_;refine sG ?_;refine wXG ?_;cases h2:(iH j.own r.act.fid||decide (r.act.fid≥0)) with
   | true=>
    obtain ⟨e1,e2,e3⟩:=q1 h0 h1 WU;refine wDT ?_ (hb:=by simpa[fe] using h2);refine wGS ?_;refine sB ?_;refine sN 1 ?_;refine sT ?_;refine sT ?_;refine wXG ?_;refine wU ?_ ?_
    ·simp[ZV,ZA,e1,e2]
    ·rw[e3];exact q9
   | false=>
    refine wDF ?_ (hb:=by simpa[fe] using h2);refine wGS ?_;refine sN 10 ?_;refine sE ?_;refine dS ?_;refine wKG ?_;have ho:cF j r=aU j.own r.act.fid j.next:=by unfold cF;rw[if_pos h1]
    rw[<-ho];have hnf:¬(aR r.act=true/\(iH j.own r.act.fid=true\/r.act.fid≥0)):=λhh=>by
     have:=hh.2;simp only[Bool.or_eq_false_iff,decide_eq_false_iff_not] at h2
     rcases this with h | h
     ·rw[h2.1] at h;cases h
     ·exact h2.2 h
    clear h2;have hk5:¬r.act.kind=5:=λe=>by simp[aR,e] at h1
    have hT:(if r.act.kind=5 then atF (cF j r) r.act.to else r.act.to)=r.act.to:=if_neg hk5;rw[hT] at hst hap
    -- the cA as they are here
    refine wO ?_;refine sN 3 ?_;refine dW rfl rfl z7 w3 ⟨_,func166,by kernel_rfl,rfl⟩ [29,25,26,27] w6 w3 w8 w3 w3 (hfid r.act.fid) z6 w7 ?_;refine sN 3 ?_;refine dW rfl rfl z7 w3 ⟨_,func166,by kernel_rfl,rfl⟩ [29,25,26,27] w6 w3 w8 w3 w3 (hfid r.act.dir) z6 w7 ?_;refine sN 1 ?_;refine sT ?_;refine sN 1 ?_;refine sT ?_;refine wXG ?_;refine wFG ?_ (hb:=WQ);refine wP ?_ [29,25,26,27,6] func167 (hf:=hst);refine wG ?_;cases st with
    | true=>
     obtain ⟨e1,e2,e3⟩:=q2 h0 hnf rfl;refine wDT ?_ (hb:=rfl);refine wGS ?_;refine sB ?_;refine sN 1 ?_;refine sT ?_;refine sT ?_;refine wXG ?_;refine wU ?_ ?_
     ·simp[ZV,ZA,e1,e2,bV,hk5]
     ·rw[e3];exact q9
    | false=>
     refine wFG ?_ (hb:=rfl)
     by_cases hE:E=0
     ·obtain ⟨e1,e2,e3⟩:=q4 h0 hnf rfl hE;subst hE;rw[h1] at e3;simp only[if_true,Bool.false_eq_true,if_false] at hap e3;refine wO ?_;refine sN 9 ?_;refine sC ?_ func109 (hf:=hap);refine sG ?_;refine wXG ?_;refine wDF ?_ (hb:=w8);refine wG ?_ QG Qy;refine wDT ?_ (hb:=w8);refine wG ?_ QG Qy;refine wO ?_;refine sN 2 ?_;refine sB ?_;refine sN 1 ?_;refine sT ?_;refine sT ?_;refine wXG ?_;refine wU ?_ ?_
      ·simp[ZV,ZA,e1,e2,bV,hk5]
      ·rw[e3];exact q9
     ·obtain ⟨e1,e2,e3⟩:=q3 h0 hnf rfl hE;rw[h1] at e3;simp only[hE,if_true,Bool.false_eq_true,if_false] at hap e3;refine wO ?_;refine sN 9 ?_;refine sC ?_ func109 (hf:=hap);refine sG ?_;refine wXG ?_;refine wTG ?_ (hb:=x6);refine wDT ?_ (hb:=w8);refine wGS ?_;refine sN 9 ?_;refine sE ?_;refine dS ?_;refine wKn ?_;refine wGS ?_;refine sN 1 ?_;refine sB ?_;refine sN 1 ?_;refine sT ?_;refine sT ?_;refine wXG ?_;refine wU ?_ ?_
      ·simp[ZV,ZA,e1,e2,bV,hk5]
      ·rw[e3];exact q9
  | false=>
   refine wFG ?_ (hb:=rfl);have ho:cF j r=j.own:=by unfold cF;rw[h1];rfl
   have hnf:¬(aR r.act=true/\(iH j.own r.act.fid=true\/r.act.fid≥0)):=λhh=>by rw[h1] at hh;cases hh.1
   rw[<-ho]
   -- the cA as they are here
   refine wO ?_;refine sN 3 ?_;refine dW rfl rfl z7 w3 ⟨_,func166,by kernel_rfl,rfl⟩ [29,25,26,27] w6 w3 w8 w3 w3 (hfid r.act.fid) z6 w7 ?_;refine sN 3 ?_;refine dW rfl rfl z7 w3 ⟨_,func166,by kernel_rfl,rfl⟩ [29,25,26,27] w6 w3 w8 w3 w3 (hfid r.act.dir) z6 w7 ?_;refine sN 1 ?_;refine sT ?_;refine sN 1 ?_;refine sT ?_;refine wXG ?_
   by_cases hk5:r.act.kind=5
   ·have hT:(if r.act.kind=5 then atF (cF j r) r.act.to else r.act.to)=atF (cF j r) r.act.to:=if_pos hk5;rw[hT] at hst hap;refine wTG ?_ (hb:=WQ);refine wP ?_ [29,25,26,27] func166 (hf:=hfid r.act.to);refine wG ?_;refine wP ?_ [29,25,26,27,6] func167 (hf:=hst);refine wG ?_;cases st with
    | true=>
     obtain ⟨e1,e2,e3⟩:=q2 h0 hnf rfl;refine wDT ?_ (hb:=rfl);refine wGS ?_;refine sB ?_;refine sN 1 ?_;refine sT ?_;refine sT ?_;refine wXG ?_;refine wU ?_ ?_
     ·simp[ZV,ZA,e1,e2,bV,hk5]
     ·rw[e3];exact q9
    | false=>
     refine wFG ?_ (hb:=rfl)
     by_cases hE:E=0
     ·obtain ⟨e1,e2,e3⟩:=q4 h0 hnf rfl hE;subst hE;rw[h1] at e3;simp only[if_true,Bool.false_eq_true,if_false] at hap e3;refine wO ?_;refine sN 9 ?_;refine sC ?_ func109 (hf:=hap);refine sG ?_;refine wXG ?_;refine wDF ?_ (hb:=w8);refine wG ?_ QG Qy;refine wDF ?_ (hb:=w8);refine wG ?_ QG Qy;refine wO ?_;refine sN 2 ?_;refine sB ?_;refine sN 1 ?_;refine sT ?_;refine sT ?_;refine wXG ?_;refine wU ?_ ?_
      ·simp[ZV,ZA,e1,e2,bV,hk5]
      ·rw[e3];exact q9
     ·obtain ⟨e1,e2,e3⟩:=q3 h0 hnf rfl hE;rw[h1] at e3;simp only[hE,if_true,Bool.false_eq_true,if_false] at hap e3;refine wO ?_;refine sN 9 ?_;refine sC ?_ func109 (hf:=hap);refine sG ?_;refine wXG ?_;refine wTG ?_ (hb:=x6);refine wDF ?_ (hb:=w8);refine wGS ?_;refine sN 1 ?_;refine sB ?_;refine sN 1 ?_;refine sT ?_;refine sT ?_;refine wXG ?_;refine wU ?_ ?_
      ·simp[ZV,ZA,e1,e2,bV,hk5]
      ·rw[e3];exact q9
   ·have hT:(if r.act.kind=5 then atF (cF j r) r.act.to else r.act.to)=r.act.to:=if_neg hk5;rw[hT] at hst hap;refine wFG ?_ (hb:=WQ);refine wP ?_ [29,25,26,27,6] func167 (hf:=hst);refine wG ?_;cases st with
    | true=>
     obtain ⟨e1,e2,e3⟩:=q2 h0 hnf rfl;refine wDT ?_ (hb:=rfl);refine wGS ?_;refine sB ?_;refine sN 1 ?_;refine sT ?_;refine sT ?_;refine wXG ?_;refine wU ?_ ?_
     ·simp[ZV,ZA,e1,e2,bV,hk5]
     ·rw[e3];exact q9
    | false=>
     refine wFG ?_ (hb:=rfl)
     by_cases hE:E=0
     ·obtain ⟨e1,e2,e3⟩:=q4 h0 hnf rfl hE;subst hE;rw[h1] at e3;simp only[if_true,Bool.false_eq_true,if_false] at hap e3;refine wO ?_;refine sN 9 ?_;refine sC ?_ func109 (hf:=hap);refine sG ?_;refine wXG ?_;refine wDF ?_ (hb:=w8);refine wG ?_ QG Qy;refine wDF ?_ (hb:=w8);refine wG ?_ QG Qy;refine wO ?_;refine sN 2 ?_;refine sB ?_;refine sN 1 ?_;refine sT ?_;refine sT ?_;refine wXG ?_;refine wU ?_ ?_
      ·simp[ZV,ZA,e1,e2,bV,hk5]
      ·rw[e3];exact q9
     ·obtain ⟨e1,e2,e3⟩:=q3 h0 hnf rfl hE;rw[h1] at e3;simp only[hE,if_true,Bool.false_eq_true,if_false] at hap e3;refine wO ?_;refine sN 9 ?_;refine sC ?_ func109 (hf:=hap);refine sG ?_;refine wXG ?_;refine wTG ?_ (hb:=x6);refine wDF ?_ (hb:=w8);refine wGS ?_;refine sN 1 ?_;refine sB ?_;refine sN 1 ?_;refine sT ?_;refine sT ?_;refine wXG ?_;refine wU ?_ ?_
      ·simp[ZV,ZA,e1,e2,bV,hk5]
      ·rw[e3];exact q9
theorem uq (m:List (Int×Bool)) (l:List Int) (x:Int):kj m (l++[x])=aU (kj m l) x true:=by
 unfold kj;rw[List.foldl_append];rfl
noncomputable def sc (l:List Node) (next version:Int) (log:List Rec) (i:Nat):JG:=(log.take i).foldl iT (iP l next version)
theorem wh (l:List Node) (next version:Int) {log:List Rec} {i:Nat} (h:i<log.length):sc l next version log (i+1)=iT (sc l next version log i) (log.getD i default):=by
 unfold sc;rw[ZT h,List.foldl_append];rfl
theorem zJ {p:List Past} {l:List Node} (h:Hist p l) (next:Int) {log:List Rec} (hl:∀r,r∈log->ActFit r.act) {i:Nat} (hi:i<=log.length):JInv p 0 i next (sc l next ((p.length+1:Nat):Int) log i):=by
 have:=JInv.pt h 0 next (log.take i) (λr hr=>hl r (YF hr))
 rw[YA,Yt hi] at this;exact this
def jgB (s:JG):List (Nat×Blk):=[(45,.cells 162 2 (s.vs.map ZV)),(72,.cells 49 7 (s.done.map ZA)),(29,.cells 200 6 [lF s.j]),(25,.map (mI s.j.own)),(26,.map (mB s.j.ours)),(27,.map (mB s.j.lost))]
theorem Gi (p:List Past) (l:List Node) (next:Int) (log:List Rec) (h:Hist p l) (hp:p.length<=80000000) (hn:next.natAbs<=80000000) (hlog:SmallL log) (hl2:log.length<=2000000) (hfit:∀r,r∈log->ActFit r.act) :
  aj prog 85 [.sl (l.map ZN),.int .i64 next,.int .i64 ((p.length+1:Nat):Int),.sl (log.map ZR)] []
   (λr _=>r=.tup [.sl ((bM l next ((p.length+1:Nat):Int) log).vs.map ZV),.sl ((bM l next ((p.length+1:Nat):Int) log).done.map ZA),.sl ((bM l next ((p.length+1:Nat):Int) log).j.l.map ZN),.int .i64 (bM l next ((p.length+1:Nat):Int) log).j.next]):=by
 have how:=lP l h.bR.small;have hlo:=kQ log hlog;have hfin:bM l next ((p.length+1:Nat):Int) log=sc l next ((p.length+1:Nat):Int) log log.length:=by unfold sc;rw[W4];rfl
 have hinv:=λi=>@zJ p l h next log hfit i
 have hsucc:=λi=>@wh l next ((p.length+1:Nat):Int) log i
 have hz:sc l next ((p.length+1:Nat):Int) log 0=iP l next ((p.length+1:Nat):Int):=rfl
 rw[hfin];generalize sc l next ((p.length+1:Nat):Int) log=st at *
 refine wSG func85 ntmps85 results85 λC=>?_
 refine wCg ?_ func66 (hf:=how);refine wCg ?_ func69 (hf:=hlo);refine af (le_empty 72 49 7 z7) ?_;refine af (le_empty 45 162 2 z7) (wn ?_);refine wL log.length (λi=>(13,.osl 45 2 0 (st i).vs.length)::(14,.osl 72 7 0 (st i).done.length)::(16,.any)::(17,.any)::(18,.any)::(20,.any)::(33,.int .i64 i)::u0 34 40 []) (λi=>jgB (st i)) ?_ λi hi=>?_
 ·rw[hz];simp only[iP,jgB,lF,mI,mB];exact wY
 unfold jgB lF;simp only[go_sem];refine wGD (λh=>?_) (λh=>?_)
 ·have hlt:=lt1 h;have hg:=Fam.getD (f:=ZR) hlt;have hv:=hinv i z8;have hf:=hfit _ (YG hlt);have hsc:=hsucc i hlt;clear hinv hsucc;generalize log.getD i default=r at *;have hnx:=hv.next;have hvs:=hv.vlen;have hdl:=hv.len;have hone:=LJ (st i).j r hv.hist.bR hf z8 (by have:=hv.version;omega);have hst:st (i+1)=(if (iK (st i).j r).err=0 then ⟨{ fx (st i).j r with ours:=kj (fx (st i).j r).ours (cA (kz (st i).j r)) },(st i).vs++[iK (st i).j r],(st i).done++[kz (st i).j r]⟩ else ⟨xV (fx (st i).j r) r.act.fid,(st i).vs++[iK (st i).j r],(st i).done⟩):=by
   rw[hsc];unfold iT iK;rfl
  unfold jH jB lF ZR at hone;clear hsc hv;generalize iK (st i).j r=V at *;generalize kz (st i).j r=A at *;generalize fx (st i).j r=J at *;have hfd:=xG A;have hf3:=fA A;have how':=wi1 (i:=i) z8;refine wGq ?_ ?_ u6
  ·simp[hg,ZR,hlt]
  refine ZZ 16 rfl (rfl) (wn ?_);refine wP ?_ [29,25,26,27] func125 (hf:=hone);refine wGq ?_ ?_ (by simp only[go_sem,ZV,ZA];try exact rfl)
  ·simp[ZV,ZA,rowsOf];omega
  by_cases hE:V.err=0
  ·rw[if_pos hE] at hst;refine wFG ?_ (hb:=x6);unfold ZA at hfd;refine wCg ?_ func126 (hf:=hfd);refine ZL (λk:Nat=>k<=(cA A).length) (λk=>(cA A).length-k) (λk=>(20,.any)::(59,.int .i64 k)::u0 60 9 []) (λk=>[(26,.map (mB (kj J.ours ((cA A).take k))))]) 0 z8 ?_ λk hk=>?_
   ·simp only[go_sem];exact ZU w3 (by simp[go_sem,kj]) w3
   simp only[go_sem];refine wGD (λh=>?_) (λh=>?_)
   ·have hlk:=lt1 h;have hgk:((cA A).map ZI).getD k []=ZI ((cA A).getD k default):=Fam.getD hlk;have htk:kj J.ours ((cA A).take (k+1))=aU (kj J.ours ((cA A).take k)) ((cA A).getD k default) true:=by rw[ZT hlk,uq]
    have hwk:IntKind.i64.wrap ((k:Int)+1)=((k+1:Nat):Int):=by rw[Eng.wrap_small z8 z8];rfl
    generalize (cA A).getD k default=f at *;refine wGq ?_ ?_ WX
    ·simp[hgk,ZI,hlk,AV.kF,AV.aW]
    exact ZB ⟨k+1,by omega,by omega,ZU w3 j7 w3⟩
   ·have e:k=(cA A).length:=by simp at h;omega
    subst e;refine wGq ?_ ?_ (by simp only[go_sem,ZA,how'];try exact rfl)
    ·simp[ZA,rowsOf];omega
    exact ZB ⟨i+1,by omega,by omega,ZU s7 (by simp[go_sem,hst,jgB,lF,ZV,ZA,W4]) s7⟩
  ·rw[if_neg hE] at hst;refine wDT ?_ (hb:=x6);refine wGS ?_;refine sN 7 ?_;refine sE ?_;refine dS ?_;refine wKn ?_;refine wG ?_ y6 u3;exact ZB ⟨i+1,by omega,by omega,ZU s7 (by simp[go_sem,hst,jgB,lF,xV,ZV]) s7⟩
 ·obtain rfl:=eq1 hi h;refine wGS ?_;refine sG ?_;refine wXG ?_;refine ZZ 45 rfl (mj _) (wn ?_);refine ZZ 72 rfl (re _) (wn ?_);refine wT ?_;simp
end La
namespace La
open Go Go.Eng
inductive MReach (m:List (Int×Node)) (k:Int):Int->Prop
 | refl:MReach m k k
 | step {x:Int} {n:Node} {e:Entry} (h:MReach m k x) (hn:br m x=some n) (he:e∈n.entries):MReach m k e.fid
def oT (m:List (Int×Node)):List Int:=m.flatMap λp=>p.2.entries.map (·.fid)
theorem Fp {m:List (Int×Node)} {x:Int} {n:Node} {e:Entry} (hn:br m x=some n) (he:e∈n.entries):e.fid∈oT m:=
 List.mem_flatMap.2 ⟨_,dj hn,W5.2 ⟨e,he,rfl⟩⟩
def ie (m:List (Int×Node)) (had:List (Int×Bool)):Nat:=((oT m).filter λf=>!(cE had f)).length
theorem Cz {m:List (Int×Node)} {had:List (Int×Bool)} (hr:dO had) {f:Int} (hf:f∈oT m) (h:cE had f=false):ie m (aU had f true)+1<=ie m had:=by
 unfold ie;generalize oT m=l at hf;have hle:∀l:List Int,(l.filter λx=>!(cE (aU had f true) x)).length<=(l.filter λx=>!(cE had x)).length:=λl=>by
  induction l with
  | nil=>simp
  | cons x r ih=>
   rw[List.filter_cons,List.filter_cons,kJ hr]
   by_cases hx:x=f
   ·subst hx;simp[h];omega
   ·simp only[hx,if_false];split<;>(try simp only[List.length_cons])<;>omega
 induction l with
 | nil=>cases hf
 | cons x r ih=>
  rw[List.filter_cons,List.filter_cons,kJ hr]
  by_cases hx:x=f
  ·subst hx;have:=hle r;simp[h];omega
  ·have hf2:f∈r:=by
    rcases List.mem_cons.1 hf with h1 | h1
    ·exact absurd h1.symm hx
    ·exact h1
   have:=ih hf2;simp only[hx,if_false];split<;>(try simp only[List.length_cons])<;>omega
structure BI (m:List (Int×Node)) (k:Int) (had:List (Int×Bool)) (T:List Int):Prop where
 rise:dO had
 sound:∀x,cE had x=true->MReach m k x
 start:cE had k=true
 todo:∀x,x∈T->cE had x=true
 shut:∀x,cE had x=true->x∉T->∀n,br m x=some n->∀e,e∈n.entries->cE had e.fid=true
 size:T.length+ie m had<=(oT m).length+1
structure BJ (m:List (Int×Node)) (k:Int) (x:Int) (n:Node) (c:Nat) (j:Nat) (had:List (Int×Bool)) (T:List Int):Prop where
 at_:br m x=some n
 rise:dO had
 sound:∀x,cE had x=true->MReach m k x
 start:cE had k=true
 todo:∀x,x∈T->cE had x=true
 shut:∀x,cE had x=true->x∉T->∀n,br m x=some n->∀e,e∈n.entries->cE had e.fid=true
 done:∀e,e∈n.entries.take j->cE had e.fid=true
 head:∃r,T=x::r
 size:T.length+ie m had<=c
theorem BI.begin (m:List (Int×Node)) (k:Int):BI m k (aU [] k true) [k]:=by
 have hr:dO ([]:List (Int×Bool)):=List.Pairwise.nil;have hg:∀x,cE (aU [] k true) x=true->x=k:=λx h=>by
  rw[kJ hr] at h
  by_cases e:x=k
  ·exact e
  ·rw[if_neg e] at h;cases h
 refine ⟨cu hr,λx h=>by rw[hg x h];exact .refl,by rw[kJ hr,if_pos rfl],λx h=>by rw[List.mem_singleton.1 h,kJ hr,if_pos rfl],λx h hn=>absurd (List.mem_singleton.2 (hg x h)) hn,?_⟩;have:ie m (aU [] k true)<=(oT m).length:=W8 _ _;simp;omega
theorem BI.inner {m:List (Int×Node)} {k:Int} {had:List (Int×Bool)} {x:Int} {r:List Int} (h:BI m k had (x::r)) {n:Node} (hn:br m x=some n):BJ m k x n ((x::r).length+ie m had) 0 had (x::r):=
 ⟨hn,h.rise,h.sound,h.start,h.todo,h.shut,λe he=>by simp at he,⟨r,rfl⟩,W7 _⟩
theorem BI.none {m:List (Int×Node)} {k:Int} {had:List (Int×Bool)} {x:Int} {r:List Int} (h:BI m k had (x::r)) (hn:br m x=none):BI m k had r:=
 ⟨h.rise,h.sound,h.start,λy hy=>h.todo y (List.mem_cons_of_mem _ hy),λy hy hno n hmn=>h.shut y hy (λhm=>by
  rcases List.mem_cons.1 hm with rfl | hm
  ·rw[hn] at hmn;cases hmn
  ·exact hno hm) n hmn,by have:=h.size;simp at this;omega⟩
theorem BJ.pop {m:List (Int×Node)} {k x:Int} {n:Node} {c:Nat} {had:List (Int×Bool)} {T:List Int} (h:BJ m k x n c n.entries.length had T) (hc:c<=(oT m).length+1) :
  BI m k had (T.drop 1)/\(T.drop 1).length+ie m had<c:=by
 obtain ⟨r,rfl⟩:=h.head;have hs:=h.size;simp only[List.length_cons] at hs;simp only[List.drop_succ_cons,List.drop_zero];refine ⟨⟨h.rise,h.sound,h.start,λy hy=>h.todo y (List.mem_cons_of_mem _ hy),λy hy hno n' hmn e he=>?_,by omega⟩,by omega⟩
 by_cases hyx:y=x
 ·subst hyx;rw[h.at_] at hmn;injection hmn with hmn;subst hmn
  exact h.done e (by rw[W4];exact he)
 ·exact h.shut y hy (λhm=>by
   rcases List.mem_cons.1 hm with h1 | h1
   ·exact hyx h1
   ·exact hno h1) n' hmn e he
theorem BJ.skip {m:List (Int×Node)} {k x:Int} {n:Node} {c j:Nat} {had:List (Int×Bool)} {T:List Int} (h:BJ m k x n c j had T) (hj:j<n.entries.length) (hb:cE had (n.entries.getD j default).fid=true):BJ m k x n c (j+1) had T:=
 ⟨h.at_,h.rise,h.sound,h.start,h.todo,h.shut,λe he=>by
  rw[ZT hj] at he
  rcases List.mem_append.1 he with he | he
  ·exact h.done e he
  ·rw[List.mem_singleton.1 he];exact hb,h.head,h.size⟩
theorem BJ.add {m:List (Int×Node)} {k x:Int} {n:Node} {c j:Nat} {had:List (Int×Bool)} {T:List Int} (h:BJ m k x n c j had T) (hj:j<n.entries.length) (hb:cE had (n.entries.getD j default).fid=false) :
  BJ m k x n c (j+1) (aU had (n.entries.getD j default).fid true) (T++[(n.entries.getD j default).fid]):=by
 have hmem:n.entries.getD j default∈n.entries:=YG hj;have htk:∀e,e∈n.entries.take (j+1)->e∈n.entries.take j\/e=n.entries.getD j default:=λe he=>by
  rw[ZT hj] at he
  rcases List.mem_append.1 he with he | he
  ·exact .inl he
  ·exact .inr (List.mem_singleton.1 he)
 generalize n.entries.getD j default=f at *;have hg:∀y,cE (aU had f.fid true) y=if y=f.fid then true else cE had y:=kJ h.rise f.fid true;have hmono:∀y,cE had y=true->cE (aU had f.fid true) y=true:=λy hy=>by rw[hg];split<;>first | rfl | exact hy
 obtain ⟨r,hr⟩:=h.head;have hx:cE had x=true:=h.todo x (by rw[hr];simp);refine ⟨h.at_,cu h.rise,λy hy=>?_,hmono _ h.start,λy hy=>?_,λy hy hno n' hmn e he=>?_,λe he=>?_,⟨r++[f.fid],by rw[hr];rfl⟩,?_⟩
 ·rw[hg] at hy;split at hy
  ·rename_i e;subst e;exact .step (h.sound x hx) h.at_ hmem
  ·exact h.sound y hy
 ·rcases List.mem_append.1 hy with hy | hy
  ·exact hmono _ (h.todo y hy)
  ·rw[List.mem_singleton.1 hy,hg,if_pos rfl]
 ·rw[hg] at hy;split at hy
  ·rename_i e';exact absurd (YB _ (List.mem_singleton.2 e')) hno
  ·exact hmono _ (h.shut y hy (λhm=>hno (YQ _ hm)) n' hmn e he)
 ·rcases htk e he with h1 | h1
  ·exact hmono _ (h.done e h1)
  ·rw[h1,hg,if_pos rfl]
 ·have:=Cz h.rise (Fp h.at_ hmem) hb;have:=h.size;simp only[List.length_append,List.length_cons,List.length_nil];omega
theorem BI.fin {m:List (Int×Node)} {k:Int} {had:List (Int×Bool)} (h:BI m k had []) (x:Int):cE had x=true↔MReach m k x:=by
 refine ⟨h.sound x,λhr=>?_⟩
 induction hr with
 | refl=>exact h.start
 | step hr hn he ih=>exact h.shut _ ih w8 _ hn _ he
def Edge (l:List Node) (d:Int) (s:List UInt8) (f:Int):Prop:=∃n,n∈l/\n.fid=d/\(⟨s,f⟩:Entry)∈n.entries
def fv (l:List Node) (f:Int):Prop:=∃n,n∈l/\n.fid=f
structure Loc (n:Node):Prop where
 eup:EUp n.entries
 file:n.dir=false->n.entries=[]
 dirD:n.dir=true->n.data=[]
structure Wh (l:List Node):Prop where
 bR:Good l
 loc:∀n,n∈l->Loc n
 name:∀d s f,Edge l d s f->cH s=true
 there:∀d s f,Edge l d s f->fv l f
 noroot:∀d s f,Edge l d s f->f≠0
 par:∀f,fv l f->f≠0->∃d s,Edge l d s f
 one:∀d s d' s' f,Edge l d s f->Edge l d' s' f->d=d'/\s=s'
 root:∃n,n∈l/\n.fid=0/\n.dir=true
theorem pX {l:List Node} (h:Up l) {a b:Node} (ha:a∈l) (hb:b∈l) (hf:a.fid=b.fid):a=b:=by
 have h1:=(ZO h).2 ⟨ha,rfl⟩;have h2:=(ZO h).2 ⟨hb,hf.symm⟩;rw[h1] at h2;injection h2
theorem ny {l:List Node} (h:Up l) {n:Node} (hn:n∈l) {s:List UInt8} {f:Int}:Edge l n.fid s f↔(⟨s,f⟩:Entry)∈n.entries:=
 ⟨λ⟨m,hm,hf,he⟩=>by rw[pX h hm hn hf] at he;exact he,λhe=>⟨n,hn,rfl,he⟩⟩
theorem mw {l:List Node} (h:Up l) (n:Node) {d:Int} {s:List UInt8} {f:Int}:Edge (aI l n) d s f↔(d=n.fid/\(⟨s,f⟩:Entry)∈n.entries)\/(d≠n.fid/\Edge l d s f):=by
 obtain ⟨_,h2⟩:=bt h n;constructor
 ·rintro ⟨m,hm,rfl,he⟩
  rcases (h2 m).1 hm with rfl | ⟨hm,hne⟩
  ·exact .inl ⟨rfl,he⟩
  ·exact .inr ⟨hne,m,hm,rfl,he⟩
 ·rintro (⟨rfl,he⟩ | ⟨hne,m,hm,rfl,he⟩)
  ·exact ⟨n,(h2 n).2 (.inl rfl),rfl,he⟩
  ·exact ⟨m,(h2 m).2 (.inr ⟨hm,hne⟩),rfl,he⟩
theorem nz {l:List Node} (h:Up l) (n:Node) {f:Int}:fv (aI l n) f↔f=n.fid\/fv l f:=by
 obtain ⟨_,h2⟩:=bt h n;constructor
 ·rintro ⟨m,hm,rfl⟩
  rcases (h2 m).1 hm with rfl | ⟨hm,hne⟩
  ·exact .inl rfl
  ·exact .inr ⟨m,hm,rfl⟩
 ·rintro (rfl | ⟨m,hm,rfl⟩)
  ·exact ⟨n,(h2 n).2 (.inl rfl),rfl⟩
  ·by_cases hne:m.fid=n.fid
   ·exact ⟨n,(h2 n).2 (.inl rfl),hne.symm⟩
   ·exact ⟨m,(h2 m).2 (.inr ⟨hm,hne⟩),rfl⟩
theorem DK {l:List Node} (k:Int) {d:Int} {s:List UInt8} {f:Int}:Edge (eQ l k) d s f↔Edge l d s f/\d≠k:=by
 constructor
 ·rintro ⟨m,hm,rfl,he⟩;have:=YI.1 hm;exact ⟨⟨m,this.1,rfl,he⟩,by simpa using this.2⟩
 ·rintro ⟨⟨m,hm,rfl,he⟩,hk⟩;exact ⟨m,YI.2 ⟨hm,by simpa using hk⟩,rfl,he⟩
theorem F3 {l:List Node} (k:Int) {f:Int}:fv (eQ l k) f↔fv l f/\f≠k:=by
 constructor
 ·rintro ⟨m,hm,rfl⟩;have:=YI.1 hm;exact ⟨⟨m,this.1,rfl⟩,by simpa using this.2⟩
 ·rintro ⟨⟨m,hm,rfl⟩,hk⟩;exact ⟨m,YI.2 ⟨hm,by simpa using hk⟩,rfl⟩
theorem vQ {l:List Entry} (h:EUp l) {s0:List UInt8} (hs:isE l s0=false) (f0:Int) {s:List UInt8} {f:Int}:(⟨s,f⟩:Entry)∈bF l s0 f0↔(s=s0/\f=f0)\/(⟨s,f⟩:Entry)∈l:=by
 rw[(kG h hs f0).2.1];simp
theorem wo {l:List Entry} {s0 s:List UInt8} {f:Int}:(⟨s,f⟩:Entry)∈dv l s0↔(⟨s,f⟩:Entry)∈l/\s≠s0:=by
 unfold dv;rw[YI];simp
theorem kO {l:List Entry} (h:EUp l) (s:List UInt8):EUp (dv l s):=h.sublist Yw
theorem dG {n:Node} {s:List UInt8} (h:cf n s=0):cH s=true/\isE n.entries s=false:=by
 unfold cf at h;split at h
 ·rename_i h1;split at h
  ·omega
  ·rename_i h2;exact ⟨h1,by simpa using h2⟩
 ·omega
theorem GH {l:List Node} {k:Int} (hu:Up l) (h:bf l k=false):¬fv l k:=by
 rintro ⟨m,hm,rfl⟩;have:=(ZO hu).2 ⟨hm,rfl⟩;rw[lE this] at h;cases h
theorem Dv {l:List Node} (h:Wh l) (a:Act) (v:Int) (he:da l a=0):Wh (dY l a v):=by
 have hg:=qw h.bR a v he;have hu:=h.bR.up;have hL:dY l a v=aI (aI l { aC (ar l a.dir) a.name a.fid with version:=v }) (dX a v):=by unfold dY;rw[if_pos he]
 unfold da at he;split at he
 case isFalse hd=>exact absurd he hd
 rename_i hd;obtain ⟨n,hf,hgn,hdir⟩:=jh hd;rw[hgn] at he hL;obtain ⟨hn,hnk⟩:=(ZO hu).1 hf;split at he
 case isFalse hr=>exact absurd he hr
 rename_i hro;obtain ⟨hnm,hfree⟩:=dG hro;split at he
 ·omega
 rename_i hnew;have hno:bf l a.fid=false/\a.fid≠0:=by simpa using hnew
 have hnin:=GH hu hno.1;have hl:=h.loc n hn;have hu1:=(bt hu { aC n a.name a.fid with version:=v }).1;have hnf:n.fid≠a.fid:=λe=>hnin ⟨n,hn,e⟩
 rw[hL] at hg ⊢;have hE:∀d s f,Edge (aI (aI l { aC n a.name a.fid with version:=v }) (dX a v)) d s f↔Edge l d s f\/(d=n.fid/\s=a.name/\f=a.fid):=λd s f=>by
  rw[mw hu1,mw hu]
  show (d=a.fid/\(⟨s,f⟩:Entry)∈[])\/(d≠a.fid/\((d=n.fid/\(⟨s,f⟩:Entry)∈bF n.entries a.name a.fid)\/(d≠n.fid/\Edge l d s f)))↔_
  rw[vQ hl.eup hfree];constructor
  ·rintro (⟨_,h0⟩ | ⟨h1,⟨rfl,h2 | h2⟩ | ⟨h2,h3⟩⟩)
   ·cases h0
   ·exact .inr ⟨rfl,h2⟩
   ·exact .inl ⟨n,hn,rfl,h2⟩
   ·exact .inl h3
  ·rintro (h1 | ⟨rfl,rfl,rfl⟩)
   ·refine .inr ⟨λe=>?_,?_⟩
    ·obtain ⟨m,hm,hmf,_⟩:=h1;exact hnin ⟨m,hm,hmf.trans e⟩
    ·by_cases hd:d=n.fid
     ·subst hd;exact .inl ⟨rfl,.inr ((ny hu hn).1 h1)⟩
     ·exact .inr ⟨hd,h1⟩
   ·exact .inr ⟨hnf,.inl ⟨rfl,.inl ⟨rfl,rfl⟩⟩⟩
 have hF:∀f,fv (aI (aI l { aC n a.name a.fid with version:=v }) (dX a v)) f↔f=a.fid\/fv l f:=λf=>by
  rw[nz hu1,nz hu]
  show f=a.fid\/f=n.fid\/fv l f↔_
  constructor
  ·rintro (h | rfl | h)
   ·exact .inl h
   ·exact .inr ⟨n,hn,rfl⟩
   ·exact .inr h
  ·rintro (h | h)
   ·exact .inl h
   ·exact .inr (.inr h)
 refine ⟨hg,λx hx=>?_,λd s f hd=>?_,λd s f hd=>?_,λd s f hd=>?_,λf hf h0=>?_,λd s d' s' f h1 h2=>?_,?_⟩
 ·rcases ga hx with rfl | hx
  ·exact ⟨by unfold EUp;simp[dX],λ_=>rfl,λ_=>rfl⟩
  ·rcases ga hx with rfl | hx
   ·exact ⟨(kG hl.eup hfree a.fid).1,λh0=>(by
     have h0:n.dir=false:=h0;rw[hdir] at h0;cases h0),hl.dirD⟩
   ·exact h.loc x hx
 ·rcases (hE d s f).1 hd with h1 | ⟨_,rfl,_⟩
  ·exact h.name d s f h1
  ·exact hnm
 ·rcases (hE d s f).1 hd with h1 | ⟨_,_,rfl⟩
  ·exact (hF f).2 (.inr (h.there d s f h1))
  ·exact (hF _).2 (.inl rfl)
 ·rcases (hE d s f).1 hd with h1 | ⟨_,_,rfl⟩
  ·exact h.noroot d s f h1
  ·exact hno.2
 ·rcases (hF f).1 hf with rfl | hf
  ·exact ⟨n.fid,a.name,(hE _ _ _).2 (.inr ⟨rfl,rfl,rfl⟩)⟩
  ·obtain ⟨d,s,h1⟩:=h.par f hf h0;exact ⟨d,s,(hE _ _ _).2 (.inl h1)⟩
 ·rcases (hE d s f).1 h1 with h1 | ⟨rfl,rfl,rfl⟩
  ·rcases (hE d' s' f).1 h2 with h2 | ⟨rfl,rfl,rfl⟩
   ·exact h.one d s d' s' f h1 h2
   ·exact absurd (h.there _ _ _ h1) hnin
  ·rcases (hE d' s' _).1 h2 with h2 | ⟨rfl,rfl,_⟩
   ·exact absurd (h.there _ _ _ h2) hnin
   ·exact ⟨rfl,rfl⟩
 ·obtain ⟨m,hm,hm0,hmd⟩:=h.root;have hmem:∀x,x∈aI l { aC n a.name a.fid with version:=v }->x.fid≠a.fid->x∈aI (aI l { aC n a.name a.fid with version:=v }) (dX a v):=λx hx hne=>((bt hu1 (dX a v)).2 x).2 (.inr ⟨hx,hne⟩)
  by_cases hmn:m.fid=n.fid
  ·refine ⟨{ aC n a.name a.fid with version:=v },hmem _ (((bt hu _).2 _).2 (.inl rfl)) hnf,hmn.symm.trans hm0,hdir⟩
  ·exact ⟨m,hmem _ (((bt hu _).2 _).2 (.inr ⟨hm,hmn⟩)) (by rw[hm0];exact λe=>hno.2 e.symm),hm0,hmd⟩
theorem Hp {l:List Node} (h:Wh l) (a:Act) (v:Int) (he:e_ l a=0):Wh (eG l a v):=by
 have hg:=tW h.bR a v he;have hu:=h.bR.up;have hL:eG l a v=aI l { ar l a.fid with data:=a.data,version:=v }:=by unfold eG;rw[if_pos he]
 unfold e_ at he;cases hf:ak l a.fid with
 | none=>rw[hf] at he;simp at he
 | some n=>
  rw[hf] at he;simp only at he;obtain ⟨hn,hnk⟩:=(ZO hu).1 hf;have hgn:ar l a.fid=n:=by unfold ar;rw[hf];rfl
  rw[hgn] at hL;split at he
  ·omega
  rename_i hdir;rw[hL] at hg ⊢;have hE:∀d s f,Edge (aI l { n with data:=a.data,version:=v }) d s f↔Edge l d s f:=λd s f=>by
   rw[mw hu]
   show (d=n.fid/\(⟨s,f⟩:Entry)∈n.entries)\/(d≠n.fid/\Edge l d s f)↔_
   constructor
   ·rintro (⟨rfl,h1⟩ | ⟨_,h1⟩)
    ·exact ⟨n,hn,rfl,h1⟩
    ·exact h1
   ·intro h1
    by_cases hd:d=n.fid
    ·subst hd;exact .inl ⟨rfl,(ny hu hn).1 h1⟩
    ·exact .inr ⟨hd,h1⟩
  have hF:∀f,fv (aI l { n with data:=a.data,version:=v }) f↔fv l f:=λf=>by
   rw[nz hu]
   show f=n.fid\/fv l f↔_
   constructor
   ·rintro (rfl | h)
    ·exact ⟨n,hn,rfl⟩
    ·exact h
   ·exact .inr
  refine ⟨hg,λx hx=>?_,λd s f hd=>h.name d s f ((hE _ _ _).1 hd),λd s f hd=>(hF _).2 (h.there d s f ((hE _ _ _).1 hd)),λd s f hd=>h.noroot d s f ((hE _ _ _).1 hd),λf hf h0=>?_,λd s d' s' f h1 h2=>h.one d s d' s' f ((hE _ _ _).1 h1) ((hE _ _ _).1 h2),?_⟩
  ·rcases ga hx with rfl | hx
   ·have hl:=h.loc n hn;exact ⟨hl.eup,hl.file,λh0=>absurd h0 hdir⟩
   ·exact h.loc x hx
  ·obtain ⟨d,s,h1⟩:=h.par f ((hF f).1 hf) h0;exact ⟨d,s,(hE _ _ _).2 h1⟩
  ·obtain ⟨m,hm,hm0,hmd⟩:=h.root;refine ⟨m,((bt hu _).2 m).2 (.inr ⟨hm,λe=>?_⟩),hm0,hmd⟩;have:m=n:=pX hu hm hn e;subst this;exact hdir hmd
theorem uh {l:List Node} (h:Wh l) {a:Act} (he:bG l a=0):∃n,ak l a.dir=some n/\ar l a.dir=n/\n∈l/\n.fid=a.dir/\n.dir=true/\Edge l a.dir a.name a.fid:=by
 unfold bG at he;split at he
 case isFalse hd=>exact absurd he hd
 rename_i hd;obtain ⟨n,hf,hgn,hdir⟩:=jh hd;obtain ⟨hn,hnk⟩:=(ZO h.bR.up).1 hf;rw[hgn] at he;cases e:ba n a.name with
 | none=>rw[e] at he;simp at he
 | some f=>
  rw[e] at he;simp only at he;split at he
  case isFalse hd=>omega
  rename_i hff;subst hff;exact ⟨n,hf,hgn,hn,hnk,hdir,n,hn,hnk,(YE (h.loc n hn).eup).1 e⟩
theorem vN {l:List Node} (hu:Up l) {n:Node} (hn:n∈l) (s0:List UInt8) (v:Int) {d:Int} {s:List UInt8} {f:Int}:Edge (aI l { aE n s0 with version:=v }) d s f↔Edge l d s f/\¬(d=n.fid/\s=s0):=by
 rw[mw hu]
 show (d=n.fid/\(⟨s,f⟩:Entry)∈dv n.entries s0)\/(d≠n.fid/\Edge l d s f)↔_
 rw[wo];constructor
 ·rintro (⟨rfl,h1,h2⟩ | ⟨h1,h2⟩)
  ·exact ⟨⟨n,hn,rfl,h1⟩,λh=>h2 h.2⟩
  ·exact ⟨h2,λh=>h1 h.1⟩
 ·rintro ⟨h1,h2⟩
  by_cases hd:d=n.fid
  ·subst hd;exact .inl ⟨rfl,(ny hu hn).1 h1,λe=>h2 ⟨rfl,e⟩⟩
  ·exact .inr ⟨hd,h1⟩
theorem Ff {l:List Node} (h:Wh l) (a:Act) (v:Int) (he:cU l a=0):Wh (cV l a v):=by
 have hg:=rA h.bR a v he;have hu:=h.bR.up;have hL:cV l a v=eQ (aI l { aE (ar l a.dir) a.name with version:=v }) a.fid:=by unfold cV;rw[if_pos he]
 unfold cU at he;split at he
 case isFalse hd=>exact absurd he hd
 rename_i hnd;obtain ⟨n,hf,hgn,hn,hnk,hdir,hed⟩:=uh h hnd;rw[hgn] at hL;cases hx:ak l a.fid with
 | none=>rw[hx] at he;simp at he
 | some x=>
  rw[hx] at he;simp only at he;obtain ⟨hxm,hxf⟩:=(ZO hu).1 hx;have hxe:x.entries=[]:=by
   cases e:x.entries with
   | nil=>rfl
   | cons p q=>rw[e] at he;simp at he
  rw[hL] at hg ⊢;have hnoE:∀s f,¬Edge l a.fid s f:=λs f h1=>by
   rw[<-hxf] at h1;have:=(ny hu hxm).1 h1;rw[hxe] at this;cases this
  have hE:∀d s f,Edge (eQ (aI l { aE n a.name with version:=v }) a.fid) d s f↔Edge l d s f/\¬(d=a.dir/\s=a.name):=λd s f=>by
   rw[DK,vN hu hn,hnk];constructor
   ·exact λh=>h.1
   ·exact λh=>⟨h,λe=>by subst e;exact hnoE s f h.1⟩
  have hF:∀f,fv (eQ (aI l { aE n a.name with version:=v }) a.fid) f↔fv l f/\f≠a.fid:=λf=>by
   rw[F3,nz hu]
   show (f=n.fid\/fv l f)/\f≠a.fid↔_
   constructor
   ·rintro ⟨rfl | h,h1⟩
    ·exact ⟨⟨n,hn,rfl⟩,h1⟩
    ·exact ⟨h,h1⟩
   ·rintro ⟨h,h1⟩;exact ⟨.inr h,h1⟩
  have hup1:=(bt hu { aE n a.name with version:=v });refine ⟨hg,λx hx=>?_,λd s f hd=>h.name d s f ((hE _ _ _).1 hd).1,λd s f hd=>(hF _).2 ⟨h.there d s f ((hE _ _ _).1 hd).1,λe=>?_⟩,λd s f hd=>h.noroot d s f ((hE _ _ _).1 hd).1,λf hf h0=>?_,λd s d' s' f h1 h2=>h.one d s d' s' f ((hE _ _ _).1 h1).1 ((hE _ _ _).1 h2).1,?_⟩
  ·rcases ga (YI.1 hx).1 with rfl | hx
   ·have hl:=h.loc n hn;exact ⟨kO hl.eup _,λh0=>by
     show dv n.entries a.name=[]
     rw[hl.file h0];rfl,hl.dirD⟩
   ·exact h.loc x hx
  ·subst e;obtain ⟨h1,h2⟩:=(hE _ _ _).1 hd;exact h2 (h.one _ _ _ _ _ h1 hed)
  ·obtain ⟨h1,h2⟩:=(hF f).1 hf;obtain ⟨d,s,h3⟩:=h.par f h1 h0;refine ⟨d,s,(hE _ _ _).2 ⟨h3,λe=>?_⟩⟩;obtain ⟨rfl,rfl⟩:=e;obtain ⟨m,hm,hmf,hme⟩:=hed;obtain ⟨m',hm',hmf',hme'⟩:=h3;have:m=m':=pX hu hm hm' (hmf.trans hmf'.symm);subst this;have:=(h.loc m hm).eup.same hme hme' rfl;injection this with _ h5
   exact h2 h5.symm
  ·obtain ⟨m,hm,hm0,hmd⟩:=h.root;have h0:(0:Int)≠a.fid:=λe=>h.noroot _ _ _ hed e.symm
   by_cases hmn:m.fid=n.fid
   ·exact ⟨{ aE n a.name with version:=v },YI.2 ⟨(hup1.2 _).2 (.inl rfl),by
     show (!(n.fid==a.fid))=true
     rw[<-hmn,hm0];simpa using h0⟩,hmn.symm.trans hm0,hdir⟩
   ·exact ⟨m,YI.2 ⟨(hup1.2 _).2 (.inr ⟨hm,hmn⟩),by rw[hm0];simpa using h0⟩,hm0,hmd⟩
theorem Fg {l:List Node} (h:Wh l) (a:Act) (v:Int) (he:dy l a=0):Wh (dp l a v):=by
 have hg:=rB h.bR a v he;have hu:=h.bR.up;have hL:dp l a v=aI (if a.to=a.dir then l else aI l { aE (ar l a.dir) a.name with version:=v }) { aC (toN l a) a.toName a.fid with version:=v }:=by unfold dp;rw[if_pos he]
 unfold dy at he;split at he
 case isFalse hd=>exact absurd he hd
 rename_i hnd;obtain ⟨n,hf,hgn,hn,hnk,hdir,hed⟩:=uh h hnd;split at he
 case isFalse hd=>exact absurd he hd
 rename_i hdt;obtain ⟨t,htf,htg,htdir⟩:=jh hdt;obtain ⟨htm,htk⟩:=(ZO hu).1 htf;split at he
 case isFalse hd=>exact absurd he hd
 rename_i hro;obtain ⟨hnm,hfree⟩:=dG hro;rw[hgn] at hL;rw[hL] at hg ⊢
 -- the directory that gets the name
 have hT:(toN l a).fid=a.to/\(toN l a).dir=true/\EUp (toN l a).entries/\((toN l a).dir=true->(toN l a).data=[])/\∀s f,(⟨s,f⟩:Entry)∈(toN l a).entries↔Edge l a.to s f/\¬(a.to=a.dir/\s=a.name):=by
  unfold toN;split
  ·rename_i htd;rw[hgn];have hl:=h.loc n hn;refine ⟨hnk.trans htd.symm,hdir,kO hl.eup _,hl.dirD,λs f=>?_⟩
   show (⟨s,f⟩:Entry)∈dv n.entries a.name↔_
   rw[wo,htd,<-hnk,ny hu hn];simp
  ·rename_i htd;rw[htg];have hl:=h.loc t htm;refine ⟨htk,htdir,hl.eup,hl.dirD,λs f=>?_⟩;rw[<-htk,ny hu htm];constructor
   ·exact λh=>⟨h,λe=>htd (htk.symm.trans e.1)⟩
   ·exact λh=>h.1
 obtain ⟨hTf,hTd,hTe,hTda,hTm⟩:=hT;generalize hl1:(if a.to=a.dir then l else aI l { aE n a.name with version:=v })=l1 at hg ⊢;have hu1:Up l1:=by subst hl1;split;exact hu;exact (bt hu _).1
 have hE1:∀d s f,d≠a.to->(Edge l1 d s f↔Edge l d s f/\¬(d=a.dir/\s=a.name)):=λd s f hd=>by
  subst hl1;split
  ·rename_i htd;exact ⟨λh=>⟨h,λe=>hd (e.1.trans htd.symm)⟩,λh=>h.1⟩
  ·rw[vN hu hn,hnk]
 have hF1:∀f,fv l1 f↔fv l f:=λf=>by
  subst hl1;split
  ·exact Iff.rfl
  ·rw[nz hu]
   show f=n.fid\/fv l f↔_
   exact ⟨λh=>h.elim (λe=>⟨n,hn,e.symm⟩) id,.inr⟩
 have hE:∀d s f,Edge (aI l1 { aC (toN l a) a.toName a.fid with version:=v }) d s f↔(Edge l d s f/\¬(d=a.dir/\s=a.name))\/(d=a.to/\s=a.toName/\f=a.fid):=λd s f=>by
  rw[mw hu1]
  show (d=(toN l a).fid/\(⟨s,f⟩:Entry)∈bF (toN l a).entries a.toName a.fid)\/(d≠(toN l a).fid/\Edge l1 d s f)↔_
  rw[vQ hTe hfree,hTm,hTf];constructor
  ·rintro (⟨rfl,h1 | h1⟩ | ⟨h1,h2⟩)
   ·exact .inr ⟨rfl,h1⟩
   ·exact .inl h1
   ·exact .inl ((hE1 d s f h1).1 h2)
  ·rintro (h1 | ⟨rfl,h1⟩)
   ·by_cases hd:d=a.to
    ·subst hd;exact .inl ⟨rfl,.inr h1⟩
    ·exact .inr ⟨hd,(hE1 d s f hd).2 h1⟩
   ·exact .inl ⟨rfl,.inl h1⟩
 have hF:∀f,fv (aI l1 { aC (toN l a) a.toName a.fid with version:=v }) f↔fv l f:=λf=>by
  rw[nz hu1,hF1]
  show f=(toN l a).fid\/fv l f↔_
  rw[hTf];exact ⟨λh=>h.elim (λe=>⟨t,htm,htk.trans e.symm⟩) id,.inr⟩
 have hthere:=h.there _ _ _ hed
 -- who leads to the fid that moves: its old place alone
 have hold:∀d s,Edge l d s a.fid->d=a.dir/\s=a.name:=λd s h1=>h.one _ _ _ _ _ h1 hed
 refine ⟨hg,λx hx=>?_,λd s f hd=>?_,λd s f hd=>?_,λd s f hd=>?_,λf hf h0=>?_,λd s d' s' f h1 h2=>?_,?_⟩
 ·rcases ga hx with rfl | hx
  ·exact ⟨(kG hTe hfree a.fid).1,λh0=>(by
    have h0:(toN l a).dir=false:=h0;rw[hTd] at h0;cases h0),hTda⟩
  ·subst hl1;split at hx
   ·exact h.loc x hx
   ·rcases ga hx with rfl | hx
    ·have hl:=h.loc n hn;exact ⟨kO hl.eup _,λh0=>by
      show dv n.entries a.name=[]
      rw[hl.file h0];rfl,hl.dirD⟩
    ·exact h.loc x hx
 ·rcases (hE d s f).1 hd with h1 | ⟨_,rfl,_⟩
  ·exact h.name d s f h1.1
  ·exact hnm
 ·rcases (hE d s f).1 hd with h1 | ⟨_,_,rfl⟩
  ·exact (hF f).2 (h.there d s f h1.1)
  ·exact (hF _).2 hthere
 ·rcases (hE d s f).1 hd with h1 | ⟨_,_,rfl⟩
  ·exact h.noroot d s f h1.1
  ·exact h.noroot _ _ _ hed
 ·by_cases hff:f=a.fid
  ·subst hff;exact ⟨a.to,a.toName,(hE _ _ _).2 (.inr ⟨rfl,rfl,rfl⟩)⟩
  ·obtain ⟨d,s,h1⟩:=h.par f ((hF f).1 hf) h0;refine ⟨d,s,(hE _ _ _).2 (.inl ⟨h1,λe=>?_⟩)⟩;obtain ⟨rfl,rfl⟩:=e;obtain ⟨m,hm,hmf,hme⟩:=hed;obtain ⟨m',hm',hmf',hme'⟩:=h1;have:m=m':=pX hu hm hm' (hmf.trans hmf'.symm);subst this;have:=(h.loc m hm).eup.same hme hme' rfl;injection this with _ h5
   exact hff h5.symm
 ·rcases (hE d s f).1 h1 with h1 | ⟨rfl,rfl,rfl⟩
  ·rcases (hE d' s' f).1 h2 with h2 | ⟨rfl,rfl,rfl⟩
   ·exact h.one d s d' s' f h1.1 h2.1
   ·exact absurd (hold d s h1.1) h1.2
  ·rcases (hE d' s' _).1 h2 with h2 | ⟨rfl,rfl,_⟩
   ·exact absurd (hold d' s' h2.1) h2.2
   ·exact ⟨rfl,rfl⟩
 ·obtain ⟨m,hm,hm0,hmd⟩:=h.root
  by_cases hmt:m.fid=a.to
  ·exact ⟨_,((bt hu1 _).2 _).2 (.inl rfl),hTf.trans (hmt.symm.trans hm0),hTd⟩
  ·have hml1:∃x,x∈l1/\x.fid=0/\x.dir=true:=by
    subst hl1;split
    ·exact ⟨m,hm,hm0,hmd⟩
    ·by_cases hmn:m.fid=n.fid
     ·exact ⟨{ aE n a.name with version:=v },((bt hu _).2 _).2 (.inl rfl),hmn.symm.trans hm0,hdir⟩
     ·exact ⟨m,((bt hu _).2 _).2 (.inr ⟨hm,hmn⟩),hm0,hmd⟩
   obtain ⟨x,hx,hx0,hxd⟩:=hml1;exact ⟨x,((bt hu1 _).2 _).2 (.inr ⟨hx,by
    show x.fid≠(toN l a).fid
    rw[hTf,hx0,<-hm0];exact hmt⟩),hx0,hxd⟩
theorem Ho {l:List Node} (h:Wh l) (a:Act) (v:Int) (he:aF l a=0):Wh (aK l a v):=by
 unfold aF at he;unfold aK;split at he
 ·rename_i h1;rw[if_pos h1];exact Dv h a v he
 ·rename_i h1;rw[if_neg h1];split at he
  ·rename_i h2;rw[if_pos h2];exact Dv h a v he
  ·rename_i h2;rw[if_neg h2];split at he
   ·rename_i h3;rw[if_pos h3];exact Hp h a v he
   ·rename_i h3;rw[if_neg h3];split at he
    ·rename_i h4;rw[if_pos h4];exact Ff h a v he
    ·rename_i h4;rw[if_neg h4];split at he
     ·rename_i h5;rw[if_pos h5];exact Fg h a v he
     ·omega
theorem KR:Wh [gS]:=by
 have hE:∀d s f,¬Edge [gS] d s f:=λd s f ⟨n,hn,_,he⟩=>by rw[List.mem_singleton.1 hn] at he;cases he
 exact ⟨vW,λn hn=>by rw[List.mem_singleton.1 hn];exact ⟨by unfold EUp;simp[gS],λ_=>rfl,λ_=>rfl⟩,λd s f h=>absurd h (hE d s f),λd s f h=>absurd h (hE d s f),λd s f h=>absurd h (hE d s f),
  λf ⟨n,hn,hf⟩ h0=>by rw[List.mem_singleton.1 hn] at hf;exact absurd hf.symm h0,λd s d' s' f h=>absurd h (hE d s f),⟨gS,List.mem_singleton.2 rfl,rfl,rfl⟩⟩
theorem Hist.whole {p:List Past} {t:List Node} (h:Hist p t):Wh t:=by
 induction h with
 | nil=>exact KR
 | snoc c a h ha he ih=>exact Ho ih _ _ he
def kf (l:List Node):Nat->List (Int×Node)
 | 0=>[]
 | i+1=>aU (kf l i) (gO l i) (l.getD i default)
def bQ (l:List Node):List (Int×Node):=kf l l.length
theorem Ab (l:List Node):∀i,kR l i=mN (kf l i)
 | 0=>rfl
 | i+1=>by
  have ih:=Ab l i
  show aU (kR l i) (gO l i) _=_
  rw[ih,xY];rfl
theorem xZ (l:List Node):Ec l=mN (bQ l):=Ab l l.length
theorem bC (l:List Node):dO (bQ l):=by
 have:∀i,dO (kf l i):=λi=>by
  induction i with
  | zero=>exact List.Pairwise.nil
  | succ i ih=>exact cu ih
 exact this _
theorem cM {l:List Node} (h:Up l) (k:Int):br (bQ l) k=ak l k:=by
 have h1:=Gy h k;rw[xZ,iJ] at h1;cases e:br (bQ l) k with
 | none=>
  rw[e] at h1;cases e2:ak l k with
  | none=>rfl
  | some n=>rw[e2] at h1;cases h1
 | some m=>
  rw[e] at h1;cases e2:ak l k with
  | none=>rw[e2] at h1;cases h1
  | some n=>
   rw[e2] at h1;simp only[Option.map_some,gL,AV.agg.injEq] at h1
   -- the same nodes, as both come from the list
   have hm:∀i,i<=l.length->∀p,p∈kf l i->p.2∈l/\p.2.fid=p.1:=λi=>by
    induction i with
    | zero=>intro _ p hp;cases hp
    | succ i ih=>
     intro hi p hp;have hr:dO (kf l i):=by
      have:∀j,dO (kf l j):=λj=>by
       induction j with
       | zero=>exact List.Pairwise.nil
       | succ j ihj=>exact cu ihj
      exact this i
     rcases (cj hr p.1 p.2).1 hp with ⟨h1,h2⟩ | ⟨_,h2⟩
     ·rw[h1,h2];exact ⟨YG z8,rfl⟩
     ·exact ih z8 p h2
   obtain ⟨q1,q2⟩:=hm _ (W7 _) _ (dj e);rw[<-e2];exact ((ZO h).2 ⟨q1,q2⟩).symm
theorem jG (l:List Node):∀i,dO (kf l i)
 | 0=>List.Pairwise.nil
 | i+1=>cu (jG l i)
theorem qK (l:List Node):∀i,i<=l.length->∀p,p∈kf l i->p.2∈l
 | 0,_,p,hp=>by cases hp
 | i+1,hi,p,hp=>by
  rcases (cj (jG l i) p.1 p.2).1 hp with ⟨h1,h2⟩ | ⟨_,h2⟩
  ·rw[h2];exact YG z8
  ·exact qK l i z8 p h2
theorem wv (l:List Node):∀i,(kf l i).length<=i
 | 0=>W7 _
 | i+1=>by
  have h1:=wv l i;have h2:=kg (n:=gO l i) (v:=l.getD i default) (jG l i)
  show (aU (kf l i) (gO l i) (l.getD i default)).length<=i+1
  rw[h2];cases (br (kf l i) (gO l i)).isSome<;>simp<;>omega
theorem zl {α:Type} {f:α->List Int} {k:Nat}:∀{l:List α},(∀x,x∈l->(f x).length<=k)->(l.flatMap f).length<=k*l.length
 | [],_=>by simp
 | x::r,h=>by
  have h1:=zl (l:=r) λy hy=>h y (List.mem_cons_of_mem _ hy)
  have h2:=h x List.mem_cons_self;simp only[List.flatMap_cons,List.length_append,List.length_cons,Nat.mul_add,Nat.mul_one];omega
theorem Bj {l:List Node} {k:Nat} (h:∀n,n∈l->n.entries.length<=k):(oT (bQ l)).length<=k*l.length:=by
 have h1:(oT (bQ l)).length<=k*(bQ l).length:=zl λp hp=>by
  rw[List.length_map];exact h _ (qK l _ (W7 _) p hp)
 exact Yl h1 (Nat.mul_le_mul_left _ (wv l _))
def zx (m:List (Int×Int)) (f:Int):List (Int×Int):=aU m f (f_ m f+1)
def qY (fs:List Int):List (Int×Int):=fs.foldl zx []
def DF (f:Int) (fs:List Int):Nat:=(fs.filter λx=>x==f).length
theorem A5 (fs:List Int) (f:Int):qY (fs++[f])=zx (qY fs) f:=by unfold qY;rw[List.foldl_append];rfl
theorem qp:∀(fs:List Int) (m:List (Int×Int)),dO m->dO (fs.foldl zx m)/\∀f,f_ (fs.foldl zx m) f=f_ m f+DF f fs
 | [],m,h=>⟨h,λf=>by simp[DF]⟩
 | x::fs,m,h=>by
  obtain ⟨h1,h2⟩:=qp fs (zx m x) (cu h);refine ⟨h1,λf=>?_⟩;rw[List.foldl_cons,h2];have hg:f_ (zx m x) f=if f=x then f_ m x+1 else f_ m f:=by
   unfold zx f_;rw[kS h];split<;>rfl
  rw[hg];unfold DF;rw[List.filter_cons]
  by_cases e:f=x
  ·subst e;simp;omega
  ·rw[if_neg e,if_neg (by simpa using λh=>e h.symm)]
theorem uO (fs:List Int) (f:Int):f_ (qY fs) f=DF f fs:=by
 have:=(qp fs [] List.Pairwise.nil).2 f;unfold qY;rw[this];simp[f_,br]
theorem ID (f:Int) (fs:List Int):DF f fs<=fs.length:=W8 _ _
end La
namespace La
open Go Go.Eng Go.Proofs Go.Proofs.Tryz
theorem na {α:Type}:∀{a b:List (Int×α)},dO a->dO b->(∀p,p∈a↔p∈b)->a=b
 | [],[],_,_,_=>rfl
 | [],q::b,_,_,h=>absurd ((h q).2 List.mem_cons_self) w8
 | p::a,[],_,_,h=>absurd ((h p).1 List.mem_cons_self) w8
 | p::a,q::b,ha,hb,h=>by
  have ha':=List.pairwise_cons.1 ha;have hb':=List.pairwise_cons.1 hb;have hpq:p=q:=by
   rcases List.mem_cons.1 ((h p).1 List.mem_cons_self) with e | e
   ·exact e
   ·rcases List.mem_cons.1 ((h q).2 List.mem_cons_self) with e2 | e2
    ·exact e2.symm
    ·have h1:=hb'.1 p e;have h2:=ha'.1 q e2;omega
  subst hpq;refine congrArg _ (na ha'.2 hb'.2 λr=>?_);constructor
  ·intro hr
   rcases List.mem_cons.1 ((h r).1 (List.mem_cons_of_mem _ hr)) with e | e
   ·subst e;exact absurd (ha'.1 _ hr) z8
   ·exact e
  ·intro hr
   rcases List.mem_cons.1 ((h r).2 (List.mem_cons_of_mem _ hr)) with e | e
   ·subst e;exact absurd (hb'.1 _ hr) z8
   ·exact e
def eo {α:Type} (m:List (Int×α)) (seen:List Int):List (Int×α):=m.filter λp=>seen.contains p.1
theorem qU {α:Type} {m:List (Int×α)} (h:dO m) {n:Int} {v:α} (hm:(n,v)∈m) {seen:List Int}:aU (eo m seen) n v=eo m (n::seen):=by
 have hr:dO (eo m seen):=h.filter _;refine na (cu hr) (h.filter _) λp=>?_
 obtain ⟨k,x⟩:=p;rw[cj hr];unfold eo;simp only[YI,List.contains_cons,Bool.or_eq_true,beq_iff_eq];constructor
 ·rintro (⟨rfl,rfl⟩ | ⟨h1,h2,h3⟩)
  ·exact ⟨hm,.inl rfl⟩
  ·exact ⟨h2,.inr h3⟩
 ·rintro ⟨h1,h2⟩
  by_cases e:k=n
  ·subst e;have a1:=bX h h1;have a2:=bX h hm;rw[a1] at a2;injection a2 with a2
   exact .inl ⟨rfl,a2⟩
  ·rcases h2 with h2 | h2
   ·exact absurd h2 e
   ·exact .inr ⟨e,h1,h2⟩
theorem qT {α:Type} {m:List (Int×α)} {seen:List Int} (h:∀p,p∈m->p.1∈seen):eo m seen=m:=by
 unfold eo;exact Ya.2 λp hp=>by simpa using h p hp
def nW {α:Type}:List (Int×α)->List Int->Nat
 | [],_=>0
 | p::r,seen=>(if p.1∈seen then 0 else 1)+nW r seen
theorem zU {α:Type} (n:Int) (seen:List Int):∀m:List (Int×α),nW m (n::seen)<=nW m seen
 | []=>W7 _
 | p::r=>by
  have ih:=zU n seen r;unfold nW
  by_cases h:p.1∈seen
  ·rw[if_pos h,if_pos (List.mem_cons_of_mem _ h)];omega
  ·rw[if_neg h];split<;>omega
theorem mP {α:Type} {n:Int} {v:α} {seen:List Int}:∀{m:List (Int×α)},(n,v)∈m->n∉seen->nW m (n::seen)<nW m seen
 | [],h,_=>by cases h
 | p::r,h,hs=>by
  have hle:=zU n seen r;unfold nW
  rcases List.mem_cons.1 h with rfl | h
  ·rw[if_pos List.mem_cons_self,if_neg hs];omega
  ·have ih:=mP h hs
   by_cases h2:p.1∈seen
   ·rw[if_pos h2,if_pos (List.mem_cons_of_mem _ h2)];omega
   ·rw[if_neg h2];split<;>omega
theorem nN {α:Type} (m:List (Int×α)):eo m []=[]:=by unfold eo;simp
theorem BV {m:List (Int×Node)} {n:Int} {v:AV} (h:(n,v)∈mN m):∃nd,v=.agg (ZN nd)/\(n,nd)∈m:=by
 obtain ⟨p,hp,e⟩:=W5.1 h;injection e with e1 e2
 exact ⟨p.2,e2.symm,by rw[<-e1];exact hp⟩
theorem BU {m:List (Int×Node)} {n:Int} {nd:Node} (h:(n,nd)∈m):(n,AV.agg (ZN nd))∈mN m:=W5.2 ⟨_,h,rfl⟩
theorem xX (m:List (Int×Node)):(mN m).length=m.length:=by simp[mN]
theorem BW:([]:List (Int×AV))=mN []:=rfl
theorem jf (m:List (Int×Node)) (n:Node) (hr:dO m):Fo 130 [.rm (mN m),.agg (ZN n)] (.rm (mN (aU m n.fid n))):=by
 unfold ZN;refine wSG func130 ntmps130 results130 λC=>?_
 refine tu tK rfl rfl rfl z7 z7 z7 ?_;refine wG ?_;refine ZL (λ_:List Int=>True) (λseen=>nW m seen) (λ_=>(6,.any)::(7,.any)::u0 11 8 []) (λseen=>[(8,.map (mN (eo m seen))),(10,.iter (mN m) seen)]) [] trivial ?_ λseen _=>?_
 ·simp only[go_sem];exact ZU w3 (by simp[go_sem,nN,BW]) w3
 simp only[go_sem];refine wR ?_;refine xB rfl rfl z7 z7 (λhall=>?_) (λn v hnv hns=>?_)
 ·have hsa:eo m seen=m:=qT λp hp=>hall (p.1,.agg (ZN p.2)) (BU hp)
  rw[hsa];simp only[go_sem];refine wG ?_;refine wDF ?_ (hb:=rfl);refine wGq ?_ ?_
  ·simp[AV.kF,AV.aW]
  rw[show AV.agg [.int .i64 n.fid,.bool n.dir,.sl (n.data.map ZY),.sl (n.entries.map ZE),.int .i64 n.version]=.agg (ZN n) from rfl,xY];refine lq 8 rfl ?_;simp only[go_sem];refine wT ?_;rfl
 ·obtain ⟨nd,rfl,hmem⟩:=BV hnv;have hpt:=qU hr hmem (seen:=seen);have hlt:=mP hmem hns;simp only[go_sem];refine wG ?_;refine wDT ?_ (hb:=rfl);refine wR ?_;refine tt rfl rfl z7 z7 (hnv) ?_;simp only[go_sem];refine wGq ?_ ?_ w5
  ·simp[ZN,AV.kF,AV.aW]
  exact ZB ⟨n::seen,hlt,ZU w3 (by simp[go_sem,<-hpt,<-xY,ZN]) w3⟩
theorem Ee {α:Type} {m:List (Int×α)} (h:dO m) {n:Int} {v:α} (hm:(n,v)∈m) (seen:List Int) (fid:Int) :
  (n≠fid->aU (eB (eo m seen) fid) n v=eB (eo m (n::seen)) fid)/\(n=fid->eB (eo m seen) fid=eB (eo m (n::seen)) fid):=by
 have hr:dO (eo m seen):=h.filter _;refine ⟨λhne=>?_,λhe=>?_⟩
 ·rw[<-qU h hm];refine na (cu (jq hr)) (jq (cu hr)) λp=>?_
  obtain ⟨k,x⟩:=p;rw[cj (jq hr)];unfold eB;rw[YI,YI,cj hr];simp only[Yb,beq_eq_false_iff_ne];constructor
  ·rintro (⟨rfl,rfl⟩ | ⟨h1,h2,h3⟩)
   ·exact ⟨.inl ⟨rfl,rfl⟩,hne⟩
   ·exact ⟨.inr ⟨h1,h2⟩,h3⟩
  ·rintro ⟨⟨rfl,rfl⟩ | ⟨h1,h2⟩,h3⟩
   ·exact .inl ⟨rfl,rfl⟩
   ·exact .inr ⟨h1,h2,h3⟩
 ·subst he;unfold eB eo;rw[List.filter_filter,List.filter_filter];refine List.filter_congr λp _=>?_
  simp only[List.contains_cons];cases h1:(p.1==n)<;>simp
theorem GA {α:Type} (fid:Int):eB ([]:List (Int×α)) fid=[]:=rfl
theorem CG (m:List (Int×Node)) (fid:Int) (hr:dO m):Fo 133 [.rm (mN m),.int .i64 fid] (.rm (mN (eB m fid))):=by
 refine wSG func133 ntmps133 results133 λC=>?_
 refine tu tK rfl rfl rfl z7 z7 z7 ?_;refine wG ?_;refine ZL (λ_:List Int=>True) (λseen=>nW m seen) (λ_=>(6,.any)::(7,.any)::u0 11 11 []) (λseen=>[(8,.map (mN (eB (eo m seen) fid))),(10,.iter (mN m) seen)]) [] trivial ?_ λseen _=>?_
 ·simp only[go_sem];exact ZU w3 (by simp[go_sem,nN,GA,BW]) w3
 simp only[go_sem];refine wR ?_;refine xB rfl rfl z7 z7 (λhall=>?_) (λn v hnv hns=>?_)
 ·have hsa:eo m seen=m:=qT λp hp=>hall (p.1,.agg (ZN p.2)) (BU hp)
  rw[hsa];simp only[go_sem];refine nt ?_ (hb:=rfl);refine lq 8 rfl ?_;simp only[go_sem];refine wT ?_;rfl
 ·obtain ⟨nd,rfl,hmem⟩:=BV hnv;obtain ⟨hp1,hp2⟩:=Ee hr hmem seen fid;have hlt:=mP hmem hns;simp only[go_sem];refine wG ?_;refine wDT ?_ (hb:=rfl);refine wR ?_;refine tt rfl rfl z7 z7 (hnv) ?_;simp only[go_sem];refine wGq ?_ ?_ w5
  ·simp[ZN]
  by_cases hf:n=fid
  ·have hp2:=hp2 hf;refine wFG ?_ (hb:=by simp[hf]);exact ZB ⟨n::seen,hlt,ZU w3 (by simp[go_sem,<-hp2]) w3⟩
  ·have hp1:=hp1 hf;refine wDT ?_ (hb:=by simpa using hf);refine wGq ?_ ?_ w5
   ·simp[ZN,AV.kF,AV.aW]
   refine ZB ⟨n::seen,hlt,ZU ?_ ?_ ?_⟩
   ·simp[go_sem]
   ·simp[go_sem,<-hp1,<-xY,ZN]
   ·simp[go_sem]
def pJ (l:List Entry) (s:List UInt8):Option Entry:=l.find? λe=>e.name==s
def sM (l:List Entry) (s:List UInt8):AV:=match pJ l s with
 | some e=>.tup [.int .i64 e.fid,.bool true]
 | none=>.tup [.int .i64 0,.bool false]
theorem tL {l:List Entry} {s:List UInt8} (h:∀e,e∈l->(e.name==s)=false):pJ l s=none:=List.find?_eq_none.2 λe he=>by rw[h e he];simp
theorem xI {l:List Entry} {s:List UInt8} {i:Nat} (hi:i<l.length) (h:∀e,e∈l.take i->(e.name==s)=false) (hs:((l.getD i default).name==s)=true):pJ l s=some (l.getD i default):=by
 unfold pJ;have e:l=l.take i++(l.getD i default::l.drop (i+1)):=by rw[<-cr hi,List.take_append_drop]
 conv=>lhs;rw[e]
 rw[List.find?_append,List.find?_eq_none.2 (λe he=>by rw[h e he];simp),Option.none_or,List.find?_cons,hs]
theorem js (n:Node) (s:List UInt8) (hn:n.entries.length<=100000000):Fo 91 [.agg (ZN n),.str s] (sM n.entries s):=by
 unfold sM ZN;refine wSG func91 ntmps91 results91 λC=>?_
 refine ZL (λi:Nat=>i<=n.entries.length/\∀e,e∈n.entries.take i->(e.name==s)=false) (λi=>n.entries.length-i) (λi=>(7,.any)::(11,.int .i64 i)::u0 12 10 []) (λ_=>[]) 0 ⟨by omega,by simp⟩ ?_ λi hi=>?_
 ·exact wZ
 obtain ⟨hi,hno⟩:=hi;simp only[go_sem];refine wGD (λh=>?_) (λh=>?_)
 ·have hlt:=lt1 h;have hg:=Fam.getD (f:=ZE) hlt;have hw:=wi1 (i:=i) z8;have hfs:=@xI n.entries s i hlt hno;have htk:=ZT hlt;generalize n.entries.getD i default=e at *;refine wGq ?_ ?_ s6
  ·simp[hg,ZE,hlt]
  cases hb:(e.name==s) with
  | true=>
   rw[hfs hb];refine wDT ?_ (hb:=w8);refine wGT ?_;rfl
  | false=>
   refine wDF ?_ (hb:=w8);refine wG ?_ w4 y7;refine ZB ⟨i+1,⟨by omega,?_⟩,by omega,ZU ?_ ?_ ?_⟩
   ·rw[htk];intro x hx
    rcases List.mem_append.1 hx with hx | hx
    ·exact hno x hx
    ·rw[List.mem_singleton.1 hx];exact hb
   ·simp[go_sem]
   ·simp[go_sem]
   ·simp[go_sem]
 ·obtain rfl:=eq1 hi h;rw[W4] at hno;rw[tL hno];refine wGT ?_;rfl
def cT (l:List Entry) (s:List UInt8):List Entry:=l.filter λe=>!(e.name==s)
def yj (n:Node) (s:List UInt8):Node:={ n with entries:=cT n.entries s }
theorem nK (n:Node) (s:List UInt8) (hn:n.entries.length<=100000000):Fo 132 [.agg (ZN n),.str s] (.agg (ZN (yj n s))):=by
 have hz:cT (n.entries.take n.entries.length) s=cT n.entries s:=by rw[W4]
 unfold yj ZN;simp only;rw[<-hz];refine wSG func132 ntmps132 results132 λC=>?_
 refine af (le_empty 22 96 2 z7) (wn ?_);refine wL n.entries.length (λi=>(5,.osl 22 2 0 (cT (n.entries.take i) s).length)::(7,.any)::(11,.int .i64 i)::u0 12 12 []) (λi=>[(22,.cells 96 2 ((cT (n.entries.take i) s).map ZE))]) ?_ λi hi=>?_
 ·simp only[go_sem];exact ZU (by simp[go_sem,cT]) (by simp[go_sem,cT]) w3
 simp only[go_sem];refine wGD (λh=>?_) (λh=>?_)
 ·have hlt:=lt1 h;have hg:=Fam.getD (f:=ZE) hlt;have hw:=wi1 (i:=i) z8;have htk:cT (n.entries.take (i+1)) s=if ((n.entries.getD i default).name==s)=true then cT (n.entries.take i) s else cT (n.entries.take i) s++[n.entries.getD i default]:=by
   rw[ZT hlt];unfold cT;rw[List.filter_append,List.filter_cons];cases ((n.entries.getD i default).name==s)<;>simp
  have hll:(cT (n.entries.take i) s).length<=i:=by
   have:=W8 (λe:Entry=>!(e.name==s)) (n.entries.take i);unfold cT;simp only[YA] at this;omega
  generalize n.entries.getD i default=e at *;refine wGq ?_ ?_ s6
  ·simp[hg,ZE,hlt]
  cases hb:(e.name==s) with
  | true=>
   rw[hb,if_pos rfl] at htk;refine wDF ?_ (hb:=w8);refine wG ?_ w4 y7;exact ZB ⟨i+1,by omega,by omega,ZU j7 j7 w3⟩
  | false=>
   rw[hb,if_neg Bool.false_ne_true] at htk;refine wDT ?_ (hb:=w8);refine wGq ?_ ?_ w4
   ·simp[rowsOf];omega
   exact ZB ⟨i+1,by omega,by omega,ZU j7 (by simp[go_sem,htk,ZE]) w3⟩
 ·obtain rfl:=eq1 hi h;refine wG ?_;refine ZZ 22 rfl (dB _) (wn ?_);refine wT ?_;simp
end La
namespace La
open Go Go.Eng
theorem C1 {α:Type} {a b:List (Int×α)} (ha:dO a) (hb:dO b) (h:∀k,br a k=br b k):a=b:=
 na ha hb λp=>by
  obtain ⟨k,x⟩:=p;constructor
  ·intro hp;exact dj (by rw[<-h];exact bX ha hp)
  ·intro hp;exact dj (by rw[h];exact bX hb hp)
theorem Eg {α:Type} {m:List (Int×α)} (h:dO m) (f k:Int):br (eB m f) k=if k=f then none else br m k:=by
 have hd:dO (eB m f):=jq h;have hm:∀x,(k,x)∈eB m f↔(k,x)∈m/\k≠f:=λx=>by
  unfold eB;rw[YI];simp
 by_cases e:k=f
 ·rw[if_pos e];cases e1:br (eB m f) k with
  | none=>rfl
  | some x=>exact absurd e ((hm x).1 (dj e1)).2
 ·rw[if_neg e];cases e1:br m k with
  | none=>
   cases e2:br (eB m f) k with
   | none=>rfl
   | some x=>
    have:=bX h ((hm x).1 (dj e2)).1;rw[e1] at this;cases this
  | some x=>exact bX hd ((hm x).2 ⟨dj e1,e⟩)
theorem gp {l:List Node} (h:Up l) (n:Node):aU (bQ l) n.fid n=bQ (aI l n):=
 C1 (cu (bC l)) (bC _) λk=>by
  rw[kS (bC l),cM h,cM (bt h n).1,qo h]
theorem Gx {l:List Node} (h:Up l) (f:Int):eB (bQ l) f=bQ (eQ l f):=
 C1 (jq (bC l)) (bC _) λk=>by
  rw[Eg (bC l),cM h,cM (ir h f).1,Bw h]
theorem sF {l:List Node} (h:Up l):bQ l=l.map λn=>(n.fid,n):=by
 refine na (bC l) ?_ λp=>?_
 ·exact List.pairwise_map.2 h
 ·obtain ⟨k,x⟩:=p;rw[W5];constructor
  ·intro hp;have:=bX (bC l) hp;rw[cM h] at this;obtain ⟨h1,h2⟩:=(ZO h).1 this;exact ⟨x,h1,by rw[h2]⟩
  ·rintro ⟨n,hn,e⟩;injection e with e1 e2
   subst e1 e2;exact dj (by rw[cM h];exact (ZO h).2 ⟨hn,rfl⟩)
theorem mR {l:List Node} (h:Up l):(bQ l).length=l.length:=by rw[sF h,List.length_map]
theorem ew {n:Node} (h:EUp n.entries) (s:List UInt8):sM n.entries s=match ba n s with | some f=>.tup [.int .i64 f,.bool true] | none=>.tup [.int .i64 0,.bool false]:=by
 unfold sM;cases e:pJ n.entries s with
 | none=>
  have:ba n s=none:=(ze h).2 λx hx hn=>by
   have:=List.find?_eq_none.1 e x hx;simp[hn] at this
  rw[this]
 | some x=>
  have hx:x∈n.entries:=List.mem_of_find?_eq_some e;have hs:x.name=s:=by have:=List.find?_some e;simpa using this
  have:ba n s=some x.fid:=(YE h).2 (by rw[<-hs];exact hx);rw[this]
def mz (s:List UInt8) (f:Int) (q:Bool×List Entry) (e:Entry):Bool×List Entry:=if (!q.1&&Op.bytesLess s e.name)=true then (true,q.2++[⟨s,f⟩]++[e]) else (q.1,q.2++[e])
def kr (s:List UInt8) (f:Int) (l:List Entry):Bool×List Entry:=l.foldl (mz s f) (false,[])
def sK (l:List Entry) (s:List UInt8) (f:Int):List Entry:=if (kr s f (cT l s)).1=true then (kr s f (cT l s)).2 else (kr s f (cT l s)).2++[⟨s,f⟩]
def sL (n:Node) (s:List UInt8) (f:Int):Node:={ n with entries:=sK n.entries s f }
theorem za (s:List UInt8) (f:Int) (l:List Entry):(kr s f l).2.length<=2*l.length:=by
 have:∀(l:List Entry) (q:Bool×List Entry),(l.foldl (mz s f) q).2.length<=q.2.length+2*l.length:=λl=>by
  induction l with
  | nil=>intro q;simp
  | cons e r ih=>
   intro q;have h1:=ih (mz s f q e);have h2:(mz s f q e).2.length<=q.2.length+2:=by unfold mz;split<;>simp
   rw[List.foldl_cons,List.length_cons];omega
 have:=this l (false,[]);simpa[kr] using this
theorem DL (s:List UInt8) (f:Int) (l:List Entry) (e:Entry):kr s f (l++[e])=mz s f (kr s f l) e:=by unfold kr;rw[List.foldl_append];rfl
theorem y' (s:List UInt8) (f:Int):∀(l:List Entry) (b:Bool) (q:List Entry),(∀e,e∈l->e.name<s)->l.foldl (mz s f) (b,q)=(b,q++l)
 | [],b,q,_=>by simp
 | e::r,b,q,h=>by
  have h1:=h e List.mem_cons_self;have h2:Op.bytesLess s e.name=false:=by
   rw[gn];exact decide_eq_false λh3=>uJ _ (yz h1 h3)
  rw[List.foldl_cons,show mz s f (b,q) e=(b,q++[e]) from by simp[mz,h2],y' s f r b _ λx hx=>h x (List.mem_cons_of_mem _ hx)];simp
theorem vP (s:List UInt8) (f:Int):∀(l:List Entry) (q:List Entry),l.foldl (mz s f) (true,q)=(true,q++l)
 | [],q=>by simp
 | e::r,q=>by
  rw[List.foldl_cons,show mz s f (true,q) e=(true,q++[e]) from by simp[mz],vP s f r];simp
theorem yi {l:List Entry} (h:EUp l) {s:List UInt8} (hs:isE l s=false) (f:Int):sK l s f=bF l s f:=by
 obtain ⟨h1,h2⟩:=h.parts hs;have hlv:cT l s=l:=by
  unfold cT;refine Ya.2 λe he=>?_
  have:e.name≠s:=λhn=>by
   have:=(pr h s).2 ⟨e,he,hn⟩;rw[hs] at this;cases this
  simpa using this
 unfold sK;rw[hlv];unfold bF;rw[hs,if_neg (show ¬(false=true) by simp)];have hl:kr s f l=(l.drop (aM l s)).foldl (mz s f) (false,l.take (aM l s)):=by
  unfold kr
  conv=>lhs;rw[<-List.take_append_drop (aM l s) l]
  rw[List.foldl_append,y' s f _ false [] h1];simp
 rw[hl];generalize hd:l.drop (aM l s)=d at h2 ⊢;cases d with
 | nil=>simp
 | cons e r=>
  have h3:Op.bytesLess s e.name=true:=by rw[gn];exact decide_eq_true (h2 e List.mem_cons_self)
  rw[List.foldl_cons,show mz s f (false,l.take (aM l s)) e=(true,l.take (aM l s)++[⟨s,f⟩]++[e]) from by simp[mz,h3],vP];simp
theorem gv {n:Node} (h:EUp n.entries) {s:List UInt8} (hs:isE n.entries s=false) (f:Int):sL n s f=aC n s f:=by
 unfold sL aC;rw[yi h hs]
open Classical in
noncomputable def bH (l:List Node) (a:Act):Int:=if bG l a=0 then (if eM l a.to=0 then (if cf (toN l a) a.toName=0 then (if bf l a.fid=true then (if decide (MReach (bQ l) a.fid a.to)=true then 11 else 0) else 12) else cf (toN l a) a.toName) else eM l a.to) else bG l a
noncomputable def gw (l:List Node) (a:Act) (v:Int):List Node:=if bH l a=0 then aI (if a.to=a.dir then l else aI l { aE (ar l a.dir) a.name with version:=v }) { aC (toN l a) a.toName a.fid with version:=v } else l
noncomputable def aD (l:List Node) (a:Act):Int:=if a.kind=1 then da l a else if a.kind=2 then da l a else if a.kind=3 then e_ l a else if a.kind=4 then cU l a else if a.kind=5 then bH l a else 1
noncomputable def cz (l:List Node) (a:Act) (v:Int):List Node:=if a.kind=1 then dY l a v else if a.kind=2 then dY l a v else if a.kind=3 then eG l a v else if a.kind=4 then cV l a v else if a.kind=5 then gw l a v else l
noncomputable def yh (l:List Node) (a:Act) (v:Int):AV:=if aD l a=0 then .tup [.rm (mN (bQ (cz l a v))),.int .i64 0] else .tup [.nilm,.int .i64 (aD l a)]
structure Ri (l:List Node):Prop where
 up:Up l
 eup:∀n,n∈l->EUp n.entries
theorem Ri.find {l:List Node} (h:Ri l) (k:Int):EUp (ar l k).entries:=by
 unfold ar;cases e:ak l k with
 | none=>exact List.Pairwise.nil
 | some n=>exact h.eup n ((ZO h.up).1 e).1
theorem Ri.put {l:List Node} (h:Ri l) {n:Node} (hn:EUp n.entries):Ri (aI l n):=
 ⟨(bt h.up n).1,λm hm=>by
  rcases ga hm with rfl | hm
  ·exact hn
  ·exact h.eup m hm⟩
theorem Ri.drop {l:List Node} (h:Ri l) (f:Int):Ri (eQ l f):=⟨(ir h.up f).1,λm hm=>h.eup m (((ir h.up f).2 m).1 hm).1⟩
theorem Ri.to {l:List Node} (h:Ri l) (a:Act):EUp (toN l a).entries:=by
 unfold toN;split
 ·exact kO (h.find _) _
 ·exact h.find _
theorem Ri.apply {l:List Node} (h:Ri l) (a:Act) (v:Int):Ri (cz l a v):=by
 have hmk:Ri (dY l a v):=by
  unfold dY;split
  ·rename_i he;unfold da at he;split at he
   ·split at he
    ·rename_i hr;refine (h.put ?_).put List.Pairwise.nil;exact (kG (h.find _) (dG hr).2 _).1
    ·rename_i hr;exact absurd he hr
   ·rename_i hr;exact absurd he hr
  ·exact h
 unfold cz;split
 ·exact hmk
 ·split
  ·exact hmk
  ·split
   ·unfold eG;split
    ·exact h.put (h.find _)
    ·exact h
   ·split
    ·unfold cV;split
     ·exact (h.put (kO (h.find _) _)).drop _
     ·exact h
    ·split
     ·unfold gw;split
      ·rename_i he;have hr:cf (toN l a) a.toName=0:=by
        unfold bH at he;split at he
        ·split at he
         ·split at he
          ·assumption
          ·rename_i hr;exact absurd he hr
         ·rename_i hr;exact absurd he hr
        ·rename_i hr;exact absurd he hr
       refine Ri.put ?_ (kG (h.to a) (dG hr).2 _).1;split
       ·exact h
       ·exact h.put (kO (h.find _) _)
      ·exact h
     ·exact h
end La
