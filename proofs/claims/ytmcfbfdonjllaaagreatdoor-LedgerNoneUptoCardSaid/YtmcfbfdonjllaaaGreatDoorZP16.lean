/- Texts of this claim, part 16: Aux, Hof2, Enter, Doer, SameN, PutsS. No condition. -/
import Derived.Test.YtmcfbfdonjllaaaGreatDoorZP13
set_option maxRecDepth 10000
set_option maxHeartbeats 4000000
set_option linter.unusedSimpArgs false
set_option linter.unusedVariables false
namespace La
open Go Go.Eng Go.Proofs Go.Proofs.Tryz
theorem mM {α:Type} {p:α->Bool} (l:List α):decide (cq (l.findIdx? p)≥0)=l.any p:=by
 cases h:l.findIdx? p with
 | none=>
  rw[YO] at h;have:l.any p=false:=by rw[List.any_eq_false];intro x hx;simp[h x hx]
  rw[this];rfl
 | some k=>
  have:l.any p=true:=by
   obtain ⟨hk,h1,_⟩:=YN.1 h;exact List.any_eq_true.2 ⟨_,YY hk,h1⟩
  rw[this];simp[cq]
theorem fN:∀{l:List AV},(l.all AV.aT)=true->∃q,(∀h,fv h l=some (q,l))/\q
 | [],_=>⟨True,λ_=>rfl,trivial⟩
 | x::r,hp=>by
  simp only[List.all_cons,Bool.and_eq_true] at hp;obtain ⟨q,h1,h2⟩:=fN hp.2;have hx:∀h,view h x=some (True,x):=λh=>by
   cases x with
   | osl=>cases hp.1
   | ptr=>cases hp.1
   | mp=>cases hp.1
   | fn=>cases hp.1
   | agg=>cases hp.1
   | any=>cases hp.1
   | tup=>cases hp.1
   | cnd=>cases hp.1
   | exs=>cases hp.1
   | _=>rfl
  exact ⟨True/\q,λh=>by simp only[fv,hx,h1],trivial,h2⟩
theorem cf:∀{l:List AV},(l.all AV.aT)=true->aA l=[]
 | [],_=>rfl
 | x::r,hp=>by
  simp only[List.all_cons,Bool.and_eq_true] at hp;have hx:refs x=[]:=by cases x<;>first | rfl | cases hp.1
  simp only[aA,hx,cf hp.2,List.append_nil]
theorem fi {α:Type} {l:List α} {p:α->Bool} {j:Nat} (h:l.findIdx? p=some j):(l.take (j+1)).filter (λx=>!p x)=l.take j:=by
 obtain ⟨hk,h1,h2⟩:=YN.1 h;rw[List.take_succ_eq_append_getElem hk,List.filter_append];have e1:(l.take j).filter (λx=>!p x)=l.take j:=Ye.2 λx hx=>by
  obtain ⟨i,hi⟩:=YC hx;rw[YW] at hi;split at hi
  ·rename_i hij;have:=h2 i hij;have e:l[i]? = some l[i]:=W3 z8;rw[e] at hi;injection hi with hi
   rw[<-hi];simpa using this
  ·cases hi
 rw[e1];simp[h1]
structure DelInv {α:Type} (p:α->Bool) (l:List α) (j:Nat) (L:List α):Prop where
 le:j<=l.length
 len:L.length=l.length
 drop:L.drop j=l.drop j
 take:L.take ((l.take j).filter λx=>!p x).length=(l.take j).filter λx=>!p x
 lt:((l.take j).filter λx=>!p x).length<j
theorem DelInv.start {α:Type} {p:α->Bool} {l:List α} {k:Nat} (h:l.findIdx? p=some k):DelInv p l (k+1) l:=by
 have hk:k<l.length:=(YN.1 h).1;have e:=fi h;have el:(l.take k).length=k:=by simp;omega
 refine ⟨hk,rfl,rfl,?_,?_⟩
 ·rw[e,el]
 ·rw[e,el];omega
theorem DelInv.get {α:Type} [Inhabited α] {p:α->Bool} {l L:List α} {j:Nat} (h:DelInv p l j L) (hj:j<l.length):L.getD j default=l.getD j default:=by
 have:=h.drop;rw[ck hj,ck (show j<L.length by rw[h.len];exact hj)] at this;injection this
theorem DelInv.skip {α:Type} [Inhabited α] {p:α->Bool} {l L:List α} {j:Nat} (h:DelInv p l j L) (hj:j<l.length) (hp:p (l.getD j default)=true):DelInv p l (j+1) L:=by
 have e:(l.take (j+1)).filter (λx=>!p x)=(l.take j).filter λx=>!p x:=by
  rw[ZT hj,List.filter_append];simp only[List.filter_cons,hp,List.filter_nil,Bool.not_true,Bool.false_eq_true,if_false,List.append_nil]
 refine ⟨hj,h.len,?_,?_,?_⟩
 ·rw[<-List.drop_drop,<-List.drop_drop,h.drop]
 ·rw[e];exact h.take
 ·rw[e];have:=h.lt;omega
theorem DelInv.F0 {α:Type} [Inhabited α] {p:α->Bool} {l L:List α} {j:Nat} (h:DelInv p l j L) (hj:j<l.length) (hp:p (l.getD j default)=false) :
  DelInv p l (j+1) (L.set ((l.take j).filter λx=>!p x).length (l.getD j default))/\((l.take (j+1)).filter λx=>!p x).length=((l.take j).filter λx=>!p x).length+1:=by
 have e:(l.take (j+1)).filter (λx=>!p x)=(l.take j).filter (λx=>!p x)++[l.getD j default]:=by
  rw[ZT hj,List.filter_append];simp only[List.filter_cons,hp,List.filter_nil,Bool.not_false,if_true]
 have hlt:=h.lt;have hlen:=h.len;have htk:=h.take;generalize hd:(l.take j).filter (λx=>!p x)=d at *;refine ⟨⟨hj,by simp[hlen],?_,?_,?_⟩,by rw[e];simp⟩
 ·have:(L.set d.length (l.getD j default)).drop (j+1)=L.drop (j+1):=by
   rw[List.drop_set];rw[if_pos z8]
  rw[this,<-List.drop_drop,<-List.drop_drop,h.drop]
 ·rw[e];simp only[List.length_append,List.length_cons,List.length_nil,Yd];rw[List.take_succ_eq_append_getElem k6,List.take_set_of_le (YA _),htk];simp
 ·rw[e];simp;omega
theorem DelInv.fin {α:Type} {p:α->Bool} {l L:List α} (h:DelInv p l l.length L):L.take (l.filter λx=>!p x).length=l.filter λx=>!p x:=by
 have:=h.take
 rwa [W7] at this
theorem pU {α:Type} (f:α->List AV) (l:List α) (i:Nat) (x:α):(l.map f).set i (f x)=(l.set i x).map f:=by rw[List.map_set]
theorem js {α:Type} (f:α->List AV) {L:List α} {d:List α} (z:List AV) (h:L.take d.length=d) (hd:d.length<=L.length) :
  aY (L.map f) d.length (List.replicate (L.length-d.length) z)=d.map f++List.replicate (L.length-d.length) z:=by
 unfold aY;rw[<-List.map_take,h,List.drop_eq_nil_of_le k6,List.append_nil]
@[go_sem,simp] theorem Jp (e s:Nat) (a b:List (List AV)):Eng.av (.cells e s (a++b))=Eng.av (.cells e s a)++Eng.av (.cells e s b):=by
 simp only[Eng.av,List.flatMap_append]
@[go_sem,simp] theorem L_ (e s n:Nat) (z:List AV) (h:aA z=[]):Eng.av (.cells e s (List.replicate n z))=[]:=by
 simp only[Eng.av]
 induction n with
 | zero=>rfl
 | succ n ih=>simp only[List.replicate_succ,List.flatMap_cons,h,ih,List.append_nil]
attribute [go_sem] List.map_append List.map_replicate
theorem iC {α:Type} {a b:List α} {n:Nat} (h:n=a.length):(a++b).take n=a:=by subst h;simp
theorem jG (n:Nat) {z:List AV} (h:(z.all AV.aT)=true):((List.replicate n z).all λrow=>row.all AV.aT)=true:=by
 rw[List.all_eq_true];intro row hr;rw[(Y1.1 hr).2];exact h
theorem ue (l:List Node) (hlen:l.length<=100000000) {f:FuncId} {caps:List AV} {p:Node->Bool} (hcal:aH prog f) (hpure:(caps.all AV.aT)=true)
  (hf:∀x,x∈l->ai prog f (.agg (ZN x)::caps) [] (λr _=>r=.bool (p x))) :
  Fo 233 [.sl (l.map ZN),.fn f caps] (.int .i64 (cq (l.findIdx? p))):=by
 have hcaps:=cf hpure;refine wSG func233 ntmps233 results233 λC=>?_
 refine ZL (λi:Nat=>i<=l.length/\∀x,x∈l.take i->p x=false) (λi=>l.length-i) (λi=>(8,.int .i64 i)::(5,.any)::u0 9 10 []) (λ_=>[]) 0 ⟨by omega,by simp⟩ ?_ λi hi=>?_
 ·simp only[go_sem];exact ZU w3 w3 k9
 obtain ⟨hi,hno⟩:=hi;simp only[go_sem];refine wGD (λh=>?_) (λh=>?_)
 ·have hlt:=lt1 h;have hn:=hf _ (YG hlt);have hg:=Fam.getD (f:=ZN) hlt;have htk:=ZT hlt;have hgi:l[i]? = some (l.getD i default):=by rw[List.getD_eq_getElem?_getD,W3 hlt];rfl
  generalize l.getD i default=n at hn hg htk hgi;refine wGq ?_ ?_ x8
  ·simp[hlt,ZN]
  refine dC rfl rfl z7 w3 hcal k9 (hn) w3 z6 ?_;refine wGD (λh=>?_) (λh=>?_)
  ·refine wGT ?_;rw[eN hgi hno h];rfl
  ·have hw:IntKind.i64.wrap ((i:Int)+1)=(i:Int)+1:=wrap_small z8 z8;refine wG ?_ w4 y7;refine ZB ⟨i+1,⟨by omega,?_⟩,by omega,ZU ?_ ?_ ?_⟩
   ·rw[htk];intro x hx
    rcases List.mem_append.1 hx with hx | hx
    ·exact hno x hx
    ·rw[List.mem_singleton.1 hx];exact h
   ·simp[go_sem]
   ·simp[go_sem]
   ·simp[go_sem,hcaps]
 ·have e:i=l.length:=by simp at h;omega
  refine wGT ?_;rw[e,W7] at hno;rw[YO.2 hno];rfl
theorem sf (l:List Node) (hlen:l.length<=100000000) (id:Nat) {f:FuncId} {caps:List AV} {p:Node->Bool} (hcal:aH prog f) (hpure:(caps.all AV.aT)=true) (hid:id≠7)
  (hf:∀x,x∈l->ai prog f (.agg (ZN x)::caps) [] (λr _=>r=.bool (p x))) :
  ai prog 212 [.osl id 5 0 l.length,.fn f caps] [(id,.cells 94 5 (l.map ZN))] (λr H=>r=.osl id 5 0 (l.filter λx=>!p x).length /\
   ∀i b,aa [(id,.cells 94 5 ((l.filter λx=>!p x).map ZN++List.replicate (l.length-(l.filter λx=>!p x).length) [.int .i64 0,.bool false,.nils,.nils,.int .i64 0]))] i=some b->aa H i=some b):=by
 have hcaps:=cf hpure;obtain ⟨q,hv,hq⟩:=fN hpure;refine wSG func212 ntmps212 results212 λC=>?_
 refine ny rfl rfl z7 w3 QZ Z5 ⟨_,func233,by kernel_rfl,rfl⟩ (ue l hlen hcal hpure hf) w3 z6 ?_;refine wGD (λh=>?_) (λh=>?_)
 ·refine wGT ?_;have hn:l.findIdx? p=none:=by
   cases e:l.findIdx? p with
   | none=>rfl
   | some k=>rw[e] at h;simp[cq] at h
  have hfl:l.filter (λx=>!p x)=l:=Ye.2 λx hx=>by
   simp[YO.1 hn x hx]
  rw[hfl];simp[aa]
 obtain ⟨k,hk⟩:∃k,l.findIdx? p=some k:=by
  cases e:l.findIdx? p with
  | none=>rw[e] at h;simp[cq] at h
  | some k=>exact ⟨k,rfl⟩
 have hkl:k<l.length:=(YN.1 hk).1;have hsp:=fi hk;rw[hk];have hw:IntKind.i64.wrap ((k:Int)+1)=((k+1:Nat):Int):=by rw[Eng.wrap_small z8 z8];rfl
 simp only[cq];refine wG ?_ w4 y7;refine ZL (λs:Nat×List Node=>DelInv p l s.1 s.2) (λs=>l.length-s.1) (λs=>(5,.int .i64 (((l.take s.1).filter λx=>!p x).length:Nat))::(6,.int .i64 (s.1:Nat))::(7,.any)::u0 16 20 []) (λs=>[(id,.cells 94 5 (s.2.map ZN))]) (k+1,l) (DelInv.start hk) ?_ λs hs=>?_
 ·have el:((l.take (k+1)).filter λx=>!p x).length=k:=by rw[hsp];simp;omega
  simp only[go_sem,el];exact ZU w3 w3 k9
 obtain ⟨j,L⟩:=s;have hjl:=hs.le;have hL:=hs.len;have hlt:=hs.lt;simp only at hs hjl hL hlt;simp only[go_sem];refine wGD (λh=>?_) (λh=>?_)
 ·have hj:=lt1 h;have hn:=hf _ (YG hj);have hg:(L.map ZN).getD j []=ZN (l.getD j default):=by rw[Fam.getD z8,hs.get hj]
  have hkeep:=hs.F0 hj;have hskip:=hs.skip hj;have htk:=ZT hj;generalize l.getD j default=n at hn hg hkeep hskip htk;refine wGq ?_ ?_ (by simp only[go_sem,hg,ZN,hid,Ne.symm hid];try exact rfl)
  ·simp[ZN];omega
  refine dC rfl rfl z7 w3 hcal k9 (hn) w3 z6 ?_;generalize hm:((l.take j).filter λx=>!p x).length=m at hkeep hlt;have hw1:IntKind.i64.wrap ((j:Int)+1)=((j+1:Nat):Int):=by rw[Eng.wrap_small z8 z8];rfl
  have hw2:IntKind.i64.wrap ((m:Int)+1)=((m+1:Nat):Int):=by rw[Eng.wrap_small z8 z8];rfl
  refine wG ?_ QW WO;refine wD (λh=>?_) (λh=>?_)
  ·have hp:p n=false:=by simpa using h
   obtain ⟨hk1,hk2⟩:=hkeep hp;have aF:=pU ZN L m n;simp only[ZN] at aF;have hgl:(L.map ZN).getD m []=ZN (L.getD m default):=Fam.getD z8;simp only[ZN] at hgl;refine wGq ?_ ?_ v7
   ·simp[hid,Ne.symm hid];omega
   exact ZB ⟨(j+1,L.set m n),hk1,by simp only;omega,ZU QL Qd Qb⟩
  ·have hp:p n=true:=by simpa using h
   refine wG ?_ n4 Qc;have hsame:((l.take (j+1)).filter λx=>!p x).length=m:=by
    rw[<-hm,htk,List.filter_append];simp only[List.filter_cons,hp,Bool.not_true,Bool.false_eq_true,if_false,List.filter_nil,List.append_nil]
   exact ZB ⟨(j+1,L),hskip hp,by simp only;omega,ZU Zf Qo k9⟩
 have e:j=l.length:=by simp at h;omega
 subst e;have hfin:=hs.fin;rw[W7];generalize hd:(l.filter λx=>!p x)=d at *;have hdl:d.length<=l.length:=by rw[<-hd];exact YB _ _
 have hcl:=js ZN (d:=d) (L:=L) [.int .i64 0,.bool false,.nils,.nils,.int .i64 0] hfin z8;rw[hL] at hcl;refine wGq ?_ ?_ n9
 ·simp only[not_false_eq_true,true_and];omega
 refine wT ?_;simp[aa]
theorem lZ (l:List Entry) (hlen:l.length<=100000000) {f:FuncId} {caps:List AV} {p:Entry->Bool} (hcal:aH prog f) (hpure:(caps.all AV.aT)=true)
  (hf:∀x,x∈l->ai prog f (.agg (ZE x)::caps) [] (λr _=>r=.bool (p x))) :
  Fo 232 [.sl (l.map ZE),.fn f caps] (.int .i64 (cq (l.findIdx? p))):=by
 have hcaps:=cf hpure;refine wSG func232 ntmps232 results232 λC=>?_
 refine ZL (λi:Nat=>i<=l.length/\∀x,x∈l.take i->p x=false) (λi=>l.length-i) (λi=>(8,.int .i64 i)::(5,.any)::u0 9 10 []) (λ_=>[]) 0 ⟨by omega,by simp⟩ ?_ λi hi=>?_
 ·simp only[go_sem];exact ZU w3 w3 k9
 obtain ⟨hi,hno⟩:=hi;simp only[go_sem];refine wGD (λh=>?_) (λh=>?_)
 ·have hlt:=lt1 h;have hn:=hf _ (YG hlt);have hg:=Fam.getD (f:=ZE) hlt;have htk:=ZT hlt;have hgi:l[i]? = some (l.getD i default):=by rw[List.getD_eq_getElem?_getD,W3 hlt];rfl
  generalize l.getD i default=n at hn hg htk hgi;refine wGq ?_ ?_ s6
  ·simp[hlt,ZE]
  refine dC rfl rfl z7 w3 hcal k9 (hn) w3 z6 ?_;refine wGD (λh=>?_) (λh=>?_)
  ·refine wGT ?_;rw[eN hgi hno h];rfl
  ·have hw:IntKind.i64.wrap ((i:Int)+1)=(i:Int)+1:=wrap_small z8 z8;refine wG ?_ w4 y7;refine ZB ⟨i+1,⟨by omega,?_⟩,by omega,ZU ?_ ?_ ?_⟩
   ·rw[htk];intro x hx
    rcases List.mem_append.1 hx with hx | hx
    ·exact hno x hx
    ·rw[List.mem_singleton.1 hx];exact h
   ·simp[go_sem]
   ·simp[go_sem]
   ·simp[go_sem,hcaps]
 ·have e:i=l.length:=by simp at h;omega
  refine wGT ?_;rw[e,W7] at hno;rw[YO.2 hno];rfl
theorem qj (l:List Entry) (hlen:l.length<=100000000) (id:Nat) {f:FuncId} {caps:List AV} {p:Entry->Bool} (hcal:aH prog f) (hpure:(caps.all AV.aT)=true) (hid:id≠7)
  (hf:∀x,x∈l->ai prog f (.agg (ZE x)::caps) [] (λr _=>r=.bool (p x))) :
  ai prog 210 [.osl id 2 0 l.length,.fn f caps] [(id,.cells 96 2 (l.map ZE))] (λr H=>r=.osl id 2 0 (l.filter λx=>!p x).length /\
   ∀i b,aa [(id,.cells 96 2 ((l.filter λx=>!p x).map ZE++List.replicate (l.length-(l.filter λx=>!p x).length) [.str [],.int .i64 0]))] i=some b->aa H i=some b):=by
 have hcaps:=cf hpure;obtain ⟨q,hv,hq⟩:=fN hpure;refine wSG func210 ntmps210 results210 λC=>?_
 refine ny rfl rfl z7 w3 QZ Z5 ⟨_,func232,by kernel_rfl,rfl⟩ (lZ l hlen hcal hpure hf) w3 z6 ?_;refine wGD (λh=>?_) (λh=>?_)
 ·refine wGT ?_;have hn:l.findIdx? p=none:=by
   cases e:l.findIdx? p with
   | none=>rfl
   | some k=>rw[e] at h;simp[cq] at h
  have hfl:l.filter (λx=>!p x)=l:=Ye.2 λx hx=>by
   simp[YO.1 hn x hx]
  rw[hfl];simp[aa]
 obtain ⟨k,hk⟩:∃k,l.findIdx? p=some k:=by
  cases e:l.findIdx? p with
  | none=>rw[e] at h;simp[cq] at h
  | some k=>exact ⟨k,rfl⟩
 have hkl:k<l.length:=(YN.1 hk).1;have hsp:=fi hk;rw[hk];have hw:IntKind.i64.wrap ((k:Int)+1)=((k+1:Nat):Int):=by rw[Eng.wrap_small z8 z8];rfl
 simp only[cq];refine wG ?_ w4 y7;refine ZL (λs:Nat×List Entry=>DelInv p l s.1 s.2) (λs=>l.length-s.1) (λs=>(5,.int .i64 (((l.take s.1).filter λx=>!p x).length:Nat))::(6,.int .i64 (s.1:Nat))::(7,.any)::u0 16 20 []) (λs=>[(id,.cells 96 2 (s.2.map ZE))]) (k+1,l) (DelInv.start hk) ?_ λs hs=>?_
 ·have el:((l.take (k+1)).filter λx=>!p x).length=k:=by rw[hsp];simp;omega
  simp only[go_sem,el];exact ZU w3 w3 k9
 obtain ⟨j,L⟩:=s;have hjl:=hs.le;have hL:=hs.len;have hlt:=hs.lt;simp only at hs hjl hL hlt;simp only[go_sem];refine wGD (λh=>?_) (λh=>?_)
 ·have hj:=lt1 h;have hn:=hf _ (YG hj);have hg:(L.map ZE).getD j []=ZE (l.getD j default):=by rw[Fam.getD z8,hs.get hj]
  have hkeep:=hs.F0 hj;have hskip:=hs.skip hj;have htk:=ZT hj;generalize l.getD j default=n at hn hg hkeep hskip htk;refine wGq ?_ ?_ (by simp only[go_sem,hg,ZE,hid,Ne.symm hid];try exact rfl)
  ·simp[ZE];omega
  refine dC rfl rfl z7 w3 hcal k9 (hn) w3 z6 ?_;generalize hm:((l.take j).filter λx=>!p x).length=m at hkeep hlt;have hw1:IntKind.i64.wrap ((j:Int)+1)=((j+1:Nat):Int):=by rw[Eng.wrap_small z8 z8];rfl
  have hw2:IntKind.i64.wrap ((m:Int)+1)=((m+1:Nat):Int):=by rw[Eng.wrap_small z8 z8];rfl
  refine wG ?_ QW WO;refine wD (λh=>?_) (λh=>?_)
  ·have hp:p n=false:=by simpa using h
   obtain ⟨hk1,hk2⟩:=hkeep hp;have aF:=pU ZE L m n;simp only[ZE] at aF;have hgl:(L.map ZE).getD m []=ZE (L.getD m default):=Fam.getD z8;simp only[ZE] at hgl;refine wGq ?_ ?_ v7
   ·simp[hid,Ne.symm hid];omega
   exact ZB ⟨(j+1,L.set m n),hk1,by simp only;omega,ZU QL Qd Qb⟩
  ·have hp:p n=true:=by simpa using h
   refine wG ?_ n4 Qc;have hsame:((l.take (j+1)).filter λx=>!p x).length=m:=by
    rw[<-hm,htk,List.filter_append];simp only[List.filter_cons,hp,Bool.not_true,Bool.false_eq_true,if_false,List.filter_nil,List.append_nil]
   exact ZB ⟨(j+1,L),hskip hp,by simp only;omega,ZU Zf Qo k9⟩
 have e:j=l.length:=by simp at h;omega
 subst e;have hfin:=hs.fin;rw[W7];generalize hd:(l.filter λx=>!p x)=d at *;have hdl:d.length<=l.length:=by rw[<-hd];exact YB _ _
 have hcl:=js ZE (d:=d) (L:=L) [.str [],.int .i64 0] hfin z8;rw[hL] at hcl;refine wGq ?_ ?_ n9
 ·simp only[not_false_eq_true,true_and];omega
 refine wT ?_;simp[aa]
theorem oo (l:List Entry) (hlen:l.length<=100000000) {f:FuncId} {caps:List AV} {p:Entry->Bool} (hcal:aH prog f) (hpure:(caps.all AV.aT)=true)
  (hf:∀x,x∈l->ai prog f (.agg (ZE x)::caps) [] (λr _=>r=.bool (p x))) :
  Fo 214 [.sl (l.map ZE),.fn f caps] (.bool (l.any p)):=by
 have hcaps:=cf hpure;refine wSG func214 ntmps214 results214 λC=>?_
 refine dC rfl rfl z7 w3 ⟨_,func232,by kernel_rfl,rfl⟩ k9 (lZ l hlen hcal hpure hf) w3 z6 ?_;refine wGT ?_;rw[mM]
theorem jz (l:List Kept) (hlen:l.length<=100000000) {f:FuncId} {caps:List AV} {p:Kept->Bool} (hcal:aH prog f) (hpure:(caps.all AV.aT)=true)
  (hf:∀x,x∈l->ai prog f (.agg (ZK x)::caps) [] (λr _=>r=.bool (p x))) :
  Fo 119 [.sl (l.map ZK),.fn f caps] (.int .i64 (cq (l.findIdx? p))):=by
 have hcaps:=cf hpure;refine wSG func119 ntmps119 results119 λC=>?_
 refine ZL (λi:Nat=>i<=l.length/\∀x,x∈l.take i->p x=false) (λi=>l.length-i) (λi=>(8,.int .i64 i)::(5,.any)::u0 9 10 []) (λ_=>[]) 0 ⟨by omega,by simp⟩ ?_ λi hi=>?_
 ·simp only[go_sem];exact ZU w3 w3 k9
 obtain ⟨hi,hno⟩:=hi;simp only[go_sem];refine wGD (λh=>?_) (λh=>?_)
 ·have hlt:=lt1 h;have hn:=hf _ (YG hlt);have hg:=Fam.getD (f:=ZK) hlt;have htk:=ZT hlt;have hgi:l[i]? = some (l.getD i default):=by rw[List.getD_eq_getElem?_getD,W3 hlt];rfl
  generalize l.getD i default=n at hn hg htk hgi;refine wGq ?_ ?_ j8
  ·simp[hlt,ZK]
  refine dC rfl rfl z7 w3 hcal k9 (hn) w3 z6 ?_;refine wGD (λh=>?_) (λh=>?_)
  ·refine wGT ?_;rw[eN hgi hno h];rfl
  ·have hw:IntKind.i64.wrap ((i:Int)+1)=(i:Int)+1:=wrap_small z8 z8;refine wG ?_ w4 y7;refine ZB ⟨i+1,⟨by omega,?_⟩,by omega,ZU ?_ ?_ ?_⟩
   ·rw[htk];intro x hx
    rcases List.mem_append.1 hx with hx | hx
    ·exact hno x hx
    ·rw[List.mem_singleton.1 hx];exact h
   ·simp[go_sem]
   ·simp[go_sem]
   ·simp[go_sem,hcaps]
 ·have e:i=l.length:=by simp at h;omega
  refine wGT ?_;rw[e,W7] at hno;rw[YO.2 hno];rfl
theorem iI (l:List Kept) (hlen:l.length<=100000000) (id:Nat) {f:FuncId} {caps:List AV} {p:Kept->Bool} (hcal:aH prog f) (hpure:(caps.all AV.aT)=true) (hid:id≠7)
  (hf:∀x,x∈l->ai prog f (.agg (ZK x)::caps) [] (λr _=>r=.bool (p x))) :
  ai prog 80 [.osl id 8 0 l.length,.fn f caps] [(id,.cells 138 8 (l.map ZK))] (λr H=>r=.osl id 8 0 (l.filter λx=>!p x).length /\
   ∀i b,aa [(id,.cells 138 8 ((l.filter λx=>!p x).map ZK++List.replicate (l.length-(l.filter λx=>!p x).length) [.int .i64 0,.bool false,.nils,.nils,.int .i64 0,.bool false,.int .i64 0,.int .i64 0]))] i=some b->aa H i=some b):=by
 have hcaps:=cf hpure;obtain ⟨q,hv,hq⟩:=fN hpure;refine wSG func80 ntmps80 results80 λC=>?_
 refine ny rfl rfl z7 w3 QZ Z5 ⟨_,func119,by kernel_rfl,rfl⟩ (jz l hlen hcal hpure hf) w3 z6 ?_;refine wGD (λh=>?_) (λh=>?_)
 ·refine wGT ?_;have hn:l.findIdx? p=none:=by
   cases e:l.findIdx? p with
   | none=>rfl
   | some k=>rw[e] at h;simp[cq] at h
  have hfl:l.filter (λx=>!p x)=l:=Ye.2 λx hx=>by
   simp[YO.1 hn x hx]
  rw[hfl];simp[aa]
 obtain ⟨k,hk⟩:∃k,l.findIdx? p=some k:=by
  cases e:l.findIdx? p with
  | none=>rw[e] at h;simp[cq] at h
  | some k=>exact ⟨k,rfl⟩
 have hkl:k<l.length:=(YN.1 hk).1;have hsp:=fi hk;rw[hk];have hw:IntKind.i64.wrap ((k:Int)+1)=((k+1:Nat):Int):=by rw[Eng.wrap_small z8 z8];rfl
 simp only[cq];refine wG ?_ w4 y7;refine ZL (λs:Nat×List Kept=>DelInv p l s.1 s.2) (λs=>l.length-s.1) (λs=>(5,.int .i64 (((l.take s.1).filter λx=>!p x).length:Nat))::(6,.int .i64 (s.1:Nat))::(7,.any)::u0 16 20 []) (λs=>[(id,.cells 138 8 (s.2.map ZK))]) (k+1,l) (DelInv.start hk) ?_ λs hs=>?_
 ·have el:((l.take (k+1)).filter λx=>!p x).length=k:=by rw[hsp];simp;omega
  simp only[go_sem,el];exact ZU w3 w3 k9
 obtain ⟨j,L⟩:=s;have hjl:=hs.le;have hL:=hs.len;have hlt:=hs.lt;simp only at hs hjl hL hlt;simp only[go_sem];refine wGD (λh=>?_) (λh=>?_)
 ·have hj:=lt1 h;have hn:=hf _ (YG hj);have hg:(L.map ZK).getD j []=ZK (l.getD j default):=by rw[Fam.getD z8,hs.get hj]
  have hkeep:=hs.F0 hj;have hskip:=hs.skip hj;have htk:=ZT hj;generalize l.getD j default=n at hn hg hkeep hskip htk;refine wGq ?_ ?_ (by simp only[go_sem,hg,ZK,hid,Ne.symm hid];try exact rfl)
  ·simp[ZK];omega
  refine dC rfl rfl z7 w3 hcal k9 (hn) w3 z6 ?_;generalize hm:((l.take j).filter λx=>!p x).length=m at hkeep hlt;have hw1:IntKind.i64.wrap ((j:Int)+1)=((j+1:Nat):Int):=by rw[Eng.wrap_small z8 z8];rfl
  have hw2:IntKind.i64.wrap ((m:Int)+1)=((m+1:Nat):Int):=by rw[Eng.wrap_small z8 z8];rfl
  refine wG ?_ QW WO;refine wD (λh=>?_) (λh=>?_)
  ·have hp:p n=false:=by simpa using h
   obtain ⟨hk1,hk2⟩:=hkeep hp;have aF:=pU ZK L m n;simp only[ZK] at aF;have hgl:(L.map ZK).getD m []=ZK (L.getD m default):=Fam.getD z8;simp only[ZK] at hgl;refine wGq ?_ ?_ v7
   ·simp[hid,Ne.symm hid];omega
   exact ZB ⟨(j+1,L.set m n),hk1,by simp only;omega,ZU QL Qd Qb⟩
  ·have hp:p n=true:=by simpa using h
   refine wG ?_ n4 Qc;have hsame:((l.take (j+1)).filter λx=>!p x).length=m:=by
    rw[<-hm,htk,List.filter_append];simp only[List.filter_cons,hp,Bool.not_true,Bool.false_eq_true,if_false,List.filter_nil,List.append_nil]
   exact ZB ⟨(j+1,L),hskip hp,by simp only;omega,ZU Zf Qo k9⟩
 have e:j=l.length:=by simp at h;omega
 subst e;have hfin:=hs.fin;rw[W7];generalize hd:(l.filter λx=>!p x)=d at *;have hdl:d.length<=l.length:=by rw[<-hd];exact YB _ _
 have hcl:=js ZK (d:=d) (L:=L) [.int .i64 0,.bool false,.nils,.nils,.int .i64 0,.bool false,.int .i64 0,.int .i64 0] hfin z8;rw[hL] at hcl;refine wGq ?_ ?_ n9
 ·simp only[not_false_eq_true,true_and];omega
 refine wT ?_;simp[aa]
theorem Dn (n:Node) (f:Int):Fo 213 [.agg (ZN n),.rp [.int .i64 f] 0] (.bool (n.fid==f)):=by
 unfold ZN;refine wS func213 ntmps213 results213 λC=>?_
 refine wGT ?_;simp
theorem Iw (l:List Node) (f:Int) (hl:Small l):Fo 180 [.sl (l.map ZN),.int .i64 f] (.sl ((eM l f).map ZN)):=by
 have hlen:=hl.len;refine wSG func180 ntmps180 results180 λC=>?_
 refine ZZ 3 rfl (rfl) (wn ?_);refine wCG ?_ [] 100 func66 (hf:=sK l hl);refine wG ?_;refine wCG ?_ [123] 100 func212 (hf:=sf l hlen 123 ⟨_,Go.Proofs.Tryz.func213,by kernel_rfl,rfl⟩ rfl x7 (λx _=>Dn x f));refine wG ?_;refine ZZ 223 rfl (by rw[List.all_append,fm,Y3];exact jG _ rfl) (wn ?_);refine wT ?_;have hle:=YB (λx:Node=>!(x.fid==f)) l;have hd:(l.filter λx:Node=>!(x.fid==f))=eM l f:=rfl;rw[hd] at hle;simp only[hd];generalize eM l f=d at *;rw[if_pos w8,iC w8]
theorem By (e:Entry) (s:List UInt8):Fo 211 [.agg (ZE e),.rp [.str s] 0] (.bool (e.name==s)):=by
 unfold ZE;refine wS func211 ntmps211 results211 λC=>?_
 refine wGT ?_;simp
theorem zH (n:Node) (s:List UInt8) (hn:n.Small):Fo 179 [.agg (ZN n),.str s] (.agg (ZN (aE n s))):=by
 have hlen:=hn.entries;refine wS func179 ntmps179 results179 λC=>?_
 refine wGq ?_ ?_ w5
 ·simp[ZN]
 refine ZZ 7 rfl (rfl) ?_;refine ZZ 3 rfl (rfl) (wn ?_);refine wCG ?_ [] 0 func66 (hf:=Aj n hn);refine wGq ?_ ?_ (by simp only[go_sem,lu];try exact rfl)
 ·simp[lu]
 refine af (aX 1000 5 z6 y9) ?_;refine af (aX 1000 23 z6 y9) (wn ?_);refine wCG ?_ [1000] 100 func210 (hf:=qj n.entries hlen 1000 ⟨_,Go.Proofs.Tryz.func211,by kernel_rfl,rfl⟩ rfl x7 (λx _=>By x s));refine ZZ 1100 rfl (by rw[List.all_append,dx,Y3];exact jG _ rfl) (wn ?_);have hle:=YB (λx:Entry=>!(x.name==s)) n.entries;have hd:(n.entries.filter λx:Entry=>!(x.name==s))=dp n.entries s:=rfl;have hr:ZN (aE n s)=[.int .i64 n.fid,.bool n.dir,.sl (n.data.map ZY),.sl ((dp n.entries s).map ZE),.int .i64 n.version]:=rfl;simp only[hd] at hle ⊢;rw[hr];generalize dp n.entries s=d at *;simp only[go_sem,if_pos (show d.length<=(d.map ZE++List.replicate (n.entries.length-d.length) [AV.str [],AV.int .i64 0]).length by simp),iC (show d.length=(d.map ZE).length by simp)];refine wGT ?_;simp
theorem vf (l M:List Entry) (i:Nat) (hi:i<=l.length) (hlen:l.length<=100000000) (hM:l.take i++⟨[],0⟩::l.drop i=M) :
  ai prog 209 [.osl 1000 2 0 l.length,.int .i64 i,.osl 28 2 0 1] [(28,.cells 96 2 [[.str [],.int .i64 0]]),(1000,.cells 96 2 (l.map ZE))]
   (λr H=>r=.osl 7 2 0 (l.length+1)/\∀i' b,aa [(7,.cells 96 2 (M.map ZE))] i'=some b->aa H i'=some b):=by
 subst hM;have hL:(l.map ZE).length=l.length:=List.length_map ..;have:=ai.KS (rows':=(l.take i++⟨[],0⟩::l.drop i).map ZE) 7 (xn (l.map ZE) i z8 z8 (sa l) (ve l) (λid=>mA id l)) (by
  rw[List.map_append,List.map_cons,List.map_append,List.map_cons,<-List.map_take,<-List.map_drop,nX,nX];rfl) (zo (λid=>mA id l) x7)
 rw[hL] at this;exact this
theorem rn {M:List Entry} {i:Nat} (h:i<M.length):(M.map ZE).getD i []=[.str (M.getD i default).name,.int .i64 (M.getD i default).fid]:=by
 rw[Fam.getD h];rfl
theorem yR (n:Node) (s:List UInt8) (f:Int) (hn:n.Small):Fo 177 [.agg (ZN n),.str s,.int .i64 f] (.agg (ZN (aB n s f))):=by
 have hlen:=hn.entries;refine wS func177 ntmps177 results177 λC=>?_
 refine wGq ?_ ?_ w5
 ·simp[ZN]
 refine ZZ 11 rfl (rfl) ?_;refine ZZ 3 rfl (rfl) (wn ?_);refine wCG ?_ [] 0 func66 (hf:=Aj n hn);refine wG ?_;refine wV ?_ func140 (hf:=pg n.entries s hlen ⟨_,Go.Proofs.Tryz.func208,by kernel_rfl,rfl⟩ (λe=>yQ e s));refine wG ?_;have hple:=qk n.entries s;refine wD (λh=>?_) (λh=>?_)
 ·have hat:isE n.entries s=false:=by simpa using h
  refine wG ?_;refine af (aX 1000 7 z6 y9) ?_;refine af (aX 1000 23 z6 y9) (wn ?_);have hM:(n.entries.take (aM n.entries s)++⟨[],0⟩::n.entries.drop (aM n.entries s)).length=n.entries.length+1:=by simp;omega
  have hS:(n.entries.take (aM n.entries s)++⟨[],0⟩::n.entries.drop (aM n.entries s)).set (aM n.entries s) ⟨s,f⟩=bD n.entries s f:=by
   unfold bD;rw[hat,if_neg w8,List.set_append_right _ _ QG,YF,Yu hple,Yq];rfl
  generalize hMd:n.entries.take (aM n.entries s)++⟨[],0⟩::n.entries.drop (aM n.entries s)=M at *;refine wCG ?_ [1000,28] 200 func209 (hf:=vf n.entries M (aM n.entries s) hple hlen hMd);refine wN 2 ?_;have hE:(bD n.entries s f).length=n.entries.length+1:=by rw[<-hS,YR,hM]
  have hlt:aM n.entries s<(M).length:=by omega
  have hg:=rn hlt;have hq:((M).map ZE).set (aM n.entries s) [.str s,.int .i64 f]=(bD n.entries s f).map ZE:=by
   rw[<-hS,List.map_set];rfl
  refine wR ?_;refine wN 6 ?_;refine wNq 1 ?_ ?_
  ·exact ⟨by simp,by omega,by omega⟩
  refine wNq 1 ?_ ?_
  ·exact ⟨by simp,by omega⟩
  simp only[go_sem,hg,hq];refine ZZ 207 rfl (dx _) ?_;have hr:ZN (aB n s f)=[.int .i64 n.fid,.bool n.dir,.sl (n.data.map ZY),.sl ((bD n.entries s f).map ZE),.int .i64 n.version]:=rfl;rw[hr];have hE2:=W4 (l:=(bD n.entries s f).map ZE) (i:=(bD n.entries s f).length) w8;simp only[go_sem,<-hE,hE2];refine wGT ?_;simp
 ·have hat:isE n.entries s=true:=by simpa using h
  have hpl:aM n.entries s<n.entries.length:=by
   unfold isE at hat;rw[Bool.and_eq_true] at hat;exact of_decide_eq_true hat.1
  have hS:n.entries.set (aM n.entries s) ⟨s,f⟩=bD n.entries s f:=by
   unfold bD;rw[hat,if_pos rfl]
  have hE:(bD n.entries s f).length=n.entries.length:=by rw[<-hS,YR]
  have hlt:aM n.entries s<(n.entries).length:=by omega
  have hg:=rn hlt;have hq:((n.entries).map ZE).set (aM n.entries s) [.str s,.int .i64 f]=(bD n.entries s f).map ZE:=by
   rw[<-hS,List.map_set];rfl
  refine wR ?_;refine wN 6 ?_;refine wNq 1 ?_ ?_
  ·exact ⟨by simp,by omega,by omega⟩
  refine wNq 1 ?_ ?_
  ·exact ⟨by simp,by omega⟩
  simp only[go_sem,hg,hq];refine ZZ 1000 rfl (dx _) ?_;have hr:ZN (aB n s f)=[.int .i64 n.fid,.bool n.dir,.sl (n.data.map ZY),.sl ((bD n.entries s f).map ZE),.int .i64 n.version]:=rfl;rw[hr];have hE2:=W4 (l:=(bD n.entries s f).map ZE) (i:=(bD n.entries s f).length) w8;simp only[go_sem,<-hE,hE2];refine wGT ?_;simp
theorem hold {K H:List (Nat×Blk)} (h:∀p,p∈K->aa H p.1=some p.2):∀i b,aa K i=some b->aa H i=some b:=λi b hb=>h (i,b) (aP hb)
theorem c_ {a b:Nat} {x y:Blk} {H:List (Nat×Blk)} (h1:aa H a=some x) (h2:aa H b=some y):∀i c,(if a=i then some x else if b=i then some y else none)=some c->aa H i=some c:=λi c hc=>by
 by_cases e1:a=i
 ·subst e1;rw[if_pos rfl] at hc;rw[h1,hc]
 ·rw[if_neg e1] at hc
  by_cases e2:b=i
  ·subst e2;rw[if_pos rfl] at hc;rw[h2,hc]
  ·rw[if_neg e2] at hc;cases hc
def ar (l:List Node) (k:Int):Node:=(ak l k).getD aw
def eH (l:List Node) (k:Int):Int:=match ak l k with
 | none=>12
 | some n=>if n.dir then 0 else 8
def bX (n:Node) (s:List UInt8):Int:=if cr s then (if isE n.entries s then 7 else if n.entries.length≥6 then 5 else 0) else 7
def ZD (l:List Node) (a:Act) (v:Int):List AV:=[.sl (l.map ZN),.int .i64 a.kind,.int .i64 a.fid,.int .i64 a.dir,.str a.name,.int .i64 a.to,.str a.toName,.sl (a.data.map ZY),.int .i64 v]
@[go_sem,simp] theorem Hk (l:List Node) (a:Act) (v:Int):aA (ZD l a v)=[]:=rfl
def dH (R:List AV) (G Y N:Nat->Nat):List (Nat×Blk):=[(15,.cells 228 9 [R])]++pins [15] G Y N
theorem C5 (n:Node) (s:List UInt8) (hn:n.Small) (hs:s.length<=100000000):Fo 175 [.agg (ZN n),.str s] (.int .i64 (bX n s)):=by
 have hlen:=hn.entries;refine wS func175 ntmps175 results175 λC=>?_
 refine wGq ?_ ?_ w5
 ·simp
 refine wC ?_ func139 (hf:=CT s hs);refine wGD (λh=>?_) (λh=>?_)
 ·have h0:cr s=false:=by simpa using h
  refine wGT ?_;simp[bX,h0]
 have h0:cr s=true:=by simpa using h
 refine wGq ?_ ?_ w5
 ·simp[ZN]
 refine wC ?_ func104 (hf:=kD n s hn);cases he:isE n.entries s with
 | true=>
  have e1:ba n s=some (n.entries.getD (aM n.entries s) default).fid:=by unfold ba;rw[if_pos he]
  rw[e1];simp only[eU];refine wGD (λh=>?_) (λh=>?_)
  ·refine wGT ?_;simp[bX,h0,he]
  ·cases h
 | false=>
  have e1:ba n s=none:=by unfold ba;rw[if_neg QB]
  rw[e1];simp only[eU];refine wGD (λh=>?_) (λh=>?_)
  ·cases h
  refine wGq ?_ ?_ w5
  ·simp[ZN]
  refine wD (λh=>?_) (λh=>?_)
  ·have h6:6<=n.entries.length:=by simp at h;omega
   refine wGT ?_;simp[bX,h0,he,h6]
  ·have h6:¬6<=n.entries.length:=by simp at h;omega
   refine wGT ?_;simp[bX,h0,he,h6]
theorem Bc (l:List Node) (a:Act) (v k:Int) (hl:Small l) (G Y N:Nat->Nat):ai prog 174 [.ptr 15 9 0 0,.int .i64 k] (dH (ZD l a v) G Y N)
  (λr H=>r=.tup [.agg (ZN (ar l k)),.int .i64 (eH l k)]/\∀i b,aa (dH (ZD l a v) G Y N) i=some b->aa H i=some b):=by
 unfold dH;refine wS func174 ntmps174 results174 λC=>?_
 refine wGq ?_ ?_ k0
 ·simp[ZD]
 refine wC ?_ func82 (hf:=dD l k hl);simp only[go_sem,fS];rw[cK];unfold ar eH;generalize ak l k=o;cases o with
 | none=>
  simp only[Option.getD_none,Option.isSome_none];refine wGq ?_ ?_ QO
  ·simp[ZN]
  refine wD (λh=>?_) (λh=>?_)
  ·refine wGq ?_ ?_ QO
   ·simp[ZN]
   refine wU ?_ (c_ ?_ ?_)
   ·simp[ZN,aw]
   ·simp[go_sem,ZD]
   ·simp[go_sem]
  ·cases h
 | some n=>
  simp only[Option.getD_some,Option.isSome_some];refine wGq ?_ ?_ w5
  ·simp[ZN]
  refine wD (λh=>?_) (λh=>?_)
  ·cases h
  refine wGq ?_ ?_ w5
  ·simp[ZN]
  refine wD (λh=>?_) (λh=>?_)
  ·have hd:n.dir=false:=by simpa using h
   refine wGq ?_ ?_ w5
   ·simp[ZN]
   refine wU ?_ (c_ ?_ ?_)
   ·simp[ZN,hd]
   ·simp[go_sem,ZD]
   ·simp[go_sem]
  ·have hd:n.dir=true:=by simpa using h
   refine wGq ?_ ?_ w5
   ·simp[ZN]
   refine wU ?_ (c_ ?_ ?_)
   ·simp[ZN,hd]
   ·simp[go_sem,ZD]
   ·simp[go_sem]
theorem qQ (l:List Node) (a:Act) (v:Int) (n:Node) (hl:Small l) (hn:n.Small) (G Y N:Nat->Nat):ai prog 176 [.ptr 15 9 0 0,.agg (ZN n)] (dH (ZD l a v) G Y N)
  (λr H=>r=.tup []/\∀i b,aa (dH (ZD (aJ l { n with version:=v }) a v) G Y N) i=some b->aa H i=some b):=by
 have hp:=Lw l ({ n with version:=v }:Node) hl ⟨hn.data,hn.entries⟩;unfold dH;refine wS func176 ntmps176 results176 λC=>?_
 refine wGq ?_ ?_ p6
 ·simp[ZD]
 refine ZZ 3 rfl (rfl) (wn ?_);refine wO ?_;refine sG ?_;refine sC ?_ func207 (hf:=hp);refine sG ?_;refine sE ?_;refine dS ?_;refine wKn ?_;refine iD ⟨_,_,rfl,trivial,.tup [],.inr (.inl rfl),rfl,c_ ?_ ?_⟩
 ·simp[go_sem,ZD]
 ·simp[go_sem]
theorem u_ (a b:List UInt8):Fo 123 [.sl (a.map ZY),.sl (b.map ZY)] (.bool (a==b)):=by
 refine wS func123 ntmps123 results123 λC=>?_
 refine wGq ?_ ?_
 ·simp
 refine wT ?_;simp
theorem w_ {α:Type} [Inhabited α] [DecidableEq α] {a b:List α} {i:Nat} (h:a.take i=b.take i) (ha:i<a.length) (hb:i<b.length) (e:a.getD i default=b.getD i default):a.take (i+1)=b.take (i+1):=by
 rw[ZT ha,ZT hb,h,e]
theorem wW {α:Type} [Inhabited α] {a b:List α} {i:Nat} (e:¬a.getD i default=b.getD i default):a≠b:=by rintro rfl;exact e rfl
theorem r_ (a b:List Entry) (ha:a.length<=100000000) (hb:b.length<=100000000):Fo 124 [.sl (a.map ZE),.sl (b.map ZE)] (.bool (decide (a=b))):=by
 refine wS func124 ntmps124 results124 λC=>?_
 refine wGD (λh=>?_) (λh=>?_)
 ·have hne:a≠b:=by rintro rfl;simp at h
  refine wGT ?_;simp[hne]
 have hl:a.length=b.length:=by simp at h;omega
 refine wG ?_;refine ZL (λi:Nat=>i<=a.length/\a.take i=b.take i) (λi=>a.length-i) (λi=>(5,.any)::(13,.int .i64 i)::u0 14 12 []) (λ_=>[]) 0 ⟨by omega,by simp⟩ ?_ λi hi=>?_
 ·exact wZ
 obtain ⟨hi,hs⟩:=hi;simp only[go_sem];refine wGD (λh=>?_) (λh=>?_)
 ·have hlt:=lt1 h;have hltb:i<b.length:=by omega
  have hga:=Fam.getD (f:=ZE) hlt;have hgb:=Fam.getD (f:=ZE) hltb;have htk:=w_ hs hlt hltb;have htd:=wW (a:=a) (b:=b) (i:=i);generalize a.getD i default=x at hga htk htd;generalize b.getD i default=y at hgb htk htd;refine wGS ?_;refine sNq 8 ?_ ?_ z6 z6 WZ
  ·simp[hga,hgb,ZE,hlt,hltb]
  refine sE ?_;refine ff rfl w9 rfl (uO tK rfl (tys:=[9,3]) w9 z7 z7 z6 Zi) rfl ?_;refine wKd ?_;have hxy:(x.name==y.name&&x.fid==y.fid)=decide (x=y):=by
   obtain ⟨n1,f1⟩:=x;obtain ⟨n2,f2⟩:=y
   by_cases h1:n1=n2<;>by_cases h2:f1=f2<;>simp[h1,h2]
  simp only[go_sem,Bool.and_true,hxy];refine wGD (λh=>?_) (λh=>?_)
  ·have hne:x≠y:=by simpa using h
   have:=htd hne;refine wGT ?_;simp[this]
  ·have heq:x=y:=by simpa using h
   have hw:=wi1 (i:=i) z8;refine wG ?_ w4 y7;refine ZB ⟨i+1,⟨by omega,htk heq⟩,by omega,ZU ?_ ?_ ?_⟩
   ·simp[go_sem];exact hw
   ·simp[go_sem]
   ·simp[go_sem]
 ·have e:i=a.length:=by simp at h;omega
  have hab:a=b:=by
   rw[e,W7,hl,W7] at hs;exact hs
  refine wGT ?_;simp[hab]
def dg (v:Bool) (a b:Node):Bool:=a.fid==b.fid&&a.dir==b.dir&&a.data==b.data&&decide (a.entries=b.entries)&&(!v||a.version==b.version)
theorem rS (a b:Node) (v:Bool) (ha:a.Small) (hb:b.Small):Fo 87 [.agg (ZN a),.agg (ZN b),.bool v] (.bool (dg v a b)):=by
 have hla:=ha.entries;have hlb:=hb.entries;unfold ZN;refine wS func87 ntmps87 results87 λC=>?_
 refine wR ?_;refine wN 3 ?_;refine wR ?_;refine ZZ 3 rfl (rfl) ?_;refine ZZ 4 rfl (rfl) (wn ?_);refine wN 5 ?_;refine wNm 12 λc12 h12=>?_
 refine wN 7 ?_;refine wNm 19 λc19 h19=>?_
 refine wN 9 ?_;refine wNm 28 λc28 h28=>?_
 refine wN 9 ?_;refine wNm 37 λc37 h37=>?_
 refine wNq 10 ?_ ?_
 ·cases c37<;>cases v<;>simp
 refine wNm 47 λc47 h47=>?_
 have hdiff:c47=!(a.fid==b.fid&&a.dir==b.dir&&a.data==b.data&&(a.entries.length==b.entries.length)&&(!v||a.version==b.version)):=by
  subst h47 h37 h28 h19 h12;have e:((a.entries.length:Int) != (b.entries.length:Int))=!(a.entries.length==b.entries.length):=by
   rw[Yv];simp;omega
  rw[e];simp only[bne];cases (a.fid==b.fid)<;>cases (a.dir==b.dir)<;>cases (a.data==b.data)<;>cases (a.entries.length==b.entries.length)<;>cases v<;>cases (a.version==b.version)<;>rfl
 refine wD (λh=>?_) (λh=>?_)
 ·rw[hdiff] at h;refine wGT ?_;have:dg v a b=false:=by
   unfold dg;have hn:decide (a.entries=b.entries)=true->(a.entries.length==b.entries.length)=true:=λh=>by
    rw[of_decide_eq_true h];simp
   revert h hn
   cases (a.fid==b.fid)<;>cases (a.dir==b.dir)<;>cases (a.data==b.data)<;>cases (a.entries.length==b.entries.length)<;>cases v<;>cases (a.version==b.version)<;>cases decide (a.entries=b.entries)<;>simp
  rw[this]
 rw[hdiff] at h;have hl:a.entries.length=b.entries.length:=by
  revert h
  cases e:(a.entries.length==b.entries.length)
  ·simp
  ·intro _;simpa using e
 have hsn:dg v a b=decide (a.entries=b.entries):=by
  unfold dg
  revert h
  cases (a.fid==b.fid)<;>cases (a.dir==b.dir)<;>cases (a.data==b.data)<;>cases (a.entries.length==b.entries.length)<;>cases v<;>cases (a.version==b.version)<;>simp
 rw[hsn];clear h12 h19 h28 h37 h47;refine wG ?_;refine ZL (λi:Nat=>i<=a.entries.length/\a.entries.take i=b.entries.take i) (λi=>a.entries.length-i) (λi=>(7,.any)::(51,.int .i64 i)::u0 52 14 []) (λ_=>[]) 0 ⟨by omega,by simp⟩ ?_ λi hi=>?_
 ·exact wZ
 obtain ⟨hi,hs⟩:=hi;simp only[go_sem];refine wGD (λh=>?_) (λh=>?_)
 ·have hlt:=lt1 h;have hltb:i<b.entries.length:=by omega
  have hga:=Fam.getD (f:=ZE) hlt;have hgb:=Fam.getD (f:=ZE) hltb;have htk:=w_ hs hlt hltb;have htd:=wW (a:=a.entries) (b:=b.entries) (i:=i);generalize a.entries.getD i default=x at hga htk htd;generalize b.entries.getD i default=y at hgb htk htd;refine wGS ?_;refine sNq 10 ?_ ?_ z6 z6 WZ
  ·simp[hga,hgb,ZE,hlt,hltb]
  refine sE ?_;refine ff rfl w9 rfl (uO tK rfl (tys:=[9,3]) w9 z7 z7 z6 Zi) rfl ?_;refine wKd ?_;have hxy:(x.name==y.name&&x.fid==y.fid)=decide (x=y):=by
   obtain ⟨n1,f1⟩:=x;obtain ⟨n2,f2⟩:=y
   by_cases h1:n1=n2<;>by_cases h2:f1=f2<;>simp[h1,h2]
  simp only[go_sem,Bool.and_true,hxy];refine wGD (λh=>?_) (λh=>?_)
  ·have hne:x≠y:=by simpa using h
   have:=htd hne;refine wGT ?_;simp[this]
  ·have heq:x=y:=by simpa using h
   have hw:=wi1 (i:=i) z8;refine wG ?_ w4 y7;refine ZB ⟨i+1,⟨by omega,htk heq⟩,by omega,ZU ?_ ?_ ?_⟩
   ·simp[go_sem];exact hw
   ·simp[go_sem]
   ·simp[go_sem]
 ·have e:i=a.entries.length:=by simp at h;omega
  have hab:a.entries=b.entries:=by
   rw[e,W7,hl,W7] at hs;exact hs
  refine wGT ?_;simp[hab]
theorem oI {l:List Node} (hl:Small l) {n:Node} (hn:n.Small) (hlen:l.length<=99999999):Small (aJ l n):=by
 refine ⟨by have:=rR l n;omega,λx hx=>?_⟩;unfold aJ at hx;split at hx
 ·rcases Yl hx with h | rfl
  ·exact hl.each x h
  ·exact hn
 ·rcases List.mem_append.1 hx with h | h
  ·exact hl.each x (YJ h)
  ·rcases List.mem_cons.1 h with rfl | h
   ·exact hn
   ·exact hl.each x (Yb h)
theorem pf {n:Node} (hn:n.Small) (s:List UInt8) (f:Int) (h:n.entries.length<=99999999):(aB n s f).Small:=by
 refine ⟨hn.data,?_⟩
 show (bD n.entries s f).length<=_
 unfold bD;split
 ·simp;omega
 ·have:=qk n.entries s;simp;omega
theorem px {n:Node} (hn:n.Small) (s:List UInt8):(aE n s).Small:=
 ⟨hn.data,by
  have:=YB (λe:Entry=>!(e.name==s)) n.entries;have:=hn.entries
  show (dp n.entries s).length<=_
  unfold dp;omega⟩
end La
