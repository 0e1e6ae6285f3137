/- Texts of this claim, part 12: Aux, Hof2, Enter, Doer, SameN, PutsS, Make, Rise, Walk, Within. No condition. -/
import Derived.Test.YtmcfbfdonjllaaaGreatDoorZK9
set_option maxRecDepth 10000
set_option maxHeartbeats 4000000
set_option linter.unusedSimpArgs false
set_option linter.unusedVariables false
namespace La
open Go Go.Eng Go.Proofs
theorem jZ {α:Type} {p:α->Bool} (l:List α):decide (cf (l.findIdx? p)≥0)=l.any p:=by
 cases h:l.findIdx? p with
 | none=>
  rw[Z6] at h;have:l.any p=false:=by rw[List.any_eq_false];intro x hx;simp[h x hx]
  rw[this];rfl
 | some k=>
  have:l.any p=true:=by
   obtain ⟨hk,h1,_⟩:=Z4.1 h;exact List.any_eq_true.2 ⟨_,WR hk,h1⟩
  rw[this];simp[cf]
theorem ej:∀{l:List AV},(l.all AV.aX)=true->∃q,(∀h,dW h l=some (q,l))/\q
 | [],_=>⟨True,λ_=>rfl,trivial⟩
 | x::r,hp=>by
  simp only[List.all_cons,Bool.and_eq_true] at hp;obtain ⟨q,h1,h2⟩:=ej hp.2;have hx:∀h,view h x=some (True,x):=λh=>by
   cases x with
   | osl=>cases hp.1
   | ptr=>cases hp.1
   | mp=>cases hp.1
   | fn=>cases hp.1
   | agg=>cases hp.1
   | any=>cases hp.1
   | tup=>cases hp.1
   | cnd=>cases hp.1
   | exs=>cases hp.1
   | _=>rfl
  exact ⟨True/\q,λh=>by simp only[dW,hx,h1],trivial,h2⟩
theorem br:∀{l:List AV},(l.all AV.aX)=true->av l=[]
 | [],_=>rfl
 | x::r,hp=>by
  simp only[List.all_cons,Bool.and_eq_true] at hp;have hx:refs x=[]:=by cases x<;>first | rfl | cases hp.1
  simp only[av,hx,br hp.2,List.append_nil]
theorem dA {α:Type} {l:List α} {p:α->Bool} {j:Nat} (h:l.findIdx? p=some j):(l.take (j+1)).filter (λx=>!p x)=l.take j:=by
 obtain ⟨hk,h1,h2⟩:=Z4.1 h;rw[List.take_succ_eq_append_getElem hk,List.filter_append];have e1:(l.take j).filter (λx=>!p x)=l.take j:=WV.2 λx hx=>by
  obtain ⟨i,hi⟩:=Z1 hx;rw[WE] at hi;split at hi
  ·rename_i hij;have:=h2 i hij;have e:l[i]? = some l[i]:=Zp z7;rw[e] at hi;injection hi with hi
   rw[←hi];simpa using this
  ·cases hi
 rw[e1];simp[h1]
structure DelInv {α:Type} (p:α->Bool) (l:List α) (j:Nat) (L:List α):Prop where
 le:j≤l.length
 len:L.length=l.length
 drop:L.drop j=l.drop j
 take:L.take ((l.take j).filter λx=>!p x).length=(l.take j).filter λx=>!p x
 lt:((l.take j).filter λx=>!p x).length<j
theorem DelInv.start {α:Type} {p:α->Bool} {l:List α} {k:Nat} (h:l.findIdx? p=some k):DelInv p l (k+1) l:=by
 have hk:k<l.length:=(Z4.1 h).1;have e:=dA h;have el:(l.take k).length=k:=by simp;omega
 refine ⟨hk,rfl,rfl,?_,?_⟩
 ·rw[e,el]
 ·rw[e,el];omega
theorem DelInv.get {α:Type} [Inhabited α] {p:α->Bool} {l L:List α} {j:Nat} (h:DelInv p l j L) (hj:j<l.length):L.getD j default=l.getD j default:=by
 have:=h.drop;rw[cH hj,cH (show j<L.length by rw[h.len];exact hj)] at this;injection this
theorem DelInv.skip {α:Type} [Inhabited α] {p:α->Bool} {l L:List α} {j:Nat} (h:DelInv p l j L) (hj:j<l.length) (hp:p (l.getD j default)=true):DelInv p l (j+1) L:=by
 have e:(l.take (j+1)).filter (λx=>!p x)=(l.take j).filter λx=>!p x:=by
  rw[ZT hj,List.filter_append];simp only[List.filter_cons,hp,List.filter_nil,Bool.not_true,Bool.false_eq_true,if_false,List.append_nil]
 refine ⟨hj,h.len,?_,?_,?_⟩
 ·rw[←List.drop_drop,←List.drop_drop,h.drop]
 ·rw[e];exact h.take
 ·rw[e];have:=h.lt;omega
theorem DelInv.Ch {α:Type} [Inhabited α] {p:α->Bool} {l L:List α} {j:Nat} (h:DelInv p l j L) (hj:j<l.length) (hp:p (l.getD j default)=false) :
  DelInv p l (j+1) (L.set ((l.take j).filter λx=>!p x).length (l.getD j default))/\((l.take (j+1)).filter λx=>!p x).length=((l.take j).filter λx=>!p x).length+1:=by
 have e:(l.take (j+1)).filter (λx=>!p x)=(l.take j).filter (λx=>!p x)++[l.getD j default]:=by
  rw[ZT hj,List.filter_append];simp only[List.filter_cons,hp,List.filter_nil,Bool.not_false,if_true]
 have hlt:=h.lt;have hlen:=h.len;have htk:=h.take;generalize hd:(l.take j).filter (λx=>!p x)=d at *;refine ⟨⟨hj,by simp[hlen],?_,?_,?_⟩,by rw[e];simp⟩
 ·have:(L.set d.length (l.getD j default)).drop (j+1)=L.drop (j+1):=by
   rw[List.drop_set];rw[if_pos z7]
  rw[this,←List.drop_drop,←List.drop_drop,h.drop]
 ·rw[e];simp only[List.length_append,List.length_cons,List.length_nil,WK];rw[List.take_succ_eq_append_getElem y9,List.take_set_of_le (Zw _),htk];simp
 ·rw[e];simp;omega
theorem DelInv.fin {α:Type} {p:α->Bool} {l L:List α} (h:DelInv p l l.length L):L.take (l.filter λx=>!p x).length=l.filter λx=>!p x:=by
 have:=h.take
 rwa [Zy] at this
theorem na {α:Type} (f:α->List AV) (l:List α) (i:Nat) (x:α):(l.map f).set i (f x)=(l.set i x).map f:=by rw[List.map_set]
theorem gk {α:Type} (f:α->List AV) {L:List α} {d:List α} (z:List AV) (h:L.take d.length=d) (hd:d.length≤L.length) :
  aP (L.map f) d.length (List.replicate (L.length-d.length) z)=d.map f++List.replicate (L.length-d.length) z:=by
 unfold aP;rw[←Wt,h,List.drop_eq_nil_of_le y9,List.append_nil]
@[go_sem,simp] theorem Fj (e s:Nat) (a b:List (List AV)):Eng.au (.cells e s (a++b))=Eng.au (.cells e s a)++Eng.au (.cells e s b):=by
 simp only[Eng.au,List.flatMap_append]
@[go_sem,simp] theorem HE (e s n:Nat) (z:List AV) (h:av z=[]):Eng.au (.cells e s (List.replicate n z))=[]:=by
 simp only[Eng.au]
 induction n with
 | zero=>rfl
 | succ n ih=>simp only[List.replicate_succ,List.flatMap_cons,h,ih,List.append_nil]
attribute [go_sem] List.map_append List.map_replicate
theorem fE {α:Type} {a b:List α} {n:Nat} (h:n=a.length):(a++b).take n=a:=by subst h;simp
theorem gH (n:Nat) {z:List AV} (h:(z.all AV.aX)=true):((List.replicate n z).all λrow=>row.all AV.aX)=true:=by
 rw[List.all_eq_true];intro row hr;rw[(List.mem_replicate.1 hr).2];exact h
theorem qP (l:List Node) (hlen:l.length≤100000000) {f:FuncId} {caps:List AV} {p:Node->Bool} (hcal:ax Tryz.prog f) (hpure:(caps.all AV.aX)=true)
  (hf:∀x,x∈l->ae Tryz.prog f (.agg (ZN x)::caps) [] (λr _=>r=.bool (p x))) :
  ae Tryz.prog 233 [.sl (l.map ZN),.fn f caps] [] (λr _=>r=.int .i64 (cf (l.findIdx? p))):=by
 have hcaps:=br hpure;refine ZF tK (Tryz.func233) rfl (λC=>?_);simp only[Tryz.ntmps233,Tryz.results233,go_sem];refine wG tK ?_;refine ZL (λi:Nat=>i≤l.length/\∀x,x∈l.take i->p x=false) (λi=>l.length-i) (λi=>(8,.int .i64 i)::(5,.any)::u0 9 10 []) (λ_=>[]) 0 ⟨by omega,by simp⟩ ?_ λi hi=>?_
 ·simp only[go_sem];exact ZU w1 w1 k9
 obtain ⟨hi,hno⟩:=hi;simp only[go_sem];refine wG tK ?_;refine wD (λh=>?_) (λh=>?_)
 ·have hlt:i<l.length:=by simp at h;omega
  have hn:=hf _ (YG hlt);have hg:(l.map ZN).getD i []=ZN (l.getD i default):=Fam.getD hlt;have htk:=ZT hlt;have hgi:l[i]? = some (l.getD i default):=by rw[Zo,Zp hlt];rfl
  generalize l.getD i default=n at hn hg htk hgi;refine wGq tK ?_ ?_ QH
  ·simp[hlt,ZN]
  refine cM rfl rfl z8 w1 hcal k9 (hn) w1 z6 ?_;refine wG tK ?_;refine wD (λh=>?_) (λh=>?_)
  ·refine wG tK ?_;refine wT ?_;rw[di hgi hno h];rfl
  ·have hw:IntKind.i64.wrap ((i:Int)+1)=(i:Int)+1:=wrap_small z7 z7;refine wG tK ?_ w6 k0;refine ZB ⟨i+1,⟨by omega,?_⟩,by omega,ZU ?_ ?_ ?_⟩
   ·rw[htk];intro x hx
    rcases List.mem_append.1 hx with hx | hx
    ·exact hno x hx
    ·rw[List.mem_singleton.1 hx];exact h
   ·simp[go_sem]
   ·simp[go_sem]
   ·simp[go_sem,hcaps]
 ·have e:i=l.length:=by simp at h;omega
  refine wG tK ?_;refine wT ?_;rw[e,Zy] at hno;rw[Z6.2 hno];rfl
theorem pg (l:List Node) (hlen:l.length≤100000000) (id:Nat) {f:FuncId} {caps:List AV} {p:Node->Bool} (hcal:ax Tryz.prog f) (hpure:(caps.all AV.aX)=true) (hid:id≠7)
  (hf:∀x,x∈l->ae Tryz.prog f (.agg (ZN x)::caps) [] (λr _=>r=.bool (p x))) :
  ae Tryz.prog 212 [.osl id 5 0 l.length,.fn f caps] [(id,.cells 94 5 (l.map ZN))] (λr H=>r=.osl id 5 0 (l.filter λx=>!p x).length /\
   ∀i b,aa [(id,.cells 94 5 ((l.filter λx=>!p x).map ZN++List.replicate (l.length-(l.filter λx=>!p x).length) [.int .i64 0,.bool false,.nils,.nils,.int .i64 0]))] i=some b->aa H i=some b):=by
 have hcaps:=br hpure;obtain ⟨q,hv,hq⟩:=ej hpure;refine ZF tK (Tryz.func212) rfl (λC=>?_);simp only[Tryz.ntmps212,Tryz.results212,go_sem];refine wG tK ?_;refine kF rfl rfl z8 w1 QE Qk ⟨_,Tryz.func233,by kernel_rfl,rfl⟩ (qP l hlen hcal hpure hf) w1 z6 ?_;refine wG tK ?_;refine wD (λh=>?_) (λh=>?_)
 ·refine wG tK ?_;refine wT ?_;have hn:l.findIdx? p=none:=by
   cases e:l.findIdx? p with
   | none=>rfl
   | some k=>rw[e] at h;simp[cf] at h
  have hfl:l.filter (λx=>!p x)=l:=WV.2 λx hx=>by
   simp[Z6.1 hn x hx]
  rw[hfl];simp[aa]
 obtain ⟨k,hk⟩:∃k,l.findIdx? p=some k:=by
  cases e:l.findIdx? p with
  | none=>rw[e] at h;simp[cf] at h
  | some k=>exact ⟨k,rfl⟩
 have hkl:k<l.length:=(Z4.1 hk).1;have hsp:=dA hk;rw[hk];have hw:IntKind.i64.wrap ((k:Int)+1)=((k+1:Nat):Int):=by rw[Eng.wrap_small z7 z7];rfl
 simp only[cf];refine wG tK ?_ w6 k0;refine ZL (λs:Nat×List Node=>DelInv p l s.1 s.2) (λs=>l.length-s.1) (λs=>(5,.int .i64 (((l.take s.1).filter λx=>!p x).length:Nat))::(6,.int .i64 (s.1:Nat))::(7,.any)::u0 16 20 []) (λs=>[(id,.cells 94 5 (s.2.map ZN))]) (k+1,l) (DelInv.start hk) ?_ λs hs=>?_
 ·have el:((l.take (k+1)).filter λx=>!p x).length=k:=by rw[hsp];simp;omega
  simp only[go_sem,el];exact ZU w1 w1 k9
 obtain ⟨j,L⟩:=s;have hjl:=hs.le;have hL:=hs.len;have hlt:=hs.lt;simp only at hs hjl hL hlt;simp only[go_sem];refine wG tK ?_;refine wD (λh=>?_) (λh=>?_)
 ·have hj:j<l.length:=by simp at h;omega
  have hn:=hf _ (YG hj);have hg:(L.map ZN).getD j []=ZN (l.getD j default):=by rw[Fam.getD z7,hs.get hj]
  have hkeep:=hs.Ch hj;have hskip:=hs.skip hj;have htk:=ZT hj;generalize l.getD j default=n at hn hg hkeep hskip htk;refine wGq tK ?_ ?_ (by simp only[go_sem,hg,ZN,hid,Ne.symm hid];try exact rfl)
  ·simp[ZN];omega
  refine cM rfl rfl z8 w1 hcal k9 (hn) w1 z6 ?_;generalize hm:((l.take j).filter λx=>!p x).length=m at hkeep hlt;have hw1:IntKind.i64.wrap ((j:Int)+1)=((j+1:Nat):Int):=by rw[Eng.wrap_small z7 z7];rfl
  have hw2:IntKind.i64.wrap ((m:Int)+1)=((m+1:Nat):Int):=by rw[Eng.wrap_small z7 z7];rfl
  refine wG tK ?_ QC Qx;refine wD (λh=>?_) (λh=>?_)
  ·have hp:p n=false:=by simpa using h
   obtain ⟨hk1,hk2⟩:=hkeep hp;have aB:=na ZN L m n;simp only[ZN] at aB;have hgl:(L.map ZN).getD m []=ZN (L.getD m default):=Fam.getD z7;simp only[ZN] at hgl;refine wGq tK ?_ ?_ x8
   ·simp[hid,Ne.symm hid];omega
   refine ZB ⟨(j+1,L.set m n),hk1,by simp only;omega,ZU ?_ ?_ ?_⟩
   ·simp[go_sem,hk2]
   ·simp[go_sem,hid,Ne.symm hid,aB]
   ·simp[go_sem,hcaps,-List.map_set]
  ·have hp:p n=true:=by simpa using h
   refine wG tK ?_ u4 QF;have hsame:((l.take (j+1)).filter λx=>!p x).length=m:=by
    rw[←hm,htk,List.filter_append];simp only[List.filter_cons,hp,Bool.not_true,Bool.false_eq_true,if_false,List.filter_nil,List.append_nil]
   refine ZB ⟨(j+1,L),hskip hp,by simp only;omega,ZU ?_ ?_ ?_⟩
   ·simp[go_sem,hsame,hm]
   ·simp[go_sem,hid,Ne.symm hid]
   ·simp[go_sem,hcaps]
 have e:j=l.length:=by simp at h;omega
 subst e;have hfin:=hs.fin;rw[Zy];generalize hd:(l.filter λx=>!p x)=d at *;have hdl:d.length≤l.length:=by rw[←hd];exact Z5 _ _
 have hcl:=gk ZN (d:=d) (L:=L) [.int .i64 0,.bool false,.nils,.nils,.int .i64 0] hfin z7;rw[hL] at hcl;refine wGq tK ?_ ?_ u5
 ·simp only[not_false_eq_true,true_and];omega
 refine wT ?_;simp[aa]
theorem jC (l:List Entry) (hlen:l.length≤100000000) {f:FuncId} {caps:List AV} {p:Entry->Bool} (hcal:ax Tryz.prog f) (hpure:(caps.all AV.aX)=true)
  (hf:∀x,x∈l->ae Tryz.prog f (.agg (ZE x)::caps) [] (λr _=>r=.bool (p x))) :
  ae Tryz.prog 232 [.sl (l.map ZE),.fn f caps] [] (λr _=>r=.int .i64 (cf (l.findIdx? p))):=by
 have hcaps:=br hpure;refine ZF tK (Tryz.func232) rfl (λC=>?_);simp only[Tryz.ntmps232,Tryz.results232,go_sem];refine wG tK ?_;refine ZL (λi:Nat=>i≤l.length/\∀x,x∈l.take i->p x=false) (λi=>l.length-i) (λi=>(8,.int .i64 i)::(5,.any)::u0 9 10 []) (λ_=>[]) 0 ⟨by omega,by simp⟩ ?_ λi hi=>?_
 ·simp only[go_sem];exact ZU w1 w1 k9
 obtain ⟨hi,hno⟩:=hi;simp only[go_sem];refine wG tK ?_;refine wD (λh=>?_) (λh=>?_)
 ·have hlt:i<l.length:=by simp at h;omega
  have hn:=hf _ (YG hlt);have hg:(l.map ZE).getD i []=ZE (l.getD i default):=Fam.getD hlt;have htk:=ZT hlt;have hgi:l[i]? = some (l.getD i default):=by rw[Zo,Zp hlt];rfl
  generalize l.getD i default=n at hn hg htk hgi;refine wGq tK ?_ ?_ QI
  ·simp[hlt,ZE]
  refine cM rfl rfl z8 w1 hcal k9 (hn) w1 z6 ?_;refine wG tK ?_;refine wD (λh=>?_) (λh=>?_)
  ·refine wG tK ?_;refine wT ?_;rw[di hgi hno h];rfl
  ·have hw:IntKind.i64.wrap ((i:Int)+1)=(i:Int)+1:=wrap_small z7 z7;refine wG tK ?_ w6 k0;refine ZB ⟨i+1,⟨by omega,?_⟩,by omega,ZU ?_ ?_ ?_⟩
   ·rw[htk];intro x hx
    rcases List.mem_append.1 hx with hx | hx
    ·exact hno x hx
    ·rw[List.mem_singleton.1 hx];exact h
   ·simp[go_sem]
   ·simp[go_sem]
   ·simp[go_sem,hcaps]
 ·have e:i=l.length:=by simp at h;omega
  refine wG tK ?_;refine wT ?_;rw[e,Zy] at hno;rw[Z6.2 hno];rfl
theorem nE (l:List Entry) (hlen:l.length≤100000000) (id:Nat) {f:FuncId} {caps:List AV} {p:Entry->Bool} (hcal:ax Tryz.prog f) (hpure:(caps.all AV.aX)=true) (hid:id≠7)
  (hf:∀x,x∈l->ae Tryz.prog f (.agg (ZE x)::caps) [] (λr _=>r=.bool (p x))) :
  ae Tryz.prog 210 [.osl id 2 0 l.length,.fn f caps] [(id,.cells 96 2 (l.map ZE))] (λr H=>r=.osl id 2 0 (l.filter λx=>!p x).length /\
   ∀i b,aa [(id,.cells 96 2 ((l.filter λx=>!p x).map ZE++List.replicate (l.length-(l.filter λx=>!p x).length) [.str [],.int .i64 0]))] i=some b->aa H i=some b):=by
 have hcaps:=br hpure;obtain ⟨q,hv,hq⟩:=ej hpure;refine ZF tK (Tryz.func210) rfl (λC=>?_);simp only[Tryz.ntmps210,Tryz.results210,go_sem];refine wG tK ?_;refine kF rfl rfl z8 w1 QE Qk ⟨_,Tryz.func232,by kernel_rfl,rfl⟩ (jC l hlen hcal hpure hf) w1 z6 ?_;refine wG tK ?_;refine wD (λh=>?_) (λh=>?_)
 ·refine wG tK ?_;refine wT ?_;have hn:l.findIdx? p=none:=by
   cases e:l.findIdx? p with
   | none=>rfl
   | some k=>rw[e] at h;simp[cf] at h
  have hfl:l.filter (λx=>!p x)=l:=WV.2 λx hx=>by
   simp[Z6.1 hn x hx]
  rw[hfl];simp[aa]
 obtain ⟨k,hk⟩:∃k,l.findIdx? p=some k:=by
  cases e:l.findIdx? p with
  | none=>rw[e] at h;simp[cf] at h
  | some k=>exact ⟨k,rfl⟩
 have hkl:k<l.length:=(Z4.1 hk).1;have hsp:=dA hk;rw[hk];have hw:IntKind.i64.wrap ((k:Int)+1)=((k+1:Nat):Int):=by rw[Eng.wrap_small z7 z7];rfl
 simp only[cf];refine wG tK ?_ w6 k0;refine ZL (λs:Nat×List Entry=>DelInv p l s.1 s.2) (λs=>l.length-s.1) (λs=>(5,.int .i64 (((l.take s.1).filter λx=>!p x).length:Nat))::(6,.int .i64 (s.1:Nat))::(7,.any)::u0 16 20 []) (λs=>[(id,.cells 96 2 (s.2.map ZE))]) (k+1,l) (DelInv.start hk) ?_ λs hs=>?_
 ·have el:((l.take (k+1)).filter λx=>!p x).length=k:=by rw[hsp];simp;omega
  simp only[go_sem,el];exact ZU w1 w1 k9
 obtain ⟨j,L⟩:=s;have hjl:=hs.le;have hL:=hs.len;have hlt:=hs.lt;simp only at hs hjl hL hlt;simp only[go_sem];refine wG tK ?_;refine wD (λh=>?_) (λh=>?_)
 ·have hj:j<l.length:=by simp at h;omega
  have hn:=hf _ (YG hj);have hg:(L.map ZE).getD j []=ZE (l.getD j default):=by rw[Fam.getD z7,hs.get hj]
  have hkeep:=hs.Ch hj;have hskip:=hs.skip hj;have htk:=ZT hj;generalize l.getD j default=n at hn hg hkeep hskip htk;refine wGq tK ?_ ?_ (by simp only[go_sem,hg,ZE,hid,Ne.symm hid];try exact rfl)
  ·simp[ZE];omega
  refine cM rfl rfl z8 w1 hcal k9 (hn) w1 z6 ?_;generalize hm:((l.take j).filter λx=>!p x).length=m at hkeep hlt;have hw1:IntKind.i64.wrap ((j:Int)+1)=((j+1:Nat):Int):=by rw[Eng.wrap_small z7 z7];rfl
  have hw2:IntKind.i64.wrap ((m:Int)+1)=((m+1:Nat):Int):=by rw[Eng.wrap_small z7 z7];rfl
  refine wG tK ?_ QC Qx;refine wD (λh=>?_) (λh=>?_)
  ·have hp:p n=false:=by simpa using h
   obtain ⟨hk1,hk2⟩:=hkeep hp;have aB:=na ZE L m n;simp only[ZE] at aB;have hgl:(L.map ZE).getD m []=ZE (L.getD m default):=Fam.getD z7;simp only[ZE] at hgl;refine wGq tK ?_ ?_ x8
   ·simp[hid,Ne.symm hid];omega
   refine ZB ⟨(j+1,L.set m n),hk1,by simp only;omega,ZU ?_ ?_ ?_⟩
   ·simp[go_sem,hk2]
   ·simp[go_sem,hid,Ne.symm hid,aB]
   ·simp[go_sem,hcaps,-List.map_set]
  ·have hp:p n=true:=by simpa using h
   refine wG tK ?_ u4 QF;have hsame:((l.take (j+1)).filter λx=>!p x).length=m:=by
    rw[←hm,htk,List.filter_append];simp only[List.filter_cons,hp,Bool.not_true,Bool.false_eq_true,if_false,List.filter_nil,List.append_nil]
   refine ZB ⟨(j+1,L),hskip hp,by simp only;omega,ZU ?_ ?_ ?_⟩
   ·simp[go_sem,hsame,hm]
   ·simp[go_sem,hid,Ne.symm hid]
   ·simp[go_sem,hcaps]
 have e:j=l.length:=by simp at h;omega
 subst e;have hfin:=hs.fin;rw[Zy];generalize hd:(l.filter λx=>!p x)=d at *;have hdl:d.length≤l.length:=by rw[←hd];exact Z5 _ _
 have hcl:=gk ZE (d:=d) (L:=L) [.str [],.int .i64 0] hfin z7;rw[hL] at hcl;refine wGq tK ?_ ?_ u5
 ·simp only[not_false_eq_true,true_and];omega
 refine wT ?_;simp[aa]
theorem lr (l:List Entry) (hlen:l.length≤100000000) {f:FuncId} {caps:List AV} {p:Entry->Bool} (hcal:ax Tryz.prog f) (hpure:(caps.all AV.aX)=true)
  (hf:∀x,x∈l->ae Tryz.prog f (.agg (ZE x)::caps) [] (λr _=>r=.bool (p x))) :
  ae Tryz.prog 214 [.sl (l.map ZE),.fn f caps] [] (λr _=>r=.bool (l.any p)):=by
 have hcaps:=br hpure;refine ZF tK (Tryz.func214) rfl (λC=>?_);simp only[Tryz.ntmps214,Tryz.results214,go_sem];refine wG tK ?_;refine cM rfl rfl z8 w1 ⟨_,Tryz.func232,by kernel_rfl,rfl⟩ k9 (jC l hlen hcal hpure hf) w1 z6 ?_;refine wG tK ?_;refine wT ?_;rw[jZ]
theorem gr (l:List Kept) (hlen:l.length≤100000000) {f:FuncId} {caps:List AV} {p:Kept->Bool} (hcal:ax Tryz.prog f) (hpure:(caps.all AV.aX)=true)
  (hf:∀x,x∈l->ae Tryz.prog f (.agg (ZK x)::caps) [] (λr _=>r=.bool (p x))) :
  ae Tryz.prog 119 [.sl (l.map ZK),.fn f caps] [] (λr _=>r=.int .i64 (cf (l.findIdx? p))):=by
 have hcaps:=br hpure;refine ZF tK (Tryz.func119) rfl (λC=>?_);simp only[Tryz.ntmps119,Tryz.results119,go_sem];refine wG tK ?_;refine ZL (λi:Nat=>i≤l.length/\∀x,x∈l.take i->p x=false) (λi=>l.length-i) (λi=>(8,.int .i64 i)::(5,.any)::u0 9 10 []) (λ_=>[]) 0 ⟨by omega,by simp⟩ ?_ λi hi=>?_
 ·simp only[go_sem];exact ZU w1 w1 k9
 obtain ⟨hi,hno⟩:=hi;simp only[go_sem];refine wG tK ?_;refine wD (λh=>?_) (λh=>?_)
 ·have hlt:i<l.length:=by simp at h;omega
  have hn:=hf _ (YG hlt);have hg:(l.map ZK).getD i []=ZK (l.getD i default):=Fam.getD hlt;have htk:=ZT hlt;have hgi:l[i]? = some (l.getD i default):=by rw[Zo,Zp hlt];rfl
  generalize l.getD i default=n at hn hg htk hgi;refine wGq tK ?_ ?_ Qa
  ·simp[hlt,ZK]
  refine cM rfl rfl z8 w1 hcal k9 (hn) w1 z6 ?_;refine wG tK ?_;refine wD (λh=>?_) (λh=>?_)
  ·refine wG tK ?_;refine wT ?_;rw[di hgi hno h];rfl
  ·have hw:IntKind.i64.wrap ((i:Int)+1)=(i:Int)+1:=wrap_small z7 z7;refine wG tK ?_ w6 k0;refine ZB ⟨i+1,⟨by omega,?_⟩,by omega,ZU ?_ ?_ ?_⟩
   ·rw[htk];intro x hx
    rcases List.mem_append.1 hx with hx | hx
    ·exact hno x hx
    ·rw[List.mem_singleton.1 hx];exact h
   ·simp[go_sem]
   ·simp[go_sem]
   ·simp[go_sem,hcaps]
 ·have e:i=l.length:=by simp at h;omega
  refine wG tK ?_;refine wT ?_;rw[e,Zy] at hno;rw[Z6.2 hno];rfl
theorem fI (l:List Kept) (hlen:l.length≤100000000) (id:Nat) {f:FuncId} {caps:List AV} {p:Kept->Bool} (hcal:ax Tryz.prog f) (hpure:(caps.all AV.aX)=true) (hid:id≠7)
  (hf:∀x,x∈l->ae Tryz.prog f (.agg (ZK x)::caps) [] (λr _=>r=.bool (p x))) :
  ae Tryz.prog 80 [.osl id 8 0 l.length,.fn f caps] [(id,.cells 138 8 (l.map ZK))] (λr H=>r=.osl id 8 0 (l.filter λx=>!p x).length /\
   ∀i b,aa [(id,.cells 138 8 ((l.filter λx=>!p x).map ZK++List.replicate (l.length-(l.filter λx=>!p x).length) [.int .i64 0,.bool false,.nils,.nils,.int .i64 0,.bool false,.int .i64 0,.int .i64 0]))] i=some b->aa H i=some b):=by
 have hcaps:=br hpure;obtain ⟨q,hv,hq⟩:=ej hpure;refine ZF tK (Tryz.func80) rfl (λC=>?_);simp only[Tryz.ntmps80,Tryz.results80,go_sem];refine wG tK ?_;refine kF rfl rfl z8 w1 QE Qk ⟨_,Tryz.func119,by kernel_rfl,rfl⟩ (gr l hlen hcal hpure hf) w1 z6 ?_;refine wG tK ?_;refine wD (λh=>?_) (λh=>?_)
 ·refine wG tK ?_;refine wT ?_;have hn:l.findIdx? p=none:=by
   cases e:l.findIdx? p with
   | none=>rfl
   | some k=>rw[e] at h;simp[cf] at h
  have hfl:l.filter (λx=>!p x)=l:=WV.2 λx hx=>by
   simp[Z6.1 hn x hx]
  rw[hfl];simp[aa]
 obtain ⟨k,hk⟩:∃k,l.findIdx? p=some k:=by
  cases e:l.findIdx? p with
  | none=>rw[e] at h;simp[cf] at h
  | some k=>exact ⟨k,rfl⟩
 have hkl:k<l.length:=(Z4.1 hk).1;have hsp:=dA hk;rw[hk];have hw:IntKind.i64.wrap ((k:Int)+1)=((k+1:Nat):Int):=by rw[Eng.wrap_small z7 z7];rfl
 simp only[cf];refine wG tK ?_ w6 k0;refine ZL (λs:Nat×List Kept=>DelInv p l s.1 s.2) (λs=>l.length-s.1) (λs=>(5,.int .i64 (((l.take s.1).filter λx=>!p x).length:Nat))::(6,.int .i64 (s.1:Nat))::(7,.any)::u0 16 20 []) (λs=>[(id,.cells 138 8 (s.2.map ZK))]) (k+1,l) (DelInv.start hk) ?_ λs hs=>?_
 ·have el:((l.take (k+1)).filter λx=>!p x).length=k:=by rw[hsp];simp;omega
  simp only[go_sem,el];exact ZU w1 w1 k9
 obtain ⟨j,L⟩:=s;have hjl:=hs.le;have hL:=hs.len;have hlt:=hs.lt;simp only at hs hjl hL hlt;simp only[go_sem];refine wG tK ?_;refine wD (λh=>?_) (λh=>?_)
 ·have hj:j<l.length:=by simp at h;omega
  have hn:=hf _ (YG hj);have hg:(L.map ZK).getD j []=ZK (l.getD j default):=by rw[Fam.getD z7,hs.get hj]
  have hkeep:=hs.Ch hj;have hskip:=hs.skip hj;have htk:=ZT hj;generalize l.getD j default=n at hn hg hkeep hskip htk;refine wGq tK ?_ ?_ (by simp only[go_sem,hg,ZK,hid,Ne.symm hid];try exact rfl)
  ·simp[ZK];omega
  refine cM rfl rfl z8 w1 hcal k9 (hn) w1 z6 ?_;generalize hm:((l.take j).filter λx=>!p x).length=m at hkeep hlt;have hw1:IntKind.i64.wrap ((j:Int)+1)=((j+1:Nat):Int):=by rw[Eng.wrap_small z7 z7];rfl
  have hw2:IntKind.i64.wrap ((m:Int)+1)=((m+1:Nat):Int):=by rw[Eng.wrap_small z7 z7];rfl
  refine wG tK ?_ QC Qx;refine wD (λh=>?_) (λh=>?_)
  ·have hp:p n=false:=by simpa using h
   obtain ⟨hk1,hk2⟩:=hkeep hp;have aB:=na ZK L m n;simp only[ZK] at aB;have hgl:(L.map ZK).getD m []=ZK (L.getD m default):=Fam.getD z7;simp only[ZK] at hgl;refine wGq tK ?_ ?_ x8
   ·simp[hid,Ne.symm hid];omega
   refine ZB ⟨(j+1,L.set m n),hk1,by simp only;omega,ZU ?_ ?_ ?_⟩
   ·simp[go_sem,hk2]
   ·simp[go_sem,hid,Ne.symm hid,aB]
   ·simp[go_sem,hcaps,-List.map_set]
  ·have hp:p n=true:=by simpa using h
   refine wG tK ?_ u4 QF;have hsame:((l.take (j+1)).filter λx=>!p x).length=m:=by
    rw[←hm,htk,List.filter_append];simp only[List.filter_cons,hp,Bool.not_true,Bool.false_eq_true,if_false,List.filter_nil,List.append_nil]
   refine ZB ⟨(j+1,L),hskip hp,by simp only;omega,ZU ?_ ?_ ?_⟩
   ·simp[go_sem,hsame,hm]
   ·simp[go_sem,hid,Ne.symm hid]
   ·simp[go_sem,hcaps]
 have e:j=l.length:=by simp at h;omega
 subst e;have hfin:=hs.fin;rw[Zy];generalize hd:(l.filter λx=>!p x)=d at *;have hdl:d.length≤l.length:=by rw[←hd];exact Z5 _ _
 have hcl:=gk ZK (d:=d) (L:=L) [.int .i64 0,.bool false,.nils,.nils,.int .i64 0,.bool false,.int .i64 0,.int .i64 0] hfin z7;rw[hL] at hcl;refine wGq tK ?_ ?_ u5
 ·simp only[not_false_eq_true,true_and];omega
 refine wT ?_;simp[aa]
theorem zQ (n:Node) (f:Int):ae Tryz.prog 213 [.agg (ZN n),.rp [.int .i64 f] 0] [] (λr _=>r=.bool (n.fid==f)):=by
 unfold ZN;refine ZF tK (Tryz.func213) rfl (λC=>?_);simp only[Tryz.ntmps213,Tryz.results213,go_sem];refine wG tK ?_;refine wT ?_;simp
theorem Et (l:List Node) (f:Int) (hl:Small l):ae Tryz.prog 180 [.sl (l.map ZN),.int .i64 f] [] (λr _=>r=.sl ((eo l f).map ZN)):=by
 have hlen:=hl.len;refine ZF tK (Tryz.func180) rfl (λC=>?_);simp only[Tryz.ntmps180,Tryz.results180,go_sem];refine wG tK ?_;refine ZZ 3 rfl (rfl) ?_;simp only[go_sem];refine wCG [] 100 Tryz.func66 (hf:=(pC l hl)) (hk:=?_);refine wG tK ?_;refine wCG [123] 100 Tryz.func212 (hf:=(pg l hlen 123 ⟨_,Go.Proofs.Tryz.func213,by kernel_rfl,rfl⟩ rfl k8 (λx _=>zQ x f))) (hk:=?_);refine wG tK ?_;refine ZZ 223 rfl (by rw[List.all_append,dG,Wr];exact gH _ rfl) ?_;simp only[go_sem];refine wT ?_;have hle:=Z5 (λx:Node=>!(x.fid==f)) l;have hd:(l.filter λx:Node=>!(x.fid==f))=eo l f:=rfl;rw[hd] at hle;simp only[hd];generalize eo l f=d at *;rw[if_pos w7,fE w7]
theorem xO (e:Entry) (s:List UInt8):ae Tryz.prog 211 [.agg (ZE e),.rp [.str s] 0] [] (λr _=>r=.bool (e.name==s)):=by
 unfold ZE;refine ZF tK (Tryz.func211) rfl (λC=>?_);simp only[Tryz.ntmps211,Tryz.results211,go_sem];refine wG tK ?_;refine wT ?_;simp
theorem vH (n:Node) (s:List UInt8) (hn:n.Small):ae Tryz.prog 179 [.agg (ZN n),.str s] [] (λr _=>r=.agg (ZN (aM n s))):=by
 have hlen:=hn.entries;refine ZF tK (Tryz.func179) rfl (λC=>?_);simp only[Tryz.ntmps179,Tryz.results179,go_sem];refine wGq tK ?_ ?_ w3
 ·simp[ZN]
 refine ZZ 7 rfl (rfl) ?_;refine ZZ 3 rfl (rfl) ?_;simp only[go_sem];refine wCG [] 0 Tryz.func66 (hf:=(wg n hn)) (hk:=?_);refine wGq tK ?_ ?_ (by simp only[go_sem,jb];try exact rfl)
 ·simp[jb]
 refine ay (bK 1000 5 z6 k6) ?_;refine ay (bK 1000 23 z6 k6) ?_;simp only[go_sem];refine wCG [1000] 100 Tryz.func210 (hf:=(nE n.entries hlen 1000 ⟨_,Go.Proofs.Tryz.func211,by kernel_rfl,rfl⟩ rfl k8 (λx _=>xO x s))) (hk:=?_);refine ZZ 1100 rfl (by rw[List.all_append,fk,Wr];exact gH _ rfl) ?_;simp only[go_sem];have hle:=Z5 (λx:Entry=>!(x.name==s)) n.entries;have hd:(n.entries.filter λx:Entry=>!(x.name==s))=ct n.entries s:=rfl;have hr:ZN (aM n s)=[.int .i64 n.fid,.bool n.dir,.sl (n.data.map ZY),.sl ((ct n.entries s).map ZE),.int .i64 n.version]:=rfl;simp only[hd] at hle ⊢;rw[hr];generalize ct n.entries s=d at *;simp only[go_sem,if_pos (show d.length≤(d.map ZE++List.replicate (n.entries.length-d.length) [AV.str [],AV.int .i64 0]).length by simp),fE (show d.length=(d.map ZE).length by simp)];refine wG tK ?_;refine wT ?_;simp
theorem rL (l M:List Entry) (i:Nat) (hi:i≤l.length) (hlen:l.length≤100000000) (hM:l.take i++⟨[],0⟩::l.drop i=M) :
  ae Tryz.prog 209 [.osl 1000 2 0 l.length,.int .i64 i,.osl 28 2 0 1] [(28,.cells 96 2 [[.str [],.int .i64 0]]),(1000,.cells 96 2 (l.map ZE))]
   (λr H=>r=.osl 7 2 0 (l.length+1)/\∀i' b,aa [(7,.cells 96 2 (M.map ZE))] i'=some b->aa H i'=some b):=by
 subst hM;have hL:(l.map ZE).length=l.length:=List.length_map ..;have:=ae.GL (rows':=(l.take i++⟨[],0⟩::l.drop i).map ZE) 7 (tE (l.map ZE) i z7 z7 (oZ l) (rK l) (λid=>jS id l)) (by
  rw[List.map_append,List.map_cons,List.map_append,List.map_cons,←Wt,←List.map_drop,la,la];rfl) (vq (λid=>jS id l) k8)
 rw[hL] at this;exact this
theorem ov {M:List Entry} {i:Nat} (h:i<M.length):(M.map ZE).getD i []=[.str (M.getD i default).name,.int .i64 (M.getD i default).fid]:=by
 rw[Fam.getD h];rfl
theorem uU (n:Node) (s:List UInt8) (f:Int) (hn:n.Small):ae Tryz.prog 177 [.agg (ZN n),.str s,.int .i64 f] [] (λr _=>r=.agg (ZN (aZ n s f))):=by
 have hlen:=hn.entries;refine ZF tK (Tryz.func177) rfl (λC=>?_);simp only[Tryz.ntmps177,Tryz.results177,go_sem];refine wGq tK ?_ ?_ w3
 ·simp[ZN]
 refine ZZ 11 rfl (rfl) ?_;refine ZZ 3 rfl (rfl) ?_;simp only[go_sem];refine wCG [] 0 Tryz.func66 (hf:=(wg n hn)) (hk:=?_);refine wG tK ?_;refine wV Tryz.func140 (hf:=(mo n.entries s hlen ⟨_,Go.Proofs.Tryz.func208,by kernel_rfl,rfl⟩ (λe=>uT e s))) (hk:=?_);refine wG tK ?_;have hple:=nF n.entries s;refine wD (λh=>?_) (λh=>?_)
 ·have hat:isE n.entries s=false:=by simpa using h
  refine wG tK ?_;refine ay (bK 1000 7 z6 k6) ?_;refine ay (bK 1000 23 z6 k6) ?_;simp only[go_sem];have hM:(n.entries.take (aH n.entries s)++⟨[],0⟩::n.entries.drop (aH n.entries s)).length=n.entries.length+1:=by simp;omega
  have hS:(n.entries.take (aH n.entries s)++⟨[],0⟩::n.entries.drop (aH n.entries s)).set (aH n.entries s) ⟨s,f⟩=bb n.entries s f:=by
   unfold bb;rw[hat,if_neg w7,List.set_append_right _ _ n3,Z9,Wo hple,WY];rfl
  generalize hMd:n.entries.take (aH n.entries s)++⟨[],0⟩::n.entries.drop (aH n.entries s)=M at *;refine wCG [1000,28] 200 Tryz.func209 (hf:=(rL n.entries M (aH n.entries s) hple hlen hMd)) (hk:=?_);refine wN tK 2 ?_;have hE:(bb n.entries s f).length=n.entries.length+1:=by rw[←hS,WD,hM]
  have hlt:aH n.entries s<(M).length:=by omega
  have hg:=ov hlt;have hq:((M).map ZE).set (aH n.entries s) [.str s,.int .i64 f]=(bb n.entries s f).map ZE:=by
   rw[←hS,List.map_set];rfl
  refine wR ?_;refine wN tK 6 ?_;refine wNq tK 1 ?_ ?_
  ·exact ⟨by simp,by omega,by omega⟩
  refine wNq tK 1 ?_ ?_
  ·exact ⟨by simp,by omega⟩
  simp only[go_sem,hg,hq];refine ZZ 207 rfl (fk _) ?_;have hr:ZN (aZ n s f)=[.int .i64 n.fid,.bool n.dir,.sl (n.data.map ZY),.sl ((bb n.entries s f).map ZE),.int .i64 n.version]:=rfl;rw[hr];have hE2:=Zt (l:=(bb n.entries s f).map ZE) (i:=(bb n.entries s f).length) w7;simp only[go_sem,←hE,hE2];refine wG tK ?_;refine wT ?_;simp
 ·have hat:isE n.entries s=true:=by simpa using h
  have hpl:aH n.entries s<n.entries.length:=by
   unfold isE at hat;rw[Bool.and_eq_true] at hat;exact of_decide_eq_true hat.1
  have hS:n.entries.set (aH n.entries s) ⟨s,f⟩=bb n.entries s f:=by
   unfold bb;rw[hat,if_pos rfl]
  have hE:(bb n.entries s f).length=n.entries.length:=by rw[←hS,WD]
  have hlt:aH n.entries s<(n.entries).length:=by omega
  have hg:=ov hlt;have hq:((n.entries).map ZE).set (aH n.entries s) [.str s,.int .i64 f]=(bb n.entries s f).map ZE:=by
   rw[←hS,List.map_set];rfl
  refine wR ?_;refine wN tK 6 ?_;refine wNq tK 1 ?_ ?_
  ·exact ⟨by simp,by omega,by omega⟩
  refine wNq tK 1 ?_ ?_
  ·exact ⟨by simp,by omega⟩
  simp only[go_sem,hg,hq];refine ZZ 1000 rfl (fk _) ?_;have hr:ZN (aZ n s f)=[.int .i64 n.fid,.bool n.dir,.sl (n.data.map ZY),.sl ((bb n.entries s f).map ZE),.int .i64 n.version]:=rfl;rw[hr];have hE2:=Zt (l:=(bb n.entries s f).map ZE) (i:=(bb n.entries s f).length) w7;simp only[go_sem,←hE,hE2];refine wG tK ?_;refine wT ?_;simp
theorem hold {K H:List (Nat×Blk)} (h:∀p,p∈K->aa H p.1=some p.2):∀i b,aa K i=some b->aa H i=some b:=λi b hb=>h (i,b) (aA hb)
theorem bT {a b:Nat} {x y:Blk} {H:List (Nat×Blk)} (h1:aa H a=some x) (h2:aa H b=some y):∀i c,(if a=i then some x else if b=i then some y else none)=some c->aa H i=some c:=λi c hc=>by
 by_cases e1:a=i
 ·subst e1;rw[if_pos rfl] at hc;rw[h1,hc]
 ·rw[if_neg e1] at hc
  by_cases e2:b=i
  ·subst e2;rw[if_pos rfl] at hc;rw[h2,hc]
  ·rw[if_neg e2] at hc;cases hc
def aN (l:List Node) (k:Int):Node:=(al l k).getD aC
def lp (l:List Node) (k:Int):Int:=match al l k with
 | none=>12
 | some n=>if n.dir then 0 else 8
def eB (n:Node) (s:List UInt8):Int:=if de s then (if isE n.entries s then 7 else if n.entries.length≥6 then 5 else 0) else 7
def ZD (l:List Node) (a:Act) (v:Int):List AV:=[.sl (l.map ZN),.int .i64 a.kind,.int .i64 a.fid,.int .i64 a.dir,.str a.name,.int .i64 a.to,.str a.toName,.sl (a.data.map ZY),.int .i64 v]
@[go_sem,simp] theorem Dt (l:List Node) (a:Act) (v:Int):av (ZD l a v)=[]:=rfl
def dH (R:List AV) (G Y N:Nat->Nat):List (Nat×Blk):=[(15,.cells 228 9 [R])]++pins [15] G Y N
theorem zu (n:Node) (s:List UInt8) (hn:n.Small) (hs:s.length≤100000000):ae Tryz.prog 175 [.agg (ZN n),.str s] [] (λr _=>r=.int .i64 (eB n s)):=by
 have hlen:=hn.entries;refine ZF tK (Tryz.func175) rfl (λC=>?_);simp only[Tryz.ntmps175,Tryz.results175,go_sem];refine wGq tK ?_ ?_ w3
 ·simp
 refine wC Tryz.func139 (hf:=(zi s hs)) (hk:=?_);refine wG tK ?_;refine wD (λh=>?_) (λh=>?_)
 ·have h0:de s=false:=by simpa using h
  refine wG tK ?_;refine wT ?_;simp[eB,h0]
 have h0:de s=true:=by simpa using h
 refine wGq tK ?_ ?_ w3
 ·simp[ZN]
 refine wC Tryz.func104 (hf:=(iz n s hn)) (hk:=?_);cases he:isE n.entries s with
 | true=>
  have e1:bJ n s=some (n.entries.getD (aH n.entries s) default).fid:=by unfold bJ;rw[if_pos he]
  rw[e1];simp only[dp];refine wG tK ?_;refine wD (λh=>?_) (λh=>?_)
  ·refine wG tK ?_;refine wT ?_;simp[eB,h0,he]
  ·cases h
 | false=>
  have e1:bJ n s=none:=by unfold bJ;rw[if_neg QG]
  rw[e1];simp only[dp];refine wG tK ?_;refine wD (λh=>?_) (λh=>?_)
  ·cases h
  refine wGq tK ?_ ?_ w3
  ·simp[ZN]
  refine wD (λh=>?_) (λh=>?_)
  ·have h6:6≤n.entries.length:=by simp at h;omega
   refine wG tK ?_;refine wT ?_;simp[eB,h0,he,h6]
  ·have h6:¬6≤n.entries.length:=by simp at h;omega
   refine wG tK ?_;refine wT ?_;simp[eB,h0,he,h6]
theorem xw (l:List Node) (a:Act) (v k:Int) (hl:Small l) (G Y N:Nat->Nat):ae Tryz.prog 174 [.ptr 15 9 0 0,.int .i64 k] (dH (ZD l a v) G Y N)
  (λr H=>r=.tup [.agg (ZN (aN l k)),.int .i64 (lp l k)]/\∀i b,aa (dH (ZD l a v) G Y N) i=some b->aa H i=some b):=by
 unfold dH;refine ZF tK (Tryz.func174) rfl (λC=>?_);simp only[Tryz.ntmps174,Tryz.results174,go_sem];refine wGq tK ?_ ?_ y6
 ·simp[ZD]
 refine wC Tryz.func82 (hf:=(cA l k hl)) (hk:=?_);simp only[go_sem,eu];rw[dd];unfold aN lp;generalize al l k=o;cases o with
 | none=>
  simp only[Option.getD_none,Option.isSome_none];refine wGq tK ?_ ?_ QJ
  ·simp[ZN]
  refine wD (λh=>?_) (λh=>?_)
  ·refine wGq tK ?_ ?_ QJ
   ·simp[ZN]
   refine wU ?_ (bT ?_ ?_)
   ·simp[ZN,aC]
   ·simp[go_sem,ZD]
   ·simp[go_sem]
  ·cases h
 | some n=>
  simp only[Option.getD_some,Option.isSome_some];refine wGq tK ?_ ?_ w3
  ·simp[ZN]
  refine wD (λh=>?_) (λh=>?_)
  ·cases h
  refine wGq tK ?_ ?_ w3
  ·simp[ZN]
  refine wD (λh=>?_) (λh=>?_)
  ·have hd:n.dir=false:=by simpa using h
   refine wGq tK ?_ ?_ w3
   ·simp[ZN]
   refine wU ?_ (bT ?_ ?_)
   ·simp[ZN,hd]
   ·simp[go_sem,ZD]
   ·simp[go_sem]
  ·have hd:n.dir=true:=by simpa using h
   refine wGq tK ?_ ?_ w3
   ·simp[ZN]
   refine wU ?_ (bT ?_ ?_)
   ·simp[ZN,hd]
   ·simp[go_sem,ZD]
   ·simp[go_sem]
theorem oa (l:List Node) (a:Act) (v:Int) (n:Node) (hl:Small l) (hn:n.Small) (G Y N:Nat->Nat):ae Tryz.prog 176 [.ptr 15 9 0 0,.agg (ZN n)] (dH (ZD l a v) G Y N)
  (λr H=>r=.tup []/\∀i b,aa (dH (ZD (aI l { n with version:=v }) a v) G Y N) i=some b->aa H i=some b):=by
 have hp:=Hq l ({ n with version:=v }:Node) hl ⟨hn.data,hn.entries⟩;unfold dH;refine ZF tK (Tryz.func176) rfl (λC=>?_);simp only[Tryz.ntmps176,Tryz.results176,go_sem];refine wGq tK ?_ ?_ u3
 ·simp[ZD]
 refine ZZ 3 rfl (rfl) ?_;simp only[go_sem];refine ZW ZM ?_;refine ZS rfl ?_;refine sG tK ?_;refine sC Tryz.func207 (hf:=(hp)) (hk:=?_);refine sG tK ?_;refine sE ?_;refine dS tK ?_;refine wKd ?_
 try simp only[go_sem,gA,gB,gC]
 refine fF ⟨_,_,rfl,trivial,.tup [],.inr (.inl rfl),rfl,bT ?_ ?_⟩
 ·simp[go_sem,ZD]
 ·simp[go_sem]
theorem rG (a b:List UInt8):ae Tryz.prog 123 [.sl (a.map ZY),.sl (b.map ZY)] [] (λr _=>r=.bool (a==b)):=by
 refine ZF tK (Tryz.func123) rfl (λC=>?_);simp only[Tryz.ntmps123,Tryz.results123,go_sem];refine wGq tK ?_ ?_
 ·simp
 refine wT ?_;simp
theorem Bc {α:Type} [Inhabited α] [DecidableEq α] {a b:List α} {i:Nat} (h:a.take i=b.take i) (ha:i<a.length) (hb:i<b.length) (e:a.getD i default=b.getD i default):a.take (i+1)=b.take (i+1):=by
 rw[ZT ha,ZT hb,h,e]
theorem Bb {α:Type} [Inhabited α] {a b:List α} {i:Nat} (e:¬a.getD i default=b.getD i default):a≠b:=by rintro rfl;exact e rfl
theorem oY (a b:List Entry) (ha:a.length≤100000000) (hb:b.length≤100000000):ae Tryz.prog 124 [.sl (a.map ZE),.sl (b.map ZE)] [] (λr _=>r=.bool (decide (a=b))):=by
 refine ZF tK (Tryz.func124) rfl (λC=>?_);simp only[Tryz.ntmps124,Tryz.results124,go_sem];refine wG tK ?_;refine wD (λh=>?_) (λh=>?_)
 ·have hne:a≠b:=by rintro rfl;simp at h
  refine wG tK ?_;refine wT ?_;simp[hne]
 have hl:a.length=b.length:=by simp at h;omega
 refine wG tK ?_;refine ZL (λi:Nat=>i≤a.length/\a.take i=b.take i) (λi=>a.length-i) (λi=>(5,.any)::(13,.int .i64 i)::u0 14 12 []) (λ_=>[]) 0 ⟨by omega,by simp⟩ ?_ λi hi=>?_
 ·simp only[go_sem];exact ZU w1 w1 w1
 obtain ⟨hi,hs⟩:=hi;simp only[go_sem];refine wG tK ?_;refine wD (λh=>?_) (λh=>?_)
 ·have hlt:i<a.length:=by simp at h;omega
  have hltb:i<b.length:=by omega
  have hga:(a.map ZE).getD i []=ZE (a.getD i default):=Fam.getD hlt;have hgb:(b.map ZE).getD i []=ZE (b.getD i default):=Fam.getD hltb;have htk:=Bc hs hlt hltb;have htd:=Bb (a:=a) (b:=b) (i:=i);generalize a.getD i default=x at hga htk htd;generalize b.getD i default=y at hgb htk htd;refine wG tK ?_;refine ZW ZM ?_;refine ZS rfl ?_;refine sNq tK 8 ?_ ?_ z6 z6 (by simp only[go_sem,hga,hgb,ZE];try exact rfl)
  ·simp[hga,hgb,ZE,hlt,hltb]
  refine sE ?_;refine ek rfl w8 rfl (wZ tK rfl (tys:=[9,3]) w8 z8 z8 z6 (by first | exact .inl ⟨rfl,rfl⟩ | exact .inr ⟨rfl,rfl⟩)) rfl ?_;refine wKd ?_;have hxy:(x.name==y.name&&x.fid==y.fid)=decide (x=y):=by
   obtain ⟨n1,f1⟩:=x;obtain ⟨n2,f2⟩:=y
   by_cases h1:n1=n2<;>by_cases h2:f1=f2<;>simp[h1,h2]
  simp only[go_sem,Bool.and_true,hxy];refine wG tK ?_;refine wD (λh=>?_) (λh=>?_)
  ·have hne:x≠y:=by simpa using h
   have:=htd hne;refine wG tK ?_;refine wT ?_;simp[this]
  ·have heq:x=y:=by simpa using h
   have hw:=wi1 (i:=i) z7;refine wG tK ?_ w6 k0;refine ZB ⟨i+1,⟨by omega,htk heq⟩,by omega,ZU ?_ ?_ ?_⟩
   ·simp[go_sem];exact hw
   ·simp[go_sem]
   ·simp[go_sem]
 ·have e:i=a.length:=by simp at h;omega
  have hab:a=b:=by
   rw[e,Zy,hl,Zy] at hs;exact hs
  refine wG tK ?_;refine wT ?_;simp[hab]
def dM (v:Bool) (a b:Node):Bool:=a.fid==b.fid&&a.dir==b.dir&&a.data==b.data&&decide (a.entries=b.entries)&&(!v||a.version==b.version)
theorem lI {l:List Node} (hl:Small l) {n:Node} (hn:n.Small) (hlen:l.length≤99999999):Small (aI l n):=by
 refine ⟨by have:=oN l n;omega,λx hx=>?_⟩;unfold aI at hx;split at hx
 ·rcases WU hx with h | rfl
  ·exact hl.each x h
  ·exact hn
 ·rcases List.mem_append.1 hx with h | h
  ·exact hl.each x (Z3 h)
  ·rcases List.mem_cons.1 h with rfl | h
   ·exact hn
   ·exact hl.each x (WS h)
theorem mn {n:Node} (hn:n.Small) (s:List UInt8) (f:Int) (h:n.entries.length≤99999999):(aZ n s f).Small:=by
 refine ⟨hn.data,?_⟩
 show (bb n.entries s f).length≤_
 unfold bb;split
 ·simp;omega
 ·have:=nF n.entries s;simp;omega
theorem mF {n:Node} (hn:n.Small) (s:List UInt8):(aM n s).Small:=
 ⟨hn.data,by
  have:=Z5 (λe:Entry=>!(e.name==s)) n.entries;have:=hn.entries
  show (ct n.entries s).length≤_
  unfold ct;omega⟩
def ee (l:List Node) (a:Act):Int:=if lp l a.dir=0 then (match bJ (aN l a.dir) a.name with
 | none=>6
 | some f=>if f=a.fid then 0 else 13) else lp l a.dir
theorem vR (l:List Node) (a:Act) (v:Int) (hl:Small l) (hname:a.name.length≤100000000) (G Y N:Nat->Nat):ae Tryz.prog 178 [.ptr 15 9 0 0] (dH (ZD l a v) G Y N)
  (λr H=>r=.tup [.agg (ZN (aN l a.dir)),.int .i64 (ee l a)]/\∀i b,aa (dH (ZD l a v) G Y N) i=some b->aa H i=some b):=by
 have hsm:(aN l a.dir).Small:=hl.find a.dir;unfold ee;unfold dH;refine ZF tK (Tryz.func178) rfl (λC=>?_);simp only[Tryz.ntmps178,Tryz.results178,go_sem];refine wGq tK ?_ ?_ y6
 ·simp[ZD]
 refine wP [15] Tryz.func174 (hf:=(xw l a v a.dir hl)) (hk:=?_);generalize hgn:aN l a.dir=n at hsm;generalize hge:lp l a.dir=e;refine wGq tK ?_ ?_ w3
 ·simp[ZN]
 refine wD (λh=>?_) (λh=>?_)
 ·have he:e≠0:=by simpa using h
  refine wGq tK ?_ ?_ w3
  ·simp[ZN]
  refine wU ?_ (bT ?_ ?_)
  ·simp[ZN,he]
  ·simp[go_sem,ZD]
  ·simp[go_sem]
 have he:e=0:=by simpa using h
 subst he;refine wG tK ?_;refine ZW ZM ?_;refine ZS rfl ?_;refine sNq tK 6 ?_ ?_ z6 z6 n9
 ·simp[ZN,ZD]
 refine sC Tryz.func104 (hf:=(iz n a.name hsm)) (hk:=?_);cases hen:bJ n a.name with
 | none=>
  simp only[dp];refine sG tK ?_;refine sE ?_;refine wKd ?_
  try simp only[go_sem,gA,gB,gC]
  refine wG tK ?_;refine wD (λh=>?_) (λh=>?_)
  ·refine wGq tK ?_ ?_ w3
   ·simp[ZN]
   refine wU ?_ (bT ?_ ?_)
   ·simp[ZN]
   ·simp[go_sem,ZD]
   ·simp[go_sem]
  ·cases h
 | some f=>
  simp only[dp];refine sG tK ?_;refine sE ?_;refine wKd ?_
  try simp only[go_sem,gA,gB,gC]
  refine wG tK ?_;refine wD (λh=>?_) (λh=>?_)
  ·cases h
  refine wGq tK ?_ ?_ y6
  ·simp[ZD]
  refine wD (λh=>?_) (λh=>?_)
  ·have hf:¬f=a.fid:=by simpa using h
   refine wGq tK ?_ ?_ w3
   ·simp[ZN]
   refine wU ?_ (bT ?_ ?_)
   ·simp[ZN,hf]
   ·simp[go_sem,ZD]
   ·simp[go_sem]
  ·have hf:f=a.fid:=by simpa using h
   refine wGq tK ?_ ?_ w3
   ·simp[ZN]
   refine wU ?_ (bT ?_ ?_)
   ·simp[ZN,hf]
   ·simp[go_sem,ZD]
   ·simp[go_sem]
def gv (l:List Node) (a:Act):Int:=if lp l a.dir=0 then (if eB (aN l a.dir) a.name=0 then (if (bn l a.fid||a.fid==0)=true then 13 else if l.length≥24 then 5 else 0) else eB (aN l a.dir) a.name) else lp l a.dir
def ey (a:Act) (v:Int):Node:=⟨a.fid,a.kind==2,[],[],v⟩
def dL (l:List Node) (a:Act) (v:Int):List Node:=if gv l a=0 then aI (aI l { aZ (aN l a.dir) a.name a.fid with version:=v }) (ey a v) else l
theorem EV (l:List Node) (a:Act) (v:Int) (hl:Small l) (hlen:l.length≤99999990) (hent:∀n,n∈l->n.entries.length≤99999990) (hname:a.name.length≤100000000) (G Y N:Nat->Nat):ae Tryz.prog 148 [.ptr 15 9 0 0] (dH (ZD l a v) G Y N)
  (λr H=>r=.int .i64 (gv l a)/\∀i b,aa (dH (ZD (dL l a v) a v) G Y N) i=some b->aa H i=some b):=by
 have hsm:(aN l a.dir).Small:=hl.find a.dir;have hen:(aN l a.dir).entries.length≤99999999:=by
  unfold aN;cases e:al l a.dir with
  | none=>simp[aC]
  | some n=>have:=hent n (nH e);simp only[Option.getD_some];omega
 have hmE:dL l a v=if gv l a=0 then aI (aI l { aZ (aN l a.dir) a.name a.fid with version:=v }) (ey a v) else l:=rfl;rw[hmE];unfold gv;unfold dH;refine ZF tK (Tryz.func148) rfl (λC=>?_);simp only[Tryz.ntmps148,Tryz.results148,go_sem];refine wGq tK ?_ ?_ y6
 ·simp[ZD]
 refine wP [15] Tryz.func174 (hf:=(xw l a v a.dir hl)) (hk:=?_);have hee:=uU (aN l a.dir) a.name a.fid hsm;have hes:=mn hsm a.name a.fid hen;have hsv:({ aZ (aN l a.dir) a.name a.fid with version:=v }:Node).Small:=⟨hes.data,hes.entries⟩;have hl1:=lI hl hsv z7;have hp1:=oa l a v (aZ (aN l a.dir) a.name a.fid) hl hes;have hp2:=oa (aI l { aZ (aN l a.dir) a.name a.fid with version:=v }) a v (ey a 0) hl1 ⟨by simp[ey],by simp[ey]⟩;have hmv:({ ey a 0 with version:=v }:Node)=ey a v:=rfl;rw[hmv] at hp2;generalize aI (aI l { aZ (aN l a.dir) a.name a.fid with version:=v }) (ey a v)=l2 at hp2;generalize aI l { aZ (aN l a.dir) a.name a.fid with version:=v }=l1 at hp1 hp2 hl1;have hp3:∀(G Y N:Nat->Nat),ae Tryz.prog 176 [.ptr 15 9 0 0,.agg [.int .i64 a.fid,.bool (a.kind==2),.nils,.nils,.int .i64 0]] (dH (ZD l1 a v) G Y N) (λr H=>r=.tup []/\∀i b,aa (dH (ZD l2 a v) G Y N) i=some b->aa H i=some b):=λG Y N=>ae.nrm rfl (hp2 G Y N)
 generalize aZ (aN l a.dir) a.name a.fid=en at hee hp1;generalize hgn:aN l a.dir=n at hsm hee;generalize hge:lp l a.dir=e;refine wGq tK ?_ ?_ w3
 ·simp[ZN]
 refine wD (λh=>?_) (λh=>?_)
 ·have he:e≠0:=by simpa using h
  refine wG tK ?_;refine wU ?_ (bT ?_ ?_)
  ·simp[he]
  ·simp[go_sem,ZD,he]
  ·simp[go_sem]
 have he:e=0:=by simpa using h
 subst he;simp only[if_true];refine wG tK ?_;refine ZW ZM ?_;refine ZS rfl ?_;refine sNq tK 6 ?_ ?_ z6 z6 n9
 ·simp[ZN,ZD]
 refine sC Tryz.func175 (hf:=(zu n a.name hsm hname)) (hk:=?_);generalize hre:eB n a.name=e2;refine sG tK ?_;refine sE ?_;refine wKd ?_
 try simp only[go_sem,gA,gB,gC]
 refine wG tK ?_;refine wD (λh=>?_) (λh=>?_)
 ·have he:e2≠0:=by simpa using h
  refine wG tK ?_;refine wU ?_ (bT ?_ ?_)
  ·simp[he]
  ·simp[go_sem,ZD,he]
  ·simp[go_sem]
 have he:e2=0:=by simpa using h
 subst he;simp only[if_true];refine wG tK ?_;refine ZW ZM ?_;refine ZS rfl ?_;refine sNq tK 9 ?_ ?_ z6 z6 y6
 ·simp[ZD]
 refine sC Tryz.func82 (hf:=(cA l a.fid hl)) (hk:=?_);simp only[go_sem,eu];generalize (al l a.fid).getD aC=x;generalize bn l a.fid=z;refine sG tK ?_;refine sW tK ?_;simp only[go_sem,ZN];refine sT tK ?_;refine sE ?_;refine dS tK ?_;refine wKd ?_
 try simp only[go_sem,gA,gB,gC]
 refine wR ?_;refine wN tK 1 ?_;refine aV 44 z6 (λc44 h44=>?_);simp only[go_sem];subst h44;cases hz:(z||a.fid==0) with
 | true=>
  refine wNq tK 8 ?_ ?_ z6 z6 y6
  ·cases z<;>simp[ZD]
  have hb:(bif z then true else a.fid==0)=true:=by rw[←hz];cases z<;>rfl
  simp only[go_sem,hb];refine wG tK ?_;refine wD (λh=>?_) (λh=>?_)
  ·refine wG tK ?_;refine wU ?_ (bT ?_ ?_)
   ·simp
   ·simp[go_sem,ZD]
   ·simp[go_sem]
  ·cases h
 | false=>
  refine wNq tK 8 ?_ ?_ z6 z6 y6
  ·cases z<;>simp[ZD]
  have hb:(bif z then true else a.fid==0)=false:=by rw[←hz];cases z<;>rfl
  simp only[go_sem,hb];refine wG tK ?_;refine wD (λh=>?_) (λh=>?_)
  ·cases h
  refine wGq tK ?_ ?_ y6
  ·simp[ZD]
  refine wD (λh=>?_) (λh=>?_)
  ·have h24:l.length≥24:=by simp at h;omega
   refine wG tK ?_;refine wU ?_ (bT ?_ ?_)
   ·simp[h24]
   ·simp[go_sem,ZD,h24]
   ·simp[go_sem]
  have h24:¬l.length≥24:=by simp at h;omega
  simp only[h24,if_false,if_true];refine wG tK ?_;refine ZW ZM ?_;refine ZS rfl ?_;refine sNq tK 12 ?_ ?_ z6 z6 n9
  ·simp[ZN,ZD]
  refine sC Tryz.func177 (hf:=(hee)) (hk:=?_);refine sE ?_;refine ek rfl w8 rfl (wTP [15] Tryz.func176 (hf:=(hp1))) rfl ?_;refine wKd ?_
  try simp only[go_sem,gA,gB,gC]
  refine wG tK ?_;refine ZW ZM ?_;refine ZS rfl ?_;refine sNq tK 12 ?_ ?_ z6 z6 n9
  ·simp[ZN,ZD]
  refine sB tK ?_;refine sE ?_;refine ek rfl w8 rfl (wTP [15] Tryz.func176 (hf:=(hp3))) rfl ?_;refine wKd ?_
  try simp only[go_sem,gA,gB,gC]
  refine wG tK ?_;refine wU ?_ (bT ?_ ?_)
  ·simp
  ·simp[go_sem]
  ·simp[go_sem]
def d_ (l:List Node) (a:Act):Int:=if ee l a=0 then (match al l a.fid with
 | none=>12
 | some x=>if x.entries.length>0 then 10 else 0) else ee l a
def cq (l:List Node) (a:Act) (v:Int):List Node:=if d_ l a=0 then eo (aI l { aM (aN l a.dir) a.name with version:=v }) a.fid else l
theorem AF (l:List Node) (a:Act) (v:Int) (hl:Small l) (hlen:l.length≤99999990) (hname:a.name.length≤100000000) (G Y N:Nat->Nat):ae Tryz.prog 150 [.ptr 15 9 0 0] (dH (ZD l a v) G Y N)
  (λr H=>r=.int .i64 (d_ l a)/\∀i b,aa (dH (ZD (cq l a v) a v) G Y N) i=some b->aa H i=some b):=by
 have hsm:(aN l a.dir).Small:=hl.find a.dir;have hmE:cq l a v=if d_ l a=0 then eo (aI l { aM (aN l a.dir) a.name with version:=v }) a.fid else l:=rfl;rw[hmE];unfold d_;unfold dH;refine ZF tK (Tryz.func150) rfl (λC=>?_);simp only[Tryz.ntmps150,Tryz.results150,go_sem];refine wG tK ?_;refine wP [15] Tryz.func178 (hf:=(vR l a v hl hname)) (hk:=?_);have hee:=vH (aN l a.dir) a.name hsm;have hes:=mF hsm a.name;have hsv:({ aM (aN l a.dir) a.name with version:=v }:Node).Small:=⟨hes.data,hes.entries⟩;have hl1:=lI hl hsv z7;have hp1:=oa l a v (aM (aN l a.dir) a.name) hl hes;have hp2:=Et (aI l { aM (aN l a.dir) a.name with version:=v }) a.fid hl1;generalize eo (aI l { aM (aN l a.dir) a.name with version:=v }) a.fid=l2 at hp2;generalize aI l { aM (aN l a.dir) a.name with version:=v }=l1 at hp1 hp2 hl1;generalize aM (aN l a.dir) a.name=en at hee hp1;generalize hgn:aN l a.dir=n at hsm hee;generalize hge:ee l a=e;refine wGq tK ?_ ?_ w3
 ·simp[ZN]
 refine wD (λh=>?_) (λh=>?_)
 ·have he:e≠0:=by simpa using h
  refine wG tK ?_;refine wU ?_ (bT ?_ ?_)
  ·simp[he]
  ·simp[go_sem,ZD,he]
  ·simp[go_sem]
 have he:e=0:=by simpa using h
 subst he;simp only[if_true];refine wG tK ?_;refine ZW ZM ?_;refine ZS rfl ?_;refine sNq tK 9 ?_ ?_ z6 z6 y6
 ·simp[ZD]
 refine sC Tryz.func82 (hf:=(cA l a.fid hl)) (hk:=?_);simp only[go_sem,eu];rw[dd];cases hfd:al l a.fid with
 | none=>
  simp only[Option.getD_none,Option.isSome_none];refine sG tK ?_;refine sW tK ?_;simp only[go_sem,ZN,aC];refine sT tK ?_;refine sE ?_;refine dS tK ?_;refine wKd ?_
  try simp only[go_sem,gA,gB,gC]
  refine wG tK ?_;refine wD (λh=>?_) (λh=>?_)
  ·refine wG tK ?_;refine wU ?_ (bT ?_ ?_)
   ·simp
   ·simp[go_sem,ZD]
   ·simp[go_sem]
  ·cases h
 | some x=>
  simp only[Option.getD_some,Option.isSome_some];refine sG tK ?_;refine sW tK ?_;simp only[go_sem,ZN];refine sT tK ?_;refine sE ?_;refine dS tK ?_;refine wKd ?_
  try simp only[go_sem,gA,gB,gC]
  refine wG tK ?_;refine wD (λh=>?_) (λh=>?_)
  ·cases h
  refine wG tK ?_;refine wD (λh=>?_) (λh=>?_)
  ·have h0:x.entries.length>0:=by have h2:=of_decide_eq_true h;omega
   refine wG tK ?_;refine wU ?_ (bT ?_ ?_)
   ·simp[h0]
   ·simp[go_sem,ZD,h0]
   ·simp[go_sem]
  have h0:¬x.entries.length>0:=by have h2:=of_decide_eq_false h;omega
  simp only[h0,if_false,if_true];refine wG tK ?_;refine ZW ZM ?_;refine ZS rfl ?_;refine sNq tK 7 ?_ ?_ z6 z6 n9
  ·simp[ZN,ZD]
  refine sC Tryz.func179 (hf:=(hee)) (hk:=?_);refine sE ?_;refine ek rfl w8 rfl (wTP [15] Tryz.func176 (hf:=(hp1))) rfl ?_;refine wKd ?_
  try simp only[go_sem,gA,gB,gC]
  refine wG tK ?_;refine ZW ZM ?_;refine ZS rfl ?_;refine sNq tK 10 ?_ ?_ z6 z6 y6
  ·simp[ZD]
  refine sC Tryz.func180 (hf:=(hp2)) (hk:=?_);refine sNq tK 2 ?_ ?_ z6 z6 y6
  ·simp[ZD]
  refine sE ?_;refine dSq tK ?_ ?_
  ·simp[go_sem,ZD]
  refine wKd ?_
  try simp only[go_sem,gA,gB,gC]
  refine wG tK ?_;refine wU ?_ (bT ?_ ?_)
  ·simp
  ·simp[go_sem,ZD]
  ·simp[go_sem]
def iq (l:List Node) (a:Act):Int:=match al l a.fid with
 | none=>12
 | some n=>if n.dir then 9 else if a.data.length>20 then 4 else 0
def eh (l:List Node) (a:Act) (v:Int):List Node:=if iq l a=0 then aI l { aN l a.fid with data:=a.data,version:=v } else l
theorem Da (l:List Node) (a:Act) (v:Int) (hl:Small l) (ha:a.data.length≤100000000) (G Y N:Nat->Nat):ae Tryz.prog 149 [.ptr 15 9 0 0] (dH (ZD l a v) G Y N)
  (λr H=>r=.int .i64 (iq l a)/\∀i b,aa (dH (ZD (eh l a v) a v) G Y N) i=some b->aa H i=some b):=by
 have hsm:(aN l a.fid).Small:=hl.find a.fid;have hmE:eh l a v=if iq l a=0 then aI l { aN l a.fid with data:=a.data,version:=v } else l:=rfl;rw[hmE];have hp1:=oa l a v { aN l a.fid with data:=a.data } hl ⟨ha,hsm.entries⟩;have hlet:({ ({ aN l a.fid with data:=a.data }:Node) with version:=v }:Node)={ aN l a.fid with data:=a.data,version:=v }:=rfl;rw[hlet] at hp1;generalize aI l { aN l a.fid with data:=a.data,version:=v }=l2 at hp1;unfold iq;unfold aN at hp1;unfold dH;refine ZF tK (Tryz.func149) rfl (λC=>?_);simp only[Tryz.ntmps149,Tryz.results149,go_sem];refine wG tK ?_;refine ZW ZM ?_;refine ZS rfl ?_;refine sNq tK 9 ?_ ?_ z6 z6 y6
 ·simp[ZD]
 refine sC Tryz.func82 (hf:=(cA l a.fid hl)) (hk:=?_);simp only[go_sem,eu];rw[dd];cases hfd:al l a.fid with
 | none=>
  simp only[Option.getD_none,Option.isSome_none];refine sG tK ?_;refine sW tK ?_;simp only[go_sem,ZN,aC];refine sT tK ?_;refine sE ?_;refine dS tK ?_;refine wKd ?_
  try simp only[go_sem,gA,gB,gC]
  refine wG tK ?_;refine wD (λh=>?_) (λh=>?_)
  ·refine wG tK ?_;refine wU ?_ (bT ?_ ?_)
   ·simp
   ·simp[go_sem,ZD]
   ·simp[go_sem]
  ·cases h
 | some x=>
  rw[hfd] at hp1;simp only[Option.getD_some,Option.isSome_some] at hp1 ⊢;refine sG tK ?_;refine sW tK ?_;simp only[go_sem,ZN];refine sT tK ?_;refine sE ?_;refine dS tK ?_;refine wKd ?_
  try simp only[go_sem,gA,gB,gC]
  refine wG tK ?_;refine wD (λh=>?_) (λh=>?_)
  ·cases h
  refine wG tK ?_;refine wD (λh=>?_) (λh=>?_)
  ·have h0:x.dir=true:=h;refine wG tK ?_;refine wU ?_ (bT ?_ ?_)
   ·simp[h0]
   ·simp[go_sem,ZD,h0]
   ·simp[go_sem]
  have h0:x.dir=false:=h;refine wGq tK ?_ ?_ y6
  ·simp[ZD]
  refine wD (λh=>?_) (λh=>?_)
  ·have h1:a.data.length>20:=by simp at h;omega
   refine wG tK ?_;refine wU ?_ (bT ?_ ?_)
   ·simp[h0,h1]
   ·simp[go_sem,ZD,h0,h1]
   ·simp[go_sem]
  have h1:¬a.data.length>20:=by simp at h;omega
  have hs0:(if x.dir=true then (9:Int) else if a.data.length>20 then 4 else 0)=0:=by simp[h0,h1]
  simp only[hs0,if_true];refine wGq tK ?_ ?_ y6
  ·simp[ZD]
  refine wP [15] Tryz.func176 (hf:=(hp1)) (hk:=?_);refine wG tK ?_;refine wU ?_ (bT ?_ ?_)
  ·simp
  ·simp[go_sem,ZD]
  ·simp[go_sem]
def eU (v:Bool):List Node->List Node->Bool
 | [],[]=>true
 | x::a,y::b=>dM v x y&&eU v a b
 | _,_=>false
theorem iQ (v:Bool):∀(a b:List Node),eU v a b=true↔a.length=b.length/\∀j,j<a.length->dM v (a.getD j default) (b.getD j default)=true
 | [],[]=>by simp[eU]
 | [],_::_=>by simp[eU]
 | _::_,[]=>by simp[eU]
 | x::a,y::b=>by
  rw[eU,Bool.and_eq_true,iQ v a b];constructor
  ·rintro ⟨h1,h2,h3⟩;refine ⟨by simp[h2],λj hj=>?_⟩;cases j with
   | zero=>simpa using h1
   | succ j=>simpa using h3 j u6
  ·rintro ⟨h2,h3⟩;refine ⟨by simpa using h3 0 w7,by simpa using h2,λj hj=>by simpa using h3 (j+1) u6⟩
theorem CA:ae Tryz.prog 52 [] [] (λr _=>r=.sl [[.int .i64 0,.bool true,.nils,.nils,.int .i64 0]]):=by
 refine ZF tK (Tryz.func52) rfl (λC=>?_);simp only[Tryz.ntmps52,Tryz.results52,go_sem];refine wG tK ?_;refine ZZ 2 rfl (rfl) ?_;simp only[go_sem];refine wT ?_;rfl
def aS (l:List Node) (fid:Int):Nat->Int->Option Bool
 | 0,_=>none
 | f+1,k=>if fid=k then some true else match al l k with
  | none=>some false
  | some n=>if n.entries.all (λe=>decide (e.fid=k)||(aS l fid f e.fid).isSome) then some (n.entries.any λe=>!(decide (e.fid=k))&&(aS l fid f e.fid).getD false) else none
theorem xe (l:List Node) (fid k:Int) (e:Entry) (b:Bool) (h:e.fid≠k->ae Tryz.prog 181 [.sl (l.map ZN),.int .i64 fid,.int .i64 e.fid] [] (λr _=>r=.bool b)) :
  ae Tryz.prog 215 [.agg (ZE e),.rp [.int .i64 k] 0,.rp [.sl (l.map ZN)] 0,.rp [.int .i64 fid] 0] [] (λr _=>r=.bool (!(decide (e.fid=k))&&b)):=by
 unfold ZE;refine ZF tK (Tryz.func215) rfl (λC=>?_);simp only[Tryz.ntmps215,Tryz.results215,go_sem];refine wR ?_;refine wN tK 2 ?_;refine wR ?_;refine ZZ 4 rfl (rfl) ?_;simp only[go_sem];refine wN tK 4 ?_;refine aV 9 z6 (λc9 h9=>?_);simp only[go_sem];cases c9 with
 | true=>
  have hne:e.fid≠k:=by simpa using h9
  refine wG tK ?_;refine wCC Tryz.func181 (hf:=λhb=>(h hne)) (hk:=?_);refine wG tK ?_;refine wT ?_;simp[hne]
 | false=>
  have hne:e.fid=k:=by simpa using h9
  refine wG tK ?_;refine fj (.bool false) rfl ?_;simp only[go_sem];refine wG tK ?_;refine wT ?_;simp[hne]
theorem xf (l:List Node) (hl:Small l) (fid:Int) (f:Nat) (ih:∀(k:Int) (b:Bool),aS l fid f k=some b->ae Tryz.prog 181 [.sl (l.map ZN),.int .i64 fid,.int .i64 k] [] (λr _=>r=.bool b)) (k:Int) (b:Bool) (hb:aS l fid (f+1) k=some b) :
  ae Tryz.prog 181 [.sl (l.map ZN),.int .i64 fid,.int .i64 k] [] (λr _=>r=.bool b):=by
 unfold aS at hb;refine ZF tK (Tryz.func181) rfl (λC=>?_);simp only[Tryz.ntmps181,Tryz.results181,go_sem];refine wG tK ?_;refine wD (λh=>?_) (λh=>?_)
 ·have e:fid=k:=by simpa using h
  rw[if_pos e] at hb;refine wG tK ?_;refine wT ?_;simpa using hb
 have e:¬fid=k:=by simpa using h
 rw[if_neg e] at hb;refine ZZ 3 rfl (rfl) ?_;refine ZZ 4 rfl (rfl) ?_;refine ZZ 5 rfl (rfl) ?_;simp only[go_sem];refine wG tK ?_;refine wC Tryz.func82 (hf:=(cA l k hl)) (hk:=?_);have hsm:=hl.find k;simp only[go_sem,eu];rw[dd];generalize hfd:al l k=o at hb hsm;cases o with
 | none=>
  simp only[Option.getD_none,Option.isSome_none] at hb ⊢;refine wGq tK ?_ ?_ QJ
  ·simp[ZN]
  refine wD (λh=>?_) (λh=>?_)
  ·refine wG tK ?_;refine wT ?_;simpa using hb
  ·cases h
 | some n=>
  simp only[Option.getD_some,Option.isSome_some] at hb hsm ⊢;split at hb
  ·rename_i hall;injection hb with hb
   have hcl:=lr n.entries hsm.entries (f:=215) (caps:=[.rp [.int .i64 k] 0,.rp [.sl (l.map ZN)] 0,.rp [.int .i64 fid] 0]) (p:=λe=>!(decide (e.fid=k))&&(aS l fid f e.fid).getD false) ⟨_,Go.Proofs.Tryz.func215,by kernel_rfl,rfl⟩ rfl (λx hx=>xe l fid k x ((aS l fid f x.fid).getD false) (λhne=>by
    have h1:=List.all_eq_true.1 hall x hx;simp only[hne,decide_false,Wj] at h1;cases h2:aS l fid f x.fid with
    | none=>rw[h2] at h1;cases h1
    | some c=>exact ih x.fid c h2))
   refine wGq tK ?_ ?_ w3
   ·simp[ZN]
   refine wD (λh=>?_) (λh=>?_)
   ·cases h
   refine wGq tK ?_ ?_ w3
   ·simp[ZN]
   refine wC Tryz.func214 (hf:=(hcl)) (hk:=?_);refine wG tK ?_;refine wT ?_;simpa using hb
  ·cases hb
theorem tl (l:List Node) (hl:Small l) (fid:Int):∀(f:Nat) (k:Int) (b:Bool),aS l fid f k=some b->ae Tryz.prog 181 [.sl (l.map ZN),.int .i64 fid,.int .i64 k] [] (λr _=>r=.bool b)
 | 0,_,_,h=>by cases h
 | f+1,k,b,h=>xf l hl fid f (tl l hl fid f) k b h
theorem AR (a b:Node) (ha:a.Small) (hb:b.Small):ae Tryz.prog 122 [.agg (ZN a),.agg (ZN b)] [] (λr _=>r=.bool (dM false a b)):=by
 have hla:=ha.entries;have hlb:=hb.entries;unfold ZN;refine ZF tK (Tryz.func122) rfl (λC=>?_);simp only[Tryz.ntmps122,Tryz.results122,go_sem];refine wR ?_;refine wN tK 3 ?_;refine wR ?_;refine ZZ 2 rfl (rfl) ?_;refine ZZ 3 rfl (rfl) ?_;simp only[go_sem];refine wN tK 5 ?_;refine aV 9 z6 (λc9 h9=>?_);simp only[go_sem];refine wN tK 7 ?_;refine aV 16 z6 (λc16 h16=>?_);simp only[go_sem];refine wN tK 5 ?_;refine wCC Tryz.func123 (hf:=λhb=>(rG a.data b.data)) (hk:=?_);refine wN tK 1 ?_;refine aV 23 z6 (λc23 h23=>?_);simp only[go_sem];refine wN tK 5 ?_;refine wCC Tryz.func124 (hf:=λhb=>(oY a.entries b.entries hla hlb)) (hk:=?_);refine wG tK ?_;refine wT ?_;subst h23 h16 h9;unfold dM;cases (a.fid==b.fid)<;>cases (a.dir==b.dir)<;>cases (a.data==b.data)<;>cases decide (a.entries=b.entries)<;>rfl
end La
