/- Texts of this claim, part 9: SameLog, PTree, PEnt, ModK, Cmp, Ins, Find, Put, Ent. No condition. -/
import Derived.Test.YtmcfbfdonjllaaaGreatDoorZT8
set_option maxRecDepth 10000
set_option maxHeartbeats 4000000
set_option linter.unusedSimpArgs false
set_option linter.unusedVariables false
namespace La
open Go Go.Eng Go.Proofs
theorem sD (a b:List Rec) (ha:a.length≤100000000) (hb:b.length≤100000000):ae Tryz.prog 56 [.sl (a.map ZR),.sl (b.map ZR)] [] (λr _=>r=.bool (decide (a=b))):=by
 refine ZF tK (Tryz.func56) rfl (λC=>?_);simp only[Tryz.ntmps56,Tryz.results56,go_sem];refine wG tK ?_;refine wD (λh=>?_) (λh=>?_)
 ·refine wG tK ?_;refine wT ?_;have hne:a≠b:=by rintro rfl;simp at h
  simp[hne]
 have hl:a.length=b.length:=by simp at h;omega
 refine wG tK ?_;refine ZL (λi:Nat=>i≤a.length/\a.take i=b.take i) (λi=>a.length-i) (λi=>(13,.int .i64 i)::(5,.any)::u0 14 41 []) (λ_=>[]) 0 ⟨by omega,rfl⟩ ?_ λi hi=>?_
 ·simp only[go_sem];exact ZU w3 w3 s7
 obtain ⟨hi,ht⟩:=hi;simp only[go_sem];refine wG tK ?_;refine wD (λh=>?_) (λh=>?_)
 ·have hlt:i<a.length:=by simp at h;omega
  have hltb:i<b.length:=by omega
  have hg:(a.map ZR).getD i []=ZR (a.getD i default):=Fam.getD hlt;have hgb:(b.map ZR).getD i []=ZR (b.getD i default):=Fam.getD hltb;refine wG tK ?_;refine ZW ZM ?_;refine ZS rfl ?_;have ga:=ZT hlt;have gb:=ZT hltb;generalize a.getD i default=x at hg ga;generalize b.getD i default=y at hgb gb;refine sN tK 1 ?_ z6 z6 y8 k6;refine sN tK 1 ?_ z6 z6 y8 k6;refine sN tK 1 ?_ z6 z6 y8 k6;refine sN tK 1 ?_ z6 z6 y8 k6;refine sN tK 1 ?_ z6 z6 y8 k6;refine sN tK 1 ?_ z6 z6 y8 k6;refine sN tK 1 ?_ z6 z6 y8 k6;refine sN tK 1 ?_ z6 z6 y8 k6;refine sN tK 1 ?_ z6 z6 y8 k6;refine sN tK 1 ?_ z6 z6 y8 k6;refine sN tK 1 ?_ z6 z6 y8 k6;refine sN tK 1 ?_ z6 z6 y8 k6;generalize h1:(x.version != y.version)=c1;refine sN tK 1 ?_ z6 z6 y8 k6;refine sN tK 1 ?_ z6 z6 y8 k6;refine sN tK 1 ?_ z6 z6 y8 k6;refine sN tK 1 ?_ z6 z6 y8 k6;refine sN tK 1 ?_ z6 z6 y8 k6;refine sN tK 1 ?_ z6 z6 y8 k6;refine sN tK 1 ?_ z6 z6 y8 k6;refine sN tK 1 ?_ z6 z6 y8 k6;refine sN tK 1 ?_ z6 z6 y8 k6;refine sN tK 1 ?_ z6 z6 y8 k6;refine sN tK 1 ?_ z6 z6 y8 k6;refine sN tK 1 ?_ z6 z6 y8 k6;refine sN tK 1 ?_ z6 z6 y8 k6;generalize h2:(bif c1 then true else x.id != y.id)=c2;refine sN tK 1 ?_ z6 z6 y8 k6;refine sN tK 1 ?_ z6 z6 y8 k6;refine sN tK 1 ?_ z6 z6 y8 k6;refine sN tK 1 ?_ z6 z6 y8 k6;refine sN tK 1 ?_ z6 z6 y8 k6;refine sN tK 1 ?_ z6 z6 y8 k6;refine sN tK 1 ?_ z6 z6 y8 k6;refine sN tK 1 ?_ z6 z6 y8 k6;refine sN tK 1 ?_ z6 z6 y8 k6;refine sN tK 1 ?_ z6 z6 y8 k6;refine sCC Tryz.func88 (hf:=λhb=>(sA x.act y.act)) (hk:=?_);refine sN tK 1 ?_;refine sN tK 1 ?_;refine sE ?_;refine wKd ?_;have hx:(x=y)↔((bif c2 then true else !decide (x.act=y.act))=false):=by
   subst h2 h1;obtain ⟨xa,xv,xi⟩:=x;obtain ⟨ya,yv,yi⟩:=y;simp only[Rec.mk.injEq,Bool.cond_eq_ite]
   by_cases e1:xv=yv<;>by_cases e2:xi=yi<;>simp[e1,e2]
  refine wD (λh=>?_) (λh=>?_)
  ·refine wG tK ?_;refine wT ?_;have hne:a≠b:=by
    intro he;rw[←he,ga] at gb;have e:=List.append_cancel_left gb;injection e with e
    rw[hx.1 e] at h;cases h
   simp[hne]
  ·refine wG tK ?_;have hw:IntKind.i64.wrap ((i:Int)+1)=(i:Int)+1:=wrap_small z8 z8;refine ZB ⟨i+1,⟨by omega,by rw[ga,gb,ht,hx.2 h]⟩,by omega,ZU ?_ ?_ ?_⟩
   ·simp[go_sem,hw]
   ·simp[go_sem]
   ·simp only[go_sem]
 ·have e:i=a.length:=by simp at h;omega
  refine wG tK ?_;refine wT ?_;have:a=b:=by
   rw[e,Wo,hl,Wo] at ht;exact ht
  simp[this]
end La
namespace La
def bsearch (lt:Nat->Bool):Nat->Nat->Nat->Nat
 | 0,lo,_=>lo
 | f+1,lo,hi=>if lo<hi then (if lt ((lo+hi) / 2) then bsearch lt f ((lo+hi) / 2+1) hi else bsearch lt f lo ((lo+hi) / 2)) else lo
theorem ib (lt:Nat->Bool):∀(f g lo hi:Nat),hi-lo≤f->hi-lo≤g->bsearch lt f lo hi=bsearch lt g lo hi
 | 0,0,_,_,_,_=>rfl
 | 0,g+1,lo,hi,h,_=>by
  unfold bsearch;rw[if_neg z8]
 | f+1,0,lo,hi,_,h=>by
  unfold bsearch;rw[if_neg z8]
 | f+1,g+1,lo,hi,h1,h2=>by
  unfold bsearch
  by_cases h:lo<hi
  ·rw[if_pos h,if_pos h]
   by_cases hl:lt ((lo+hi) / 2)=true
   ·rw[if_pos hl,if_pos hl];exact ib lt f g _ _ z8 z8
   ·rw[if_neg hl,if_neg hl];exact ib lt f g _ _ z8 z8
  ·rw[if_neg h,if_neg h]
theorem ic (lt:Nat->Bool) (n:Nat) (hmono:∀i j,i≤j->j<n->lt j=true->lt i=true):∀(f lo hi:Nat),hi-lo≤f->lo≤hi->hi≤n->(∀i,i<lo->lt i=true)->(∀i,hi≤i->i<n->lt i=false) ->
  bsearch lt f lo hi≤n/\(∀i,i<bsearch lt f lo hi->lt i=true)/\∀i,bsearch lt f lo hi≤i->i<n->lt i=false
 | 0,lo,hi,h,hle,hn,h1,h2=>by
  have:lo=hi:=by omega
  subst this;exact ⟨hn,h1,h2⟩
 | f+1,lo,hi,h,hle,hn,h1,h2=>by
  unfold bsearch
  by_cases hlt:lo<hi
  ·rw[if_pos hlt]
   by_cases hl:lt ((lo+hi) / 2)=true
   ·rw[if_pos hl];exact ic lt n hmono f _ _ z8 z8 hn (λi hi'=>hmono i ((lo+hi) / 2) z8 z8 hl) h2
   ·rw[if_neg hl];refine ic lt n hmono f _ _ z8 z8 z8 h1 λi hi1 hi2=>?_
    cases e:lt i with
    | false=>rfl
    | true=>exact absurd (hmono _ i hi1 hi2 e) hl
  ·rw[if_neg hlt];have:lo=hi:=by omega
   subst this;exact ⟨hn,h1,h2⟩
theorem ki (lt:Nat->Bool):∀(f lo hi:Nat),lo≤hi->lo≤bsearch lt f lo hi/\bsearch lt f lo hi≤hi
 | 0,lo,hi,h=>⟨Wt _,h⟩
 | f+1,lo,hi,h=>by
  unfold bsearch
  by_cases hlt:lo<hi
  ·rw[if_pos hlt];split
   ·have:=ki lt f ((lo+hi) / 2+1) hi z8;omega
   ·have:=ki lt f lo ((lo+hi) / 2) z8;omega
  ·rw[if_neg hlt];omega
def placeOf (l:List Node) (fid:Int):Nat:=bsearch (λi=>decide ((l.getD i default).fid<fid)) l.length 0 l.length
def bg (l:List Node) (fid:Int):Bool:=decide (placeOf l fid<l.length)&&decide ((l.getD (placeOf l fid) default).fid=fid)
def aj (l:List Node) (fid:Int):Option Node:=if bg l fid then some (l.getD (placeOf l fid) default) else none
def aE (l:List Node) (n:Node):List Node:=if bg l n.fid then l.set (placeOf l n.fid) n else l.take (placeOf l n.fid)++n::l.drop (placeOf l n.fid)
def ez (l:List Node) (fid:Int):List Node:=l.filter λn=>!(n.fid==fid)
theorem kO (l:List Node) (fid:Int):placeOf l fid≤l.length:=(ki _ _ _ _ (Yd _)).2
def Up (l:List Node):Prop:=l.Pairwise λa b=>a.fid<b.fid
theorem Up.lt {l:List Node} (h:Up l) {i j:Nat} (hij:i<j) (hj:j<l.length):(l.getD i default).fid<(l.getD j default).fid:=by
 have:=List.pairwise_iff_getElem.1 h i j z8 hj hij;rw[Wi,Wi,Wj z8,Wj hj];exact this
theorem Up.place {l:List Node} (h:Up l) (fid:Int):(∀i,i<placeOf l fid->(l.getD i default).fid<fid)/\∀i,placeOf l fid≤i->i<l.length->fid≤(l.getD i default).fid:=by
 have:=ic (λi=>decide ((l.getD i default).fid<fid)) l.length (λi j hij hj hl=>by
  rcases Nat.lt_or_eq_of_le hij with h1 | rfl
  ·have:=h.lt h1 hj;have h2:=of_decide_eq_true hl;exact decide_eq_true z8
  ·exact hl) l.length 0 l.length z8 z8 (Wt _) (λi hi=>by omega) (λi h1 h2=>by omega)
 obtain ⟨_,h2,h3⟩:=this;exact ⟨λi hi=>of_decide_eq_true (h2 i hi),λi hi hl=>by have:=of_decide_eq_false (h3 i hi hl);omega⟩
theorem ks {l:List Node} {x:Node} {i:Nat} (h:l[i]? = some x):l.getD i default=x:=by rw[Wi,h];rfl
theorem ZO {l:List Node} (h:Up l) {fid:Int} {x:Node}:aj l fid=some x↔x∈l/\x.fid=fid:=by
 obtain ⟨p1,p2⟩:=h.place fid;unfold aj bg;constructor
 ·intro hf;split at hf
  ·rename_i hc;rw[Bool.and_eq_true] at hc;have h1:=of_decide_eq_true hc.1;have h2:=of_decide_eq_true hc.2;injection hf with hf
   subst hf;exact ⟨YG h1,h2⟩
  ·cases hf
 ·rintro ⟨hx,rfl⟩;obtain ⟨i,hi⟩:=Wu hx;have hil:i<l.length:=(Wp.1 hi).1;have hix:=ks hi;have hpi:placeOf l x.fid=i:=by
   rcases Nat.lt_trichotomy (placeOf l x.fid) i with h1 | h1 | h1
   ·have:=p2 _ (Wt _) z8;have h3:=h.lt h1 hil;rw[hix] at h3;omega
   ·exact h1
   ·have:=p1 i h1;rw[hix] at this;omega
  rw[hpi,hix,if_pos (by simp[hil])]
theorem eB {l:List Node} (h:Up l) {fid:Int}:aj l fid=none↔∀x,x∈l->x.fid≠fid:=by
 constructor
 ·intro hf x hx hxf;rw[(ZO h).2 ⟨hx,hxf⟩] at hf;cases hf
 ·intro hf;cases e:aj l fid with
  | none=>rfl
  | some x=>
   obtain ⟨h1,h2⟩:=(ZO h).1 e;exact absurd h2 (hf x h1)
theorem bl {l:List Node} (h:Up l) (n:Node):Up (aE l n)/\∀x,x∈aE l n↔x=n\/(x∈l/\x.fid≠n.fid):=by
 obtain ⟨p1,p2⟩:=h.place n.fid;have hle:=kO l n.fid;unfold aE;generalize hp:placeOf l n.fid=p at *;have hmem:∀x,x∈l↔x∈l.take p\/x∈l.drop p:=λx=>by
  have:=List.mem_append (a:=x) (s:=l.take p) (t:=l.drop p);rw[Yc] at this;exact this
 have ht:∀x,x∈l.take p->x.fid<n.fid:=λx hx=>by
  obtain ⟨i,hi⟩:=Wu hx;rw[W4] at hi;split at hi
  ·rename_i hip;have:=p1 i hip
   rwa [ks hi] at this
  ·cases hi
 have hd:∀x,x∈l.drop p->n.fid≤x.fid:=λx hx=>by
  obtain ⟨i,hi⟩:=Wu hx;rw[YI] at hi;have:=p2 (p+i) z8 (Wp.1 hi).1
  rwa [ks hi] at this
 by_cases hat:bg l n.fid=true
 ·rw[if_pos hat];unfold bg at hat;rw[Bool.and_eq_true] at hat;have hpl:p<l.length:=by have:=of_decide_eq_true hat.1;omega
  have hpf:(l.getD p default).fid=n.fid:=by have:=of_decide_eq_true hat.2;rw[hp] at this;exact this
  have aQ:l.set p n=l.take p++n::l.drop (p+1):=by
   rw[List.set_eq_take_append_cons_drop,if_pos hpl]
  have hdd:l.drop p=l.getD p default::l.drop (p+1):=b_ hpl;have hd1:∀x,x∈l.drop (p+1)->n.fid<x.fid:=λx hx=>by
   obtain ⟨i,hi⟩:=Wu hx;rw[YI] at hi;have:=h.lt (i:=p) (j:=p+1+i) z8 (Wp.1 hi).1;rw[ks hi,hpf] at this;exact this
  rw[aQ];refine ⟨?_,λx=>?_⟩
  ·refine List.pairwise_append.2 ⟨h.sublist (List.take_sublist _ _),List.pairwise_cons.2 ⟨hd1,h.sublist (List.drop_sublist _ _)⟩,λa ha b hb=>?_⟩
   rcases List.mem_cons.1 hb with rfl | hb
   ·exact ht a ha
   ·have:=ht a ha;have:=hd1 b hb;omega
  ·rw[hmem,hdd];simp only[List.mem_append,List.mem_cons];constructor
   ·rintro (h1 | h1 | h1)
    ·exact .inr ⟨.inl h1,by have:=ht x h1;omega⟩
    ·exact .inl h1
    ·exact .inr ⟨.inr (.inr h1),by have:=hd1 x h1;omega⟩
   ·rintro (h1 | ⟨h1 | rfl | h1,h2⟩)
    ·exact .inr (.inl h1)
    ·exact .inl h1
    ·exact absurd hpf h2
    ·exact .inr (.inr h1)
 ·rw[if_neg hat];have hd1:∀x,x∈l.drop p->n.fid<x.fid:=λx hx=>by
   obtain ⟨i,hi⟩:=Wu hx;rw[YI] at hi;have hil:p+i<l.length:=(Wp.1 hi).1;have h0:¬(l.getD p default).fid=n.fid:=by
    intro e
    apply hat
    unfold bg;rw[hp,Bool.and_eq_true];exact ⟨decide_eq_true z8,decide_eq_true e⟩
   have h1:=p2 p (Wt _) z8
   by_cases hi0:i=0
   ·subst hi0;rw[Nat.add_zero] at hi;rw[ks hi] at h0 h1;omega
   ·have:=h.lt (i:=p) (j:=p+i) z8 hil;rw[ks hi] at this;omega
  refine ⟨?_,λx=>?_⟩
  ·refine List.pairwise_append.2 ⟨h.sublist (List.take_sublist _ _),List.pairwise_cons.2 ⟨hd1,h.sublist (List.drop_sublist _ _)⟩,λa ha b hb=>?_⟩
   rcases List.mem_cons.1 hb with rfl | hb
   ·exact ht a ha
   ·have:=ht a ha;have:=hd1 b hb;omega
  ·rw[hmem];simp only[List.mem_append,List.mem_cons];constructor
   ·rintro (h1 | h1 | h1)
    ·exact .inr ⟨.inl h1,by have:=ht x h1;omega⟩
    ·exact .inl h1
    ·exact .inr ⟨.inr h1,by have:=hd1 x h1;omega⟩
   ·rintro (h1 | ⟨h1 | h1,h2⟩)
    ·exact .inr (.inl h1)
    ·exact .inl h1
    ·exact .inr (.inr h1)
theorem gH {l:List Node} (h:Up l) (fid:Int):Up (ez l fid)/\∀x,x∈ez l fid↔x∈l/\x.fid≠fid:=
 ⟨h.sublist List.filter_sublist,λx=>by unfold ez;rw[Wy];simp⟩
theorem zL {l:List Node} (h:Up l) (n:Node):aj (aE l n) n.fid=some n:=by
 obtain ⟨h1,h2⟩:=bl h n;exact (ZO h1).2 ⟨(h2 n).2 (.inl rfl),rfl⟩
theorem zM {l:List Node} (h:Up l) (n:Node) {other:Int} (ho:other≠n.fid):aj l other=aj (aE l n) other:=by
 obtain ⟨h1,h2⟩:=bl h n;cases e:aj l other with
 | none=>
  symm
  rw[eB h1];intro x hx
  rcases (h2 x).1 hx with rfl | ⟨hx,_⟩
  ·exact Ne.symm ho
  ·exact (eB h).1 e x hx
 | some x=>
  obtain ⟨k1,k2⟩:=(ZO h).1 e
  symm
  exact (ZO h1).2 ⟨(h2 x).2 (.inr ⟨k1,by rw[k2];exact ho⟩),k2⟩
end La
namespace La
open Go
theorem fO:∀(a b:List UInt8),Op.bytesLess a b=decide (a<b)
 | [],[]=>by simp[Op.bytesLess]
 | [],_::_=>by simp[Op.bytesLess]
 | _::_,[]=>by simp[Op.bytesLess]
 | p::a,q::b=>by
  unfold Op.bytesLess;rw[fO a b,YZ];simp only[Bool.or_eq_true,decide_eq_true_eq,Bool.and_eq_true,beq_iff_eq,List.cons_lt_cons_iff]
theorem sI (a:List UInt8):¬a<a:=List.lt_irrefl a
theorem vU {a b c:List UInt8} (h:a<b) (k:b<c):a<c:=List.lt_trans h k
theorem GH {a b:List UInt8} (h:¬a<b) (k:¬b<a):a=b:=List.le_antisymm (List.not_lt.1 k) (List.not_lt.1 h)
def wH (l:List Entry) (s:List UInt8) (i:Nat):Bool:=decide ((l.getD i default).name<s)
def aI (l:List Entry) (s:List UInt8):Nat:=bsearch (wH l s) l.length 0 l.length
def isE (l:List Entry) (s:List UInt8):Bool:=decide (aI l s<l.length)&&decide ((l.getD (aI l s) default).name=s)
def ba (n:Node) (s:List UInt8):Option Int:=if isE n.entries s then some (n.entries.getD (aI n.entries s) default).fid else none
def bu (l:List Entry) (s:List UInt8) (f:Int):List Entry:=if isE l s then l.set (aI l s) ⟨s,f⟩ else l.take (aI l s)++⟨s,f⟩::l.drop (aI l s)
def c_ (l:List Entry) (s:List UInt8):List Entry:=l.filter λe=>!(e.name==s)
def ay (n:Node) (s:List UInt8) (f:Int):Node:={ n with entries:=bu n.entries s f }
def aA (n:Node) (s:List UInt8):Node:={ n with entries:=c_ n.entries s }
theorem oT (l:List Entry) (s:List UInt8):aI l s≤l.length:=(ki _ _ _ _ (Yd _)).2
def EUp (l:List Entry):Prop:=l.Pairwise λa b=>a.name<b.name
theorem EUp.lt {l:List Entry} (h:EUp l) {i j:Nat} (hij:i<j) (hj:j<l.length):(l.getD i default).name<(l.getD j default).name:=by
 have:=List.pairwise_iff_getElem.1 h i j z8 hj hij;rw[Wi,Wi,Wj z8,Wj hj];exact this
theorem EUp.place {l:List Entry} (h:EUp l) (s:List UInt8):(∀i,i<aI l s->(l.getD i default).name<s)/\∀i,aI l s≤i->i<l.length->¬(l.getD i default).name<s:=by
 have:=ic (wH l s) l.length (λi j hij hj hl=>by
  rcases Nat.lt_or_eq_of_le hij with h1 | rfl
  ·exact decide_eq_true (vU (h.lt h1 hj) (of_decide_eq_true hl))
  ·exact hl) l.length 0 l.length z8 z8 (Wt _) (λi hi=>by omega) (λi h1 h2=>by omega)
 obtain ⟨_,h2,h3⟩:=this;exact ⟨λi hi=>of_decide_eq_true (h2 i hi),λi hi hl=>of_decide_eq_false (h3 i hi hl)⟩
theorem iJ {l:List Entry} {x:Entry} {i:Nat} (h:l[i]? = some x):l.getD i default=x:=by rw[Wi,h];rfl
theorem nT {l:List Entry} (h:EUp l) (s:List UInt8):isE l s=true↔∃e,e∈l/\e.name=s:=by
 obtain ⟨p1,p2⟩:=h.place s;unfold isE;rw[Bool.and_eq_true,decide_eq_true_eq,decide_eq_true_eq];constructor
 ·rintro ⟨h1,h2⟩;exact ⟨_,YG h1,h2⟩
 ·rintro ⟨e,he,rfl⟩;obtain ⟨i,hi⟩:=Wu he;have hil:i<l.length:=(Wp.1 hi).1;have hix:=iJ hi;have hpi:aI l e.name=i:=by
   rcases Nat.lt_trichotomy (aI l e.name) i with h1 | h1 | h1
   ·have:=p2 _ (Wt _) z8;have h3:=h.lt h1 hil;rw[hix] at h3;exact absurd h3 this
   ·exact h1
   ·have:=p1 i h1;rw[hix] at this;exact absurd this (sI _)
  rw[hpi,hix];exact ⟨hil,rfl⟩
theorem EUp.parts {l:List Entry} (h:EUp l) {s:List UInt8} (hs:isE l s=false):(∀e,e∈l.take (aI l s)->e.name<s)/\∀e,e∈l.drop (aI l s)->s<e.name:=by
 obtain ⟨p1,p2⟩:=h.place s;refine ⟨λe he=>?_,λe he=>?_⟩
 ·obtain ⟨i,hi⟩:=Wu he;rw[W4] at hi;split at hi
  ·rename_i hip;have:=p1 i hip
   rwa [iJ hi] at this
  ·cases hi
 ·obtain ⟨i,hi⟩:=Wu he;rw[YI] at hi;have h1:=p2 (aI l s+i) z8 (Wp.1 hi).1;rw[iJ hi] at h1
  by_cases h2:s<e.name
  ·exact h2
  ·have h3:=GH h1 h2;have:isE l s=true:=(nT h s).2 ⟨e,Wn hi,h3⟩;rw[hs] at this;cases this
theorem jG {l:List Entry} (h:EUp l) {s:List UInt8} (hs:isE l s=false) (f:Int):EUp (bu l s f)/\(∀e,e∈bu l s f↔e=⟨s,f⟩\/e∈l)/\c_ (bu l s f) s=l:=by
 obtain ⟨h1,h2⟩:=h.parts hs;unfold bu c_;rw[hs,if_neg y7];generalize aI l s=p at *;have hmem:∀x,x∈l↔x∈l.take p\/x∈l.drop p:=λx=>by
  have:=List.mem_append (a:=x) (s:=l.take p) (t:=l.drop p);rw[Yc] at this;exact this
 refine ⟨?_,λe=>?_,?_⟩
 ·refine List.pairwise_append.2 ⟨h.sublist (List.take_sublist _ _),List.pairwise_cons.2 ⟨h2,h.sublist (List.drop_sublist _ _)⟩,λa ha b hb=>?_⟩
  rcases List.mem_cons.1 hb with rfl | hb
  ·exact h1 a ha
  ·exact vU (h1 a ha) (h2 b hb)
 ·rw[hmem,List.mem_append,List.mem_cons];constructor
  ·rintro (h | h | h)
   ·exact .inr (.inl h)
   ·exact .inl h
   ·exact .inr (.inr h)
  ·rintro (h | h | h)
   ·exact .inr (.inl h)
   ·exact .inl h
   ·exact .inr (.inr h)
 ·rw[List.filter_append,List.filter_cons,W9.2 (λe he=>?_),W9.2 (λe he=>?_)]
  ·simp
  ·have:e.name≠s:=by rintro rfl;exact sI _ (h2 e he)
   simpa using this
  ·have:e.name≠s:=by rintro rfl;exact sI _ (h1 e he)
   simpa using this
theorem EUp.same {l:List Entry} (h:EUp l) {a b:Entry} (ha:a∈l) (hb:b∈l) (hn:a.name=b.name):a=b:=by
 obtain ⟨i,hi⟩:=Wu ha;obtain ⟨j,hj⟩:=Wu hb;have hil:=(Wp.1 hi).1;have hjl:=(Wp.1 hj).1
 rcases Nat.lt_trichotomy i j with h1 | h1 | h1
 ·have:=h.lt h1 hjl;rw[iJ hi,iJ hj,hn] at this;exact absurd this (sI _)
 ·subst h1;rw[hi] at hj;injection hj
 ·have:=h.lt h1 hil;rw[iJ hi,iJ hj,hn] at this;exact absurd this (sI _)
theorem YE {n:Node} (h:EUp n.entries) {s:List UInt8} {f:Int}:ba n s=some f↔⟨s,f⟩∈n.entries:=by
 unfold ba;constructor
 ·intro hf;split at hf
  ·rename_i hc;unfold isE at hc;rw[Bool.and_eq_true,decide_eq_true_eq,decide_eq_true_eq] at hc;have:=YG hc.1;injection hf with hf
   have e:n.entries.getD (aI n.entries s) default=⟨s,f⟩:=by
    cases h0:n.entries.getD (aI n.entries s) default with
    | mk a b=>rw[h0] at hf hc;simp only at hf hc;rw[←hf,←hc.2]
   rw[←e];exact this
  ·cases hf
 ·intro hm;have hi:=(nT h s).2 ⟨_,hm,rfl⟩;rw[if_pos hi];unfold isE at hi;rw[Bool.and_eq_true,decide_eq_true_eq,decide_eq_true_eq] at hi;have:=h.same (YG hi.1) hm hi.2;rw[this]
theorem wQ {n:Node} (h:EUp n.entries) {s:List UInt8}:ba n s=none↔∀e,e∈n.entries->e.name≠s:=by
 unfold ba;constructor
 ·intro hf e he hn;rw[if_pos ((nT h s).2 ⟨e,he,hn⟩)] at hf;cases hf
 ·intro hn;rw[if_neg];intro hi;obtain ⟨e,he,h1⟩:=(nT h s).1 hi;exact hn e he h1
end La
namespace La
open Go Go.Eng
structure Kept where
 node:Node
 dirty:Bool
 worth:Int
 last:Int
deriving DecidableEq,Inhabited
structure Verdict where
 err:Int
 fid:Int
deriving DecidableEq,Inhabited
structure Past where
 client:Int
 act:Act
deriving DecidableEq,Inhabited
def ZK (k:Kept):List AV:=[.int .i64 k.node.fid,.bool k.node.dir,.sl (k.node.data.map ZY),.sl (k.node.entries.map ZE),.int .i64 k.node.version,.bool k.dirty,.int .i64 k.worth,.int .i64 k.last]
def aR (s:List UInt8):List AV:=[.str s]
def ZV (v:Verdict):List AV:=[.int .i64 v.err,.int .i64 v.fid]
def ZP (p:Past):List AV:=[.int .i64 p.client,.int .i64 p.act.kind,.int .i64 p.act.fid,.int .i64 p.act.dir,.str p.act.name,.int .i64 p.act.to,.str p.act.toName,.sl (p.act.data.map ZY)]
theorem fz:Fam ZK 8:=⟨λ_=>rfl,λ_=>rfl,λ_=>rfl,λ_=>rfl⟩
@[go_sem,simp] theorem rX (l:List _):Eng.rowsOf 8 (l.map ZK):=fz.rowsOf l
@[go_sem,simp] theorem vl (l:List _):((l.map ZK).all λrow=>row.all AV.leaf)=true:=fz.jc l
@[go_sem,simp] theorem bc (l:List _):((l.map ZK).all λrow=>row.all AV.aY)=true:=fz.eM l
@[go_sem,simp] theorem ER (id:Nat) (l:List _):((l.map ZK).all λrow=>row.all λx=>!(refs x).contains id)=true:=fz.jY id l
@[go_sem,simp] theorem ES (e s:Nat) (l:List _):aB (.cells e s (l.map ZK))=[]:=fz.aB e s l
@[go_sem,simp] theorem F1 (off:Nat) (l:List _):(l.map ZK).map (f_ off)=l.map ZK:=Fam.f_ (λ_ _=>rfl) off l
@[go_sem,simp] theorem F0 (id s:Nat) (rows:List (List AV)) (l:List _):(l.map ZK).map (dB id s rows)=l.map ZK:=Fam.dB (λ_ _ _ _=>rfl) id s rows l
@[go_sem,simp] theorem ju (a):aC (ZK a)=[]:=fz.free a
theorem fK:Fam ZV 2:=⟨λ_=>rfl,λ_=>rfl,λ_=>rfl,λ_=>rfl⟩
@[go_sem,simp] theorem lq (l:List _):((l.map ZV).all λrow=>row.all AV.aY)=true:=fK.eM l
@[go_sem,simp] theorem CE (id:Nat) (l:List _):((l.map ZV).all λrow=>row.all λx=>!(refs x).contains id)=true:=fK.jY id l
@[go_sem,simp] theorem CF (e s:Nat) (l:List _):aB (.cells e s (l.map ZV))=[]:=fK.aB e s l
@[go_sem,simp] theorem CQ (id s:Nat) (rows:List (List AV)) (l:List _):(l.map ZV).map (dB id s rows)=l.map ZV:=Fam.dB (λ_ _ _ _=>rfl) id s rows l
@[go_sem,simp] theorem CG (a):aC (ZV a)=[]:=fK.free a
theorem gJ:Fam ZP 8:=⟨λ_=>rfl,λ_=>rfl,λ_=>rfl,λ_=>rfl⟩
@[go_sem,simp] theorem iP (l:List _):Eng.rowsOf 8 (l.map ZP):=gJ.rowsOf l
@[go_sem,simp] theorem kN (l:List _):((l.map ZP).all λrow=>row.all AV.leaf)=true:=gJ.jc l
@[go_sem,simp] theorem dM (l:List _):((l.map ZP).all λrow=>row.all AV.aY)=true:=gJ.eM l
@[go_sem,simp] theorem bz (id:Nat) (l:List _):((l.map ZP).all λrow=>row.all λx=>!(refs x).contains id)=true:=gJ.jY id l
@[go_sem,simp] theorem EU (e s:Nat) (l:List _):aB (.cells e s (l.map ZP))=[]:=gJ.aB e s l
@[go_sem,simp] theorem Gl (off:Nat) (l:List _):(l.map ZP).map (f_ off)=l.map ZP:=Fam.f_ (λ_ _=>rfl) off l
@[go_sem,simp] theorem Gk (id s:Nat) (rows:List (List AV)) (l:List _):(l.map ZP).map (dB id s rows)=l.map ZP:=Fam.dB (λ_ _ _ _=>rfl) id s rows l
theorem kq:Fam aR 1:=⟨λ_=>rfl,λ_=>rfl,λ_=>rfl,λ_=>rfl⟩
@[go_sem,simp] theorem yE (l:List _):((l.map aR).all λrow=>row.all AV.aY)=true:=kq.eM l
@[go_sem,simp] theorem GD (id:Nat) (l:List _):((l.map aR).all λrow=>row.all λx=>!(refs x).contains id)=true:=kq.jY id l
@[go_sem,simp] theorem GF (e s:Nat) (l:List _):aB (.cells e s (l.map aR))=[]:=kq.aB e s l
@[go_sem,simp] theorem GG (a):aC (aR a)=[]:=kq.free a
end La
namespace La
open Go Go.Eng Go.Proofs
def iG (a b:Int):Int:=if a<b then -1 else if b<a then 1 else 0
theorem uR (a b:Int):decide (iG a b<0)=decide (a<b):=by
 unfold iG;split
 ·rename_i h;simp[h]
 ·rename_i h;split
  ·simp[h]
  ·simp[h]
theorem FC (a b:Int):decide (iG a b=0)=decide (a=b):=by
 unfold iG;split
 ·rename_i h;have:a≠b:=by omega
  simp[this]
 ·rename_i h;split
  ·have:a≠b:=by omega
   simp[this]
  ·have:a=b:=by omega
   simp[this]
theorem xw (a:Int):ae Tryz.prog 173 [.int .i64 a] [] (λr _=>r=.bool false):=by
 refine ZF tK (Tryz.func173) rfl (λC=>?_);simp only[Tryz.ntmps173,Tryz.results173,go_sem];refine wG tK ?_;refine wT ?_;simp
theorem iH (a b:Int):ae Tryz.prog 147 [.int .i64 a,.int .i64 b] [] (λr _=>r=.int .i64 (iG a b)):=by
 refine ZF tK (Tryz.func147) rfl (λC=>?_);simp only[Tryz.ntmps147,Tryz.results147,go_sem];refine wG tK ?_;refine wC Tryz.func173 (hf:=(xw a)) (hk:=?_);refine wG tK ?_;refine wC Tryz.func173 (hf:=(xw b)) (hk:=?_);refine wG tK ?_;refine wD (λh=>?_) (λh=>?_)
 ·cases h
 refine wG tK ?_;refine wD (λh=>?_) (λh=>?_)
 ·cases h
 refine wG tK ?_;refine wD (λh=>?_) (λh=>?_)
 ·refine wG tK ?_;refine wT ?_
  simp_all [iG]
 refine wG tK ?_;refine wD (λh=>?_) (λh=>?_)
 ·refine wG tK ?_;refine wT ?_
  simp_all [iG]
  all_goals omega
 refine wG tK ?_;refine wT ?_
 simp_all [iG]
 all_goals omega
theorem qo (n:Node) (f:Int):ae Tryz.prog 164 [.agg (ZN n),.int .i64 f] [] (λr _=>r=.int .i64 (iG n.fid f)):=by
 unfold ZN;refine ZF tK (Tryz.func164) rfl (λC=>?_);simp only[Tryz.ntmps164,Tryz.results164,go_sem];refine wG tK ?_;refine wC Tryz.func147 (hf:=(iH n.fid f)) (hk:=?_);refine wG tK ?_;refine wT ?_;rfl
theorem DQ {a b:Nat} (h:a+b≤1000000000):IntKind.i64.wrap ((IntKind.u64.wrap (IntKind.i64.wrap ((a:Int)+(b:Int)))).fdiv (2 ^ min 1 64))=(((a+b) / 2:Nat):Int):=by
 have h1:IntKind.i64.wrap ((a:Int)+(b:Int))=((a+b:Nat):Int):=by rw[Eng.wrap_small z8 z8];omega
 have h2:IntKind.u64.wrap ((a+b:Nat):Int)=((a+b:Nat):Int):=by
  simp[IntKind.wrap,IntKind.signed,IntKind.bits];omega
 rw[h1,h2];have h3:(((a+b:Nat):Int)).fdiv (2 ^ min 1 64)=(((a+b) / 2:Nat):Int):=by
  show (((a+b:Nat):Int)).fdiv 2=_
  rw[Int.fdiv_eq_ediv_of_nonneg _ z8];omega
 rw[h3,Eng.wrap_small z8 z8]
def Ii (l:List Node) (f:Int) (i:Nat):Bool:=decide ((l.getD i default).fid<f)
theorem nH (lt:Nat->Bool) {lo hi:Nat} (h:lo<hi):bsearch lt (hi-lo) lo hi=if lt ((lo+hi) / 2) then bsearch lt (hi-((lo+hi) / 2+1)) ((lo+hi) / 2+1) hi else bsearch lt ((lo+hi) / 2-lo) lo ((lo+hi) / 2):=by
 obtain ⟨f,hf⟩:∃f,hi-lo=f+1:=⟨hi-lo-1,by omega⟩;rw[hf]
 conv=>lhs;unfold bsearch
 rw[if_pos h];split
 ·exact ib lt _ _ _ _ z8 z8
 ·exact ib lt _ _ _ _ z8 z8
theorem pL (lt:Nat->Bool) {lo hi:Nat} (h:¬lo<hi):bsearch lt (hi-lo) lo hi=lo:=by
 have:hi-lo=0:=by omega
 rw[this];rfl
theorem xQ (l:List Node) (f:Int) (hlen:l.length≤100000000):ae Tryz.prog 163 [.sl (l.map ZN),.int .i64 f,.fn 164 []] [] (λr _=>r=.tup [.int .i64 (placeOf l f),.bool (bg l f)]):=by
 refine ZF tK (Tryz.func163) rfl (λC=>?_);simp only[Tryz.ntmps163,Tryz.results163,go_sem];refine wG tK ?_;refine ZL (λi:Nat×Nat=>i.1≤i.2/\i.2≤l.length/\bsearch (Ii l f) (i.2-i.1) i.1 i.2=placeOf l f) (λi=>i.2-i.1) (λi=>(9,.int .i64 i.1)::(10,.int .i64 i.2)::(11,.any)::u0 15 20 []) (λ_=>[]) (0,l.length) ⟨by simp,by simp,rfl⟩ ?_ λi hi=>?_
 ·simp only[go_sem];exact ZU w3 w3 w3
 obtain ⟨lo,hi'⟩:=i;obtain ⟨h1,h2,h3⟩:=hi;simp only at h1 h2 h3;simp only[go_sem];refine wG tK ?_;refine wD (λh=>?_) (λh=>?_)
 ·have hlt:lo<hi':=by simp at h;omega
  have hml:(lo+hi') / 2<l.length:=by omega
  have hn:=qo (l.getD ((lo+hi') / 2) default) f;have hg:(l.map ZN).getD ((lo+hi') / 2) []=ZN (l.getD ((lo+hi') / 2) default):=Fam.getD hml;have hmid:IntKind.i64.wrap ((IntKind.u64.wrap (IntKind.i64.wrap ((lo:Int)+(hi':Int)))).fdiv (2 ^ min 1 64))=(((lo+hi') / 2:Nat):Int):=DQ z8;have hst:=nH (Ii l f) hlt;have hlm:Ii l f ((lo+hi') / 2)=decide ((l.getD ((lo+hi') / 2) default).fid<f):=rfl;have hm1:lo≤(lo+hi') / 2:=by omega
  have hm2:(lo+hi') / 2<hi':=by omega
  generalize l.getD ((lo+hi') / 2) default=n at hn hg hlm;generalize (lo+hi') / 2=m at *;refine wGq tK ?_ ?_ (by simp only[go_sem,hmid,hg];try exact rfl)
  ·simp[hmid,hg,hml,ZN]
  refine wC Tryz.func164 (hf:=(hn)) (hk:=?_);refine wG tK ?_;refine wD (λh=>?_) (λh=>?_)
  ·rw[uR,←hlm] at h;rw[h,if_pos rfl] at hst;have hw:IntKind.i64.wrap ((m:Int)+1)=((m+1:Nat):Int):=by rw[Eng.wrap_small z8 z8];omega
   refine wG tK ?_ w5 k0;refine ZB ⟨(m+1,hi'),⟨by omega,h2,hst▸h3⟩,by simp;omega,ZU ?_ ?_ ?_⟩
   ·simp[go_sem]
   ·simp[go_sem]
   ·simp[go_sem]
  ·rw[uR,←hlm] at h;rw[h,if_neg y7] at hst;refine wG tK ?_;refine ZB ⟨(lo,m),⟨by omega,by omega,hst▸h3⟩,by simp;omega,ZU ?_ ?_ ?_⟩
   ·simp[go_sem]
   ·simp[go_sem]
   ·simp[go_sem]
 ·have hge:¬lo<hi':=by simp at h;omega
  rw[pL _ hge] at h3;subst h3;refine wR ?_;refine wN tK 5 ?_;refine ak 39 z6 (λc39 h39=>?_);simp only[go_sem];cases c39 with
  | true=>
   have hpl:placeOf l f<l.length:=by have:=of_decide_eq_true h39;omega
   have hn:=qo (l.getD (placeOf l f) default) f;have hg:(l.map ZN).getD (placeOf l f) []=ZN (l.getD (placeOf l f) default):=Fam.getD hpl;have hat:bg l f=decide ((l.getD (placeOf l f) default).fid=f):=by simp[bg,hpl]
   generalize l.getD (placeOf l f) default=n at hn hg hat;refine wGq tK ?_ ?_ v7
   ·simp[hg,hpl,ZN]
   refine wCC Tryz.func164 (hf:=λhb=>(hn)) (hk:=?_);refine wG tK ?_;refine wT ?_;have e:(iG n.fid f==0)=decide (n.fid=f):=by rw[←FC];by_cases h0:iG n.fid f=0<;>simp[h0]
   simp[hat,e]
  | false=>
   have hpl:¬placeOf l f<l.length:=by have:=of_decide_eq_false h39;omega
   have hat:bg l f=false:=by simp[bg,hpl]
   refine wG tK ?_;refine fI (.int .i64 0) rfl ?_;simp only[go_sem];refine wG tK ?_;refine wT ?_;simp[hat]
theorem yL (l:List Node) (f:Int) (hlen:l.length≤100000000):ae Tryz.prog 120 [.sl (l.map ZN),.int .i64 f] [] (λr _=>r=.tup [.int .i64 (placeOf l f),.bool (bg l f)]):=by
 refine ZF tK (Tryz.func120) rfl (λC=>?_);simp only[Tryz.ntmps120,Tryz.results120,go_sem];refine wG tK ?_;refine wC Tryz.func163 (hf:=(xQ l f hlen)) (hk:=?_);refine wG tK ?_;refine wT ?_;rfl
theorem xq (L:List (List AV)) (i:Nat) (z w:List AV) (hi:i≤L.length) :
  aX (aX (L.take i++List.replicate (L.length+1-i) w) i [z]) (i+1) (L.drop i)=L.take i++z::L.drop i:=by
 have hli:(L.take i).length=i:=by rw[Wv];omega
 have h1:aX (L.take i++List.replicate (L.length+1-i) w) i [z]=L.take i++z::List.replicate (L.length-i) w:=by
  unfold aX;have e1:(L.take i++List.replicate (L.length+1-i) w).take i=L.take i:=by
   rw[List.take_append,hli,YY,List.take_zero,List.append_nil,List.take_take,Nat.min_self]
  have e2:(L.take i++List.replicate (L.length+1-i) w).drop (i+[z].length)=List.replicate (L.length-i) w:=by
   rw[List.drop_append,Ya (by rw[hli];simp),List.drop_replicate,List.nil_append,hli]
   congr 1;simp;omega
  rw[e1,e2];simp
 rw[h1];unfold aX;have hl:(L.take i++[z]).length=i+1:=by rw[List.length_append,hli];rfl
 have e1:(L.take i++z::List.replicate (L.length-i) w).take (i+1)=L.take i++[z]:=by
  have:L.take i++z::List.replicate (L.length-i) w=(L.take i++[z])++List.replicate (L.length-i) w:=by simp
  rw[this,List.take_append,hl,YY,List.take_zero,List.append_nil,Wl z8]
 have e2:(L.take i++z::List.replicate (L.length-i) w).drop (i+1+(L.drop i).length)=[]:=by
  refine Ya ?_;rw[List.length_append,hli,List.length_cons,Yi,YJ];omega
 rw[e1,e2];simp
theorem xr (L Z:List (List AV)) (i:Nat) (z:List AV) (hi:i<L.length) (hz:0<Z.length) :
  (aX (aX (L++Z) (i+1) (L.drop i)) i [z]).take (L.length+1)=L.take i++z::L.drop i:=by
 have hli:(L.take i).length=i:=by rw[Wv];omega
 have hli1:(L.take (i+1)).length=i+1:=by rw[Wv];omega
 have h1:aX (L++Z) (i+1) (L.drop i)=L.take (i+1)++(L.drop i++Z.drop 1):=by
  unfold aX;have e1:(L++Z).take (i+1)=L.take (i+1):=by rw[List.take_append,show i+1-L.length=0 by omega,List.take_zero,List.append_nil]
  have e2:(L++Z).drop (i+1+(L.drop i).length)=Z.drop 1:=by
   rw[List.drop_append,Ya (by rw[YJ];omega),List.nil_append,YJ]
   congr 1;omega
  rw[e1,e2,YQ]
 rw[h1];unfold aX;have e1:(L.take (i+1)++(L.drop i++Z.drop 1)).take i=L.take i:=by
  rw[List.take_append,hli1,show i-(i+1)=0 by omega,List.take_zero,List.append_nil,List.take_take,Yj z8]
 have e2:(L.take (i+1)++(L.drop i++Z.drop 1)).drop (i+[z].length)=L.drop i++Z.drop 1:=by
  rw[List.drop_append,Ya (by rw[hli1];simp),List.nil_append,hli1,show i+[z].length-(i+1)=0 by simp,List.drop_zero]
 rw[e1,e2];have e3:L.take i++[z]++(L.drop i++Z.drop 1)=(L.take i++z::L.drop i)++Z.drop 1:=by simp
 have e4:(L.take i++z::L.drop i).length=L.length+1:=by rw[List.length_append,hli,List.length_cons,YJ];omega
 rw[e3,List.take_append,e4,YY,List.take_zero,List.append_nil,Wl z8]
theorem take_one (n:Nat) (z:List AV) (hn:0<n):List.take n [z]=[z]:=Wl j0
theorem nG {L:List (List AV)} (i:Nat) (h:(L.all λrow=>row.all AV.leaf)=true):((L.drop i).all λrow=>row.all AV.leaf)=true:=by
 rw[List.all_eq_true] at *;exact λx hx=>h x (YB hx)
def EH:List AV:=[.int .i64 0,.bool false,.nils,.nils,.int .i64 0]
theorem xP (L:List (List AV)) (i:Nat) (hi:i≤L.length) (hlen:L.length≤100000000) (hL:rowsOf 5 L) (hlf:(L.all λrow=>row.all AV.leaf)=true) (hnr:∀id,(L.all λrow=>row.all λx=>!(refs x).contains id)=true) :
  ae Tryz.prog 229 [.osl 1000 5 0 L.length,.int .i64 i,.osl 22 5 0 1] [(22,.cells 94 5 [EH]),(1000,.cells 94 5 L)] (λr H=>∃j,r=.osl j 5 0 (L.length+1)/\aa H j=some (.cells 94 5 (L.take i++EH::L.drop i))):=by
 refine ZF tK (Tryz.func229) rfl (λC=>?_);simp only[Tryz.ntmps229,Tryz.results229,go_sem];refine wGq tK ?_ ?_
 ·simp[go_sem];omega
 refine wD (λh=>?_) (λh=>?_)
 ·simp at h
 by_cases hin:i=L.length
 ·subst hin;refine wGq tK ?_ ?_
  ·simp[go_sem]
  refine wD (λh=>?_) (λh=>?_)
  ·refine wGq tK ?_ ?_
   ·refine ⟨by simp,by simp,by intro row h;rw[List.mem_singleton.1 h];rfl,λ_ _ _ _ h=>by injection h,rfl,by omega,.inr trivial,by simp,⟨λ_=>by rfl,by simp⟩,?_⟩;rw[hnr 1000];rfl
   refine wT ?_;simp[go_sem]
  ·simp at h
 ·refine wGq tK ?_ ?_
  ·simp[go_sem]
  refine wD (λh=>?_) (λh=>?_)
  ·simp at h;omega
  refine wR ?_;refine wN tK 4 ?_;refine C_ tK rfl rfl rfl rfl (id:=1000) (s:=5) (off:=0) (len:=L.length) (e':=94) (rows:=L) z7 z7 z8 z8 z7 (λc hc1 hc2=>?_);simp only[go_sem];refine wG tK ?_;have hw1:IntKind.i64.wrap ((L.length:Int)+((1:Nat):Int))=((L.length+1:Nat):Int):=by rw[Eng.wrap_small z8 z8];omega
  have hw3:IntKind.i64.wrap ((i:Int)+((1:Nat):Int))=((i+1:Nat):Int):=by rw[Eng.wrap_small z8 z8];omega
  have hil:i<L.length:=by omega
  simp only[go_sem,hw1];refine wD (λh=>?_) (λh=>?_)
  ·have hc:c<L.length+1:=by simp at h;omega
   have hcl:c=L.length:=by omega
   subst hcl;have hw2:IntKind.i64.wrap (((L.length+1:Nat):Int)-(i:Int))=((L.length+1-i:Nat):Int):=by rw[Eng.wrap_small z8 z8];omega
   simp only[go_sem,W8,YY,List.replicate_zero,List.append_nil];refine wGq tK ?_ ?_ (by simp only[go_sem,hw1,hw2];try exact rfl)
   ·simp[go_sem];exact hi
   refine bP rfl (sV tK rfl rfl rfl (id:=1000) (s:=5) (len:=i) (n:=L.length+1-i) (j:=30) (N:=L.length) (d:=40) (e':=94) z7 z7 z7 z8 z8 z7 z8 rfl z8 u5 (by show (_+768)*72≤_;omega) z7) ?_;simp only[go_sem];refine wGq tK ?_ ?_ j7
   ·refine ⟨⟨by simp,by omega,by omega⟩,by simp,by intro row h;rw[List.mem_singleton.1 h];rfl,λ_ _ _ _ h=>by injection h,?_,?_⟩
    ·rw[take_one _ _ z8];rfl
    ·simp;omega
   simp only[go_sem,take_one (i+(L.length+1-i)-i) EH z8];refine ZW ZM ?_;refine ZS rfl ?_;refine sNq tK 8 ?_ ?_ z6 z6 QO
   ·refine ⟨⟨by simp,by omega,by omega⟩,by simp,by omega,hi⟩
   refine sE ?_;refine dSq tK ?_ ?_
   ·simp only[go_sem];have e1:List.take (L.length-i) (List.drop i L)=L.drop i:=Wl y7;have e2:List.take (i+(L.length+1-i)-(i+1)) (L.drop i)=L.drop i:=Wl j0;rw[e1,e2];refine ⟨by simp,λrow hrow=>hL row (YB hrow),λ_ _ _ _ h=>by injection h;simp;omega,nG i hlf,?_⟩;rw[dU j0];simp;omega
   refine wKd ?_;have e1:List.take (L.length-i) (List.drop i L)=L.drop i:=Wl y7;have e2:List.take (i+(L.length+1-i)-(i+1)) (L.drop i)=L.drop i:=Wl j0;simp only[go_sem,e1,e2];refine wG tK ?_;refine wT ?_;refine ⟨40,?_,?_⟩
   ·simp[go_sem];omega
   ·rw[xq L i _ _ hi];rfl
  ·have hc:¬c<L.length+1:=by simp at h;omega
   refine wR ?_;refine wN tK 4 ?_;simp only[go_sem,hw1];refine bP rfl (oE tK rfl rfl (id:=1000) (s:=5) (off:=0) (len:=L.length) (h:=L.length+1) (j:=30) (N:=0+c) z7 z7 z7 z8 z8 rfl z8) ?_;simp only[go_sem];refine wGq tK ?_ ?_ QO
   ·exact ⟨by simp,by omega,hi⟩
   refine bP rfl (sP tK rfl (f:=241) (i1:=22) (i2:=1000) (s1:=5) (s2:=5) z7 (Go.Proofs.Tryz.func241) rfl rfl rfl rfl rfl u5 z7 z7 u5 z8 z8 u5 z7 z7) ?_;simp only[go_sem];refine wG tK ?_;refine wD (λh=>?_) (λh=>?_)
   ·have hZ1:rowsOf 5 (List.replicate (c-L.length) [AV.any,AV.any,AV.any,AV.any,AV.any]):=λrow hr=>by rw[(Yl.1 hr).2];rfl
    have hZ2:0<(List.replicate (c-L.length) [AV.any,AV.any,AV.any,AV.any,AV.any]).length:=by rw[Yi];omega
    generalize List.replicate (c-L.length) [AV.any,AV.any,AV.any,AV.any,AV.any]=Z at hZ1 hZ2;have e0:List.drop i (L++Z)=L.drop i++Z:=by rw[List.drop_append,show i-L.length=0 by omega,List.drop_zero]
    have e1:(List.take (L.length+1-i) (List.drop i (L++Z))).length=L.length+1-i:=by rw[e0];simp;omega
    have e2:List.take (L.length-i) (List.take (L.length+1-i) (List.drop i (L++Z)))=L.drop i:=by
     rw[List.take_take,Yj z8,e0,List.take_append,YJ,YY,List.take_zero,List.append_nil,Wl y7]
    have e3:L.length+1-(i+1)=L.length-i:=by omega
    refine wR ?_;refine ZW ZM ?_;refine ZS rfl ?_;refine sNq tK 8 ?_ ?_ z6 z6 QO
    ·exact ⟨⟨by simp,by omega,hi⟩,by simp,by omega,by omega⟩
    refine sE ?_;refine dSq tK ?_ ?_
    ·simp only[go_sem];refine ⟨by simp,λrow hr=>?_,λ_ _ _ _ h=>by injection h with _ _ _ h;rw[e1,h],?_,?_⟩
     ·have:=YB (Wx hr)
      rcases List.mem_append.1 this with h | h
      ·exact hL row h
      ·exact hZ1 row h
     ·rw[e3,e2];exact nG i hlf
     ·omega
    refine wKd ?_;simp only[go_sem,e2,e3,gA,gB,gC];refine wGq tK ?_ ?_
    ·refine ⟨⟨by simp,by omega,by omega⟩,by simp,by intro row h;rw[List.mem_singleton.1 h];rfl,λ_ _ _ _ h=>by injection h,?_,?_⟩
     ·rw[take_one _ _ z8];rfl
     ·rw[dU j0,List.length_append];omega
    simp only[go_sem,take_one (L.length+1-i) EH z8];refine ag (pk (id:=1000) (L.length+1) z6) ?_;simp only[go_sem,xr L Z i EH hil hZ2];refine wT ?_;refine ⟨1000,?_,?_⟩
    ·simp[go_sem]
    ·rfl
   ·simp at h
def td:List AV:=[.str [],.int .i64 0]
theorem uX (L:List (List AV)) (i:Nat) (hi:i≤L.length) (hlen:L.length≤100000000) (hL:rowsOf 2 L) (hlf:(L.all λrow=>row.all AV.leaf)=true) (hnr:∀id,(L.all λrow=>row.all λx=>!(refs x).contains id)=true) :
  ae Tryz.prog 209 [.osl 1000 2 0 L.length,.int .i64 i,.osl 28 2 0 1] [(28,.cells 96 2 [td]),(1000,.cells 96 2 L)] (λr H=>∃j,r=.osl j 2 0 (L.length+1)/\aa H j=some (.cells 96 2 (L.take i++td::L.drop i))):=by
 refine ZF tK (Tryz.func209) rfl (λC=>?_);simp only[Tryz.ntmps209,Tryz.results209,go_sem];refine wGq tK ?_ ?_
 ·simp[go_sem];omega
 refine wD (λh=>?_) (λh=>?_)
 ·simp at h
 by_cases hin:i=L.length
 ·subst hin;refine wGq tK ?_ ?_
  ·simp[go_sem]
  refine wD (λh=>?_) (λh=>?_)
  ·refine wGq tK ?_ ?_
   ·refine ⟨by simp,by simp,by intro row h;rw[List.mem_singleton.1 h];rfl,λ_ _ _ _ h=>by injection h,rfl,by omega,.inr trivial,by simp,⟨λ_=>by rfl,by simp⟩,?_⟩;rw[hnr 1000];rfl
   refine wT ?_;simp[go_sem]
  ·simp at h
 ·refine wGq tK ?_ ?_
  ·simp[go_sem]
  refine wD (λh=>?_) (λh=>?_)
  ·simp at h;omega
  refine wR ?_;refine wN tK 4 ?_;refine C_ tK rfl rfl rfl rfl (id:=1000) (s:=2) (off:=0) (len:=L.length) (e':=96) (rows:=L) z7 z7 z8 z8 z7 (λc hc1 hc2=>?_);simp only[go_sem];refine wG tK ?_;have hw1:IntKind.i64.wrap ((L.length:Int)+((1:Nat):Int))=((L.length+1:Nat):Int):=by rw[Eng.wrap_small z8 z8];omega
  have hw3:IntKind.i64.wrap ((i:Int)+((1:Nat):Int))=((i+1:Nat):Int):=by rw[Eng.wrap_small z8 z8];omega
  have hil:i<L.length:=by omega
  simp only[go_sem,hw1];refine wD (λh=>?_) (λh=>?_)
  ·have hc:c<L.length+1:=by simp at h;omega
   have hcl:c=L.length:=by omega
   subst hcl;have hw2:IntKind.i64.wrap (((L.length+1:Nat):Int)-(i:Int))=((L.length+1-i:Nat):Int):=by rw[Eng.wrap_small z8 z8];omega
   simp only[go_sem,W8,YY,List.replicate_zero,List.append_nil];refine wGq tK ?_ ?_ (by simp only[go_sem,hw1,hw2];try exact rfl)
   ·simp[go_sem];exact hi
   refine bP rfl (sV tK rfl rfl rfl (id:=1000) (s:=2) (len:=i) (n:=L.length+1-i) (j:=30) (N:=L.length) (d:=40) (e':=96) z7 z7 z7 z8 z8 z7 z8 rfl z8 u5 (by show (_+768)*24≤_;omega) z7) ?_;simp only[go_sem];refine wGq tK ?_ ?_ j7
   ·refine ⟨⟨by simp,by omega,by omega⟩,by simp,by intro row h;rw[List.mem_singleton.1 h];rfl,λ_ _ _ _ h=>by injection h,?_,?_⟩
    ·rw[take_one _ _ z8];rfl
    ·simp;omega
   simp only[go_sem,take_one (i+(L.length+1-i)-i) td z8];refine ZW ZM ?_;refine ZS rfl ?_;refine sNq tK 8 ?_ ?_ z6 z6 QO
   ·refine ⟨⟨by simp,by omega,by omega⟩,by simp,by omega,hi⟩
   refine sE ?_;refine dSq tK ?_ ?_
   ·simp only[go_sem];have e1:List.take (L.length-i) (List.drop i L)=L.drop i:=Wl y7;have e2:List.take (i+(L.length+1-i)-(i+1)) (L.drop i)=L.drop i:=Wl j0;rw[e1,e2];refine ⟨by simp,λrow hrow=>hL row (YB hrow),λ_ _ _ _ h=>by injection h;simp;omega,nG i hlf,?_⟩;rw[dU j0];simp;omega
   refine wKd ?_;have e1:List.take (L.length-i) (List.drop i L)=L.drop i:=Wl y7;have e2:List.take (i+(L.length+1-i)-(i+1)) (L.drop i)=L.drop i:=Wl j0;simp only[go_sem,e1,e2];refine wG tK ?_;refine wT ?_;refine ⟨40,?_,?_⟩
   ·simp[go_sem];omega
   ·rw[xq L i _ _ hi];rfl
  ·have hc:¬c<L.length+1:=by simp at h;omega
   refine wR ?_;refine wN tK 4 ?_;simp only[go_sem,hw1];refine bP rfl (oE tK rfl rfl (id:=1000) (s:=2) (off:=0) (len:=L.length) (h:=L.length+1) (j:=30) (N:=0+c) z7 z7 z7 z8 z8 rfl z8) ?_;simp only[go_sem];refine wGq tK ?_ ?_ QO
   ·exact ⟨by simp,by omega,hi⟩
   refine bP rfl (sP tK rfl (f:=230) (i1:=28) (i2:=1000) (s1:=2) (s2:=2) z7 (Go.Proofs.Tryz.func230) rfl rfl rfl rfl rfl u5 z7 z7 u5 z8 z8 u5 z7 z7) ?_;simp only[go_sem];refine wG tK ?_;refine wD (λh=>?_) (λh=>?_)
   ·have hZ1:rowsOf 2 (List.replicate (c-L.length) [AV.any,AV.any]):=λrow hr=>by rw[(Yl.1 hr).2];rfl
    have hZ2:0<(List.replicate (c-L.length) [AV.any,AV.any]).length:=by rw[Yi];omega
    generalize List.replicate (c-L.length) [AV.any,AV.any]=Z at hZ1 hZ2;have e0:List.drop i (L++Z)=L.drop i++Z:=by rw[List.drop_append,show i-L.length=0 by omega,List.drop_zero]
    have e1:(List.take (L.length+1-i) (List.drop i (L++Z))).length=L.length+1-i:=by rw[e0];simp;omega
    have e2:List.take (L.length-i) (List.take (L.length+1-i) (List.drop i (L++Z)))=L.drop i:=by
     rw[List.take_take,Yj z8,e0,List.take_append,YJ,YY,List.take_zero,List.append_nil,Wl y7]
    have e3:L.length+1-(i+1)=L.length-i:=by omega
    refine wR ?_;refine ZW ZM ?_;refine ZS rfl ?_;refine sNq tK 8 ?_ ?_ z6 z6 QO
    ·exact ⟨⟨by simp,by omega,hi⟩,by simp,by omega,by omega⟩
    refine sE ?_;refine dSq tK ?_ ?_
    ·simp only[go_sem];refine ⟨by simp,λrow hr=>?_,λ_ _ _ _ h=>by injection h with _ _ _ h;rw[e1,h],?_,?_⟩
     ·have:=YB (Wx hr)
      rcases List.mem_append.1 this with h | h
      ·exact hL row h
      ·exact hZ1 row h
     ·rw[e3,e2];exact nG i hlf
     ·omega
    refine wKd ?_;simp only[go_sem,e2,e3,gA,gB,gC];refine wGq tK ?_ ?_
    ·refine ⟨⟨by simp,by omega,by omega⟩,by simp,by intro row h;rw[List.mem_singleton.1 h];rfl,λ_ _ _ _ h=>by injection h,?_,?_⟩
     ·rw[take_one _ _ z8];rfl
     ·rw[dU j0,List.length_append];omega
    simp only[go_sem,take_one (L.length+1-i) td z8];refine ag (pk (id:=1000) (L.length+1) z6) ?_;simp only[go_sem,xr L Z i td hil hZ2];refine wT ?_;refine ⟨1000,?_,?_⟩
    ·simp[go_sem]
    ·rfl
   ·simp at h
def aw:Node:=⟨0,false,[],[],0⟩
def gf (l:List Node) (f:Int):AV:=.tup [.agg (ZN ((aj l f).getD aw)),.bool (bg l f)]
theorem wY {l:List Node} {k:Int} (h:bg l k=true):aj l k=some (l.getD (placeOf l k) default):=by unfold aj;rw[if_pos h]
theorem wZ {l:List Node} {k:Int} (h:bg l k=false):aj l k=none:=by unfold aj;rw[if_neg WE]
@[go_sem,simp] theorem Ia (l:List Node) (f:Int):refs (gf l f)=[]:=by unfold gf;simp[refs,aC]
theorem cE (l:List Node) (k:Int):bg l k=(aj l k).isSome:=by
 cases h:bg l k
 ·rw[wZ h];rfl
 ·rw[wY h];rfl
theorem oV {l:List Node} {k:Int} {n:Node} (h:aj l k=some n):n∈l:=by
 unfold aj at h;split at h
 ·rename_i hc;injection h with h
  subst h;unfold bg at hc;rw[Bool.and_eq_true] at hc;exact YG (of_decide_eq_true hc.1)
 ·cases h
theorem Small.find {l:List Node} (h:Small l) (k:Int):((aj l k).getD aw).Small:=by
 cases e:aj l k with
 | none=>exact ⟨by simp[aw],by simp[aw]⟩
 | some n=>exact h.each n (oV e)
theorem p_ (n:Node):eW (ZN n)=ZN n:=by
 have h1:iO (n.data.map ZY)=n.data.map ZY:=by rw[dz,YX];rfl
 have h2:iO (n.entries.map ZE)=n.entries.map ZE:=by rw[dz,YX];rfl
 simp only[ZN,eW,nrm,h1,h2]
theorem Dm (l:List Node) (f:Int) (hl:Small l):ae Tryz.prog 82 [.sl (l.map ZN),.int .i64 f] [] (λr _=>r=.tup [.agg (if bg l f=true then ZN (l.getD (placeOf l f) default) else [.int .i64 0,.bool false,.nils,.nils,.int .i64 0]),.bool (bg l f)]):=by
 refine ZF tK (Tryz.func82) rfl (λC=>?_);simp only[Tryz.ntmps82,Tryz.results82,go_sem];refine wG tK ?_;refine wC Tryz.func120 (hf:=(yL l f hl.len)) (hk:=?_);refine wG tK ?_;have hple:=kO l f;have hlen:=hl.len;refine wD (λh=>?_) (λh=>?_)
 ·have hat:bg l f=false:=by simpa using h
  refine wG tK ?_;refine wT ?_;simp[hat]
 ·have hat:bg l f=true:=by simpa using h
  have hpl:placeOf l f<l.length:=by
   unfold bg at hat;rw[Bool.and_eq_true] at hat;exact of_decide_eq_true hat.1
  have hn:=YG hpl;have hd:(l.take (placeOf l f+1)).drop (placeOf l f)=[l.getD (placeOf l f) default]:=by rw[List.drop_take,b_ hpl,Ye];rfl
  have hw:IntKind.i64.wrap ((placeOf l f:Int)+1)=((placeOf l f+1:Nat):Int):=by rw[Eng.wrap_small z8 z8];omega
  generalize l.getD (placeOf l f) default=n at hn hd;refine wGq tK ?_ ?_ w5
  ·simp;exact ⟨by omega,by omega,λ_ _=>rfl⟩
  simp only[go_sem,←Yh,←Yn,hd];refine wC Tryz.func66 (hf:=(kJ [n] ⟨by simp,λx hx=>by rw[List.mem_singleton.1 hx];exact hl.each n hn⟩)) (hk:=?_);refine wGq tK ?_ ?_ w6
  ·simp[go_sem,ZN]
  refine ko ⟨_,_,by simp only[go_sem,ZN];try exact rfl,by simp[go_sem],_,.inr (.inl rfl),?_⟩;simp[hat,ZN]
theorem eo (l:List Node) (f:Int) (hl:Small l):ae Tryz.prog 82 [.sl (l.map ZN),.int .i64 f] [] (λr _=>r=gf l f):=by
 refine ae.iO (Dm l f hl) ?_;unfold gf;cases h:bg l f
 ·rw[wZ h];rfl
 ·rw[wY h];simp only[if_true,nrm,eW,p_,Option.getD_some]
theorem qf (l:List Node) (n:Node):(aE l n).length≤l.length+1:=by
 unfold aE;split
 ·simp
 ·have:=kO l n.fid;simp;omega
theorem Bc {rows:List (List AV)} (h:∀id,(rows.all λrow=>row.all λx=>!(refs x).contains id)=true):∀row,row∈rows->∀x,x∈row->refs x=[]:=λrow hr x hx=>by
 refine List.eq_nil_iff_forall_not_mem.2 λid hid=>?_
 have:=List.all_eq_true.1 (List.all_eq_true.1 (h id) row hr) x hx;rw[YU,List.contains_eq_mem,decide_eq_false_iff_not] at this;exact this hid
theorem xp {L:List (List AV)} {i:Nat} {z:List AV} (h:∀id,(L.all λrow=>row.all λx=>!(refs x).contains id)=true) (hz:∀x,x∈z->refs x=[]):∀row,row∈L.take i++z::L.drop i->∀x,x∈row->refs x=[]:=λrow hr x hx=>by
 rcases List.mem_append.1 hr with h1 | h1
 ·exact Bc h row (Wx h1) x hx
 ·rcases List.mem_cons.1 h1 with rfl | h1
  ·exact hz x hx
  ·exact Bc h row (YB h1) x hx
theorem oa (l:List Node):(l.map ZN).map (λrow=>row.map xO)=l.map ZN:=by
 rw[YX];rfl
theorem mS (l:List Entry):(l.map ZE).map (λrow=>row.map xO)=l.map ZE:=by
 rw[YX];rfl
theorem vB (l:List Node) (i:Nat) (hi:i≤l.length) (hlen:l.length≤100000000) :
  ae Tryz.prog 229 [.osl 1000 5 0 l.length,.int .i64 i,.osl 22 5 0 1] [(22,.cells 94 5 [[.int .i64 0,.bool false,.nils,.nils,.int .i64 0]]),(1000,.cells 94 5 (l.map ZN))]
   (λr H=>r=.osl 7 5 0 (l.length+1)/\∀i' b,aa [(7,.cells 94 5 ((l.take i++aw::l.drop i).map ZN))] i'=some b->aa H i'=some b):=by
 have hL:(l.map ZN).length=l.length:=List.length_map ..;have:=ae.HJ (rows':=(l.take i++aw::l.drop i).map ZN) 7 (xP (l.map ZN) i z8 z8 (sf l) (vA l) (λid=>mV id l)) (by
  rw[List.map_append,List.map_cons,List.map_append,List.map_cons,←Yh,←Yn,oa,oa];rfl) (xp (λid=>mV id l) u5)
 rw[hL] at this;exact this
theorem pZ (M:List Node) (i:Nat) (n:Node):(M.map ZN).set i (ZN n)=(M.set i n).map ZN:=by rw[List.map_set]
theorem se {M:List Node} {i:Nat} (h:i<M.length):(M.map ZN).getD i []=[.int .i64 (M.getD i default).fid,.bool (M.getD i default).dir,.sl ((M.getD i default).data.map ZY),.sl ((M.getD i default).entries.map ZE),.int .i64 (M.getD i default).version]:=by
 rw[Fam.getD h];rfl
theorem Ir (l:List Node) (n:Node) (hl:Small l) (hn:n.Small):ae Tryz.prog 207 [.sl (l.map ZN),.agg (ZN n)] [] (λr _=>r=.sl ((aE l n).map ZN)):=by
 have hlen:=hl.len;refine ZF tK (Tryz.func207) rfl (λC=>?_);simp only[Tryz.ntmps207,Tryz.results207,go_sem];refine wGq tK ?_ ?_ w6
 ·simp
 refine ZZ 3 rfl (rfl) ?_;simp only[go_sem];refine wCG [] 977 Tryz.func66 (hf:=(qT l hl)) (hk:=?_);refine wG tK ?_;refine wV Tryz.func120 (hf:=(yL l n.fid hlen)) (hk:=?_);refine wG tK ?_;have hple:=kO l n.fid;refine wD (λh=>?_) (λh=>?_)
 ·have hat:bg l n.fid=false:=by simpa using h
  refine wG tK ?_;refine wCG [1000,22] 200 Tryz.func229 (hf:=(vB l (placeOf l n.fid) hple hlen)) (hk:=?_);have hM:(l.take (placeOf l n.fid)++aw::l.drop (placeOf l n.fid)).length=l.length+1:=by simp;omega
  have hS:(l.take (placeOf l n.fid)++aw::l.drop (placeOf l n.fid)).set (placeOf l n.fid) n=aE l n:=by
   unfold aE;rw[hat,if_neg y7,List.set_append_right _ _ QK,Wv,Yj hple,YY];rfl
  have hpl:placeOf l n.fid<l.length+1:=by omega
  generalize l.take (placeOf l n.fid)++aw::l.drop (placeOf l n.fid)=M at *;have hlt:placeOf l n.fid<(M).length:=by omega
  have hg:=se hlt;have hq:((M).map ZN).set (placeOf l n.fid) [.int .i64 n.fid,.bool n.dir,.sl (n.data.map ZY),.sl (n.entries.map ZE),.int .i64 n.version]=(aE l n).map ZN:=by
   rw[←hS,←pZ];rfl
  refine wGq tK ?_ ?_ w6
  ·simp[ZN]
  refine ZZ 27 rfl (rfl) ?_;simp only[go_sem];refine wC Tryz.func66 (hf:=(kJ [n] ⟨by simp,λx hx=>by rw[List.mem_singleton.1 hx];exact hn⟩)) (hk:=?_);refine wR ?_;refine wN tK 2 ?_ z6 z6 w6 QV;refine wNq tK 1 ?_ ?_ z6 z6 w6
  ·simp[ZN,hpl,hM]
  refine wNq tK 1 ?_ ?_ z6 z6 w6
  ·exact ⟨by simp,hlt⟩
  simp only[go_sem,hg,hq];refine wG tK ?_;refine ZZ 207 rfl (eV _) ?_;simp only[go_sem];refine wT ?_;rw[if_pos (by rw[←hS,YL];omega),Wl Z2]
 ·have hat:bg l n.fid=true:=by simpa using h
  have hpl:placeOf l n.fid<l.length:=by
   unfold bg at hat;rw[Bool.and_eq_true] at hat;exact of_decide_eq_true hat.1
  have hS:l.set (placeOf l n.fid) n=aE l n:=by
   unfold aE;rw[hat,if_pos rfl]
  have hlt:placeOf l n.fid<(l).length:=by omega
  have hg:=se hlt;have hq:((l).map ZN).set (placeOf l n.fid) [.int .i64 n.fid,.bool n.dir,.sl (n.data.map ZY),.sl (n.entries.map ZE),.int .i64 n.version]=(aE l n).map ZN:=by
   rw[←hS,←pZ];rfl
  refine wGq tK ?_ ?_ w6
  ·simp[ZN]
  refine ZZ 27 rfl (rfl) ?_;simp only[go_sem];refine wC Tryz.func66 (hf:=(kJ [n] ⟨by simp,λx hx=>by rw[List.mem_singleton.1 hx];exact hn⟩)) (hk:=?_);refine wR ?_;refine wN tK 2 ?_ z6 z6 w6 QV;refine wNq tK 1 ?_ ?_ z6 z6 w6
  ·simp[ZN,hpl,hple]
  refine wNq tK 1 ?_ ?_ z6 z6 w6
  ·exact ⟨by simp,hlt⟩
  simp only[go_sem,hg,hq];refine wG tK ?_;refine ZZ 1000 rfl (eV _) ?_;simp only[go_sem];refine wT ?_;rw[if_pos (by rw[←hS,YL];omega),Wl Z2]
def oP (a b:List UInt8):Int:=if a<b then -1 else if b<a then 1 else 0
theorem AL (a b:List UInt8):decide (oP a b<0)=decide (a<b):=by
 unfold oP;split
 ·rename_i h;simp[h]
 ·rename_i h;split
  ·simp[h]
  ·simp[h]
theorem FD (a b:List UInt8):decide (oP a b=0)=decide (a=b):=by
 unfold oP;split
 ·rename_i h;have:a≠b:=by rintro rfl;exact sI _ h
  simp[this]
 ·rename_i h;split
  ·rename_i h2;have:a≠b:=by rintro rfl;exact sI _ h2
   simp[this]
  ·rename_i h2;simp[GH h h2]
theorem t_ (a:List UInt8):ae Tryz.prog 170 [.str a] [] (λr _=>r=.bool false):=by
 refine ZF tK (Tryz.func170) rfl (λC=>?_);simp only[Tryz.ntmps170,Tryz.results170,go_sem];refine wG tK ?_;refine wT ?_;simp
theorem pM (a b:List UInt8):ae Tryz.prog 142 [.str a,.str b] [] (λr _=>r=.int .i64 (oP a b)):=by
 refine ZF tK (Tryz.func142) rfl (λC=>?_);simp only[Tryz.ntmps142,Tryz.results142,go_sem];refine wG tK ?_;refine wC Tryz.func170 (hf:=(t_ a)) (hk:=?_);refine wG tK ?_;refine wC Tryz.func170 (hf:=(t_ b)) (hk:=?_);refine wG tK ?_;refine wD (λh=>?_) (λh=>?_)
 ·cases h
 refine wG tK ?_;refine wD (λh=>?_) (λh=>?_)
 ·cases h
 refine wG tK ?_;refine wD (λh=>?_) (λh=>?_)
 ·rename_i h0 h1;have hab:a<b:=by rw[fO] at h;exact of_decide_eq_true h
  refine wG tK ?_;refine wT ?_;simp[oP,hab]
 have hab:¬a<b:=by rw[fO] at h;exact of_decide_eq_false h
 refine wG tK ?_;refine wD (λh=>?_) (λh=>?_)
 ·have hba:b<a:=by
   rw[fO] at h
   by_cases h3:b<a
   ·exact h3
   ·have:=GH hab h3;subst this;simp at h
  refine wG tK ?_;refine wT ?_;simp[oP,hab,hba]
 have hba:¬b<a:=by
  intro h3;have hne:a≠b:=by rintro rfl;exact sI _ h3
  rw[fO] at h;simp[hab,hne] at h
 refine wG tK ?_;refine wT ?_;simp[oP,hab,hba]
theorem wO (e:Entry) (s:List UInt8):ae Tryz.prog 141 [.agg (ZE e),.str s] [] (λr _=>r=.int .i64 (oP e.name s)):=by
 unfold ZE;refine ZF tK (Tryz.func141) rfl (λC=>?_);simp only[Tryz.ntmps141,Tryz.results141,go_sem];refine wG tK ?_;refine wC Tryz.func142 (hf:=(pM e.name s)) (hk:=?_);refine wG tK ?_;refine wT ?_;rfl
theorem wL (e:Entry) (s:List UInt8):ae Tryz.prog 208 [.agg (ZE e),.str s] [] (λr _=>r=.int .i64 (oP e.name s)):=by
 unfold ZE;refine ZF tK (Tryz.func208) rfl (λC=>?_);simp only[Tryz.ntmps208,Tryz.results208,go_sem];refine wG tK ?_;refine wC Tryz.func142 (hf:=(pM e.name s)) (hk:=?_);refine wG tK ?_;refine wT ?_;rfl
theorem nO (l:List Entry) (s:List UInt8) (hlen:l.length≤100000000) {f:FuncId} (hcal:aJ Tryz.prog f) (hf:∀e,ae Tryz.prog f [.agg (ZE e),.str s] [] (λr _=>r=.int .i64 (oP e.name s))) :
  ae Tryz.prog 140 [.sl (l.map ZE),.str s,.fn f []] [] (λr _=>r=.tup [.int .i64 (aI l s),.bool (isE l s)]):=by
 refine ZF tK (Tryz.func140) rfl (λC=>?_);simp only[Tryz.ntmps140,Tryz.results140,go_sem];refine wG tK ?_;refine ZL (λi:Nat×Nat=>i.1≤i.2/\i.2≤l.length/\bsearch (wH l s) (i.2-i.1) i.1 i.2=aI l s) (λi=>i.2-i.1) (λi=>(9,.int .i64 i.1)::(10,.int .i64 i.2)::(11,.any)::u0 15 20 []) (λ_=>[]) (0,l.length) ⟨by simp,by simp,rfl⟩ ?_ λi hi=>?_
 ·simp only[go_sem];exact ZU w3 w3 w3
 obtain ⟨lo,hi'⟩:=i;obtain ⟨h1,h2,h3⟩:=hi;simp only at h1 h2 h3;simp only[go_sem];refine wG tK ?_;refine wD (λh=>?_) (λh=>?_)
 ·have hlt:lo<hi':=by simp at h;omega
  have hml:(lo+hi') / 2<l.length:=by omega
  have hn:=hf (l.getD ((lo+hi') / 2) default);have hg:(l.map ZE).getD ((lo+hi') / 2) []=ZE (l.getD ((lo+hi') / 2) default):=Fam.getD hml;have hmid:IntKind.i64.wrap ((IntKind.u64.wrap (IntKind.i64.wrap ((lo:Int)+(hi':Int)))).fdiv (2 ^ min 1 64))=(((lo+hi') / 2:Nat):Int):=DQ z8;have hst:=nH (wH l s) hlt;have hlm:wH l s ((lo+hi') / 2)=decide ((l.getD ((lo+hi') / 2) default).name<s):=rfl;have hm1:lo≤(lo+hi') / 2:=by omega
  have hm2:(lo+hi') / 2<hi':=by omega
  generalize l.getD ((lo+hi') / 2) default=n at hn hg hlm;generalize (lo+hi') / 2=m at *;refine wGq tK ?_ ?_ (by simp only[go_sem,hmid,hg,ZE];try exact rfl)
  ·simp[hmid,hg,hml,ZE]
  refine dG rfl rfl z7 w3 hcal (by simp[go_sem,ne_eq]) (hn) w3 z6 ?_;refine wG tK ?_;refine wD (λh=>?_) (λh=>?_)
  ·rw[AL,←hlm] at h;rw[h,if_pos rfl] at hst;have hw:IntKind.i64.wrap ((m:Int)+1)=((m+1:Nat):Int):=by rw[Eng.wrap_small z8 z8];omega
   refine wG tK ?_ w5 k0;refine ZB ⟨(m+1,hi'),⟨by omega,h2,hst▸h3⟩,by simp;omega,ZU ?_ ?_ ?_⟩
   ·simp[go_sem]
   ·simp[go_sem]
   ·simp[go_sem]
  ·rw[AL,←hlm] at h;rw[h,if_neg y7] at hst;refine wG tK ?_;refine ZB ⟨(lo,m),⟨by omega,by omega,hst▸h3⟩,by simp;omega,ZU ?_ ?_ ?_⟩
   ·simp[go_sem]
   ·simp[go_sem]
   ·simp[go_sem]
 ·have hge:¬lo<hi':=by simp at h;omega
  rw[pL _ hge] at h3;subst h3;refine wR ?_;refine wN tK 5 ?_;refine ak 39 z6 (λc39 h39=>?_);simp only[go_sem];cases c39 with
  | true=>
   have hpl:aI l s<l.length:=by have:=of_decide_eq_true h39;omega
   have hn:=hf (l.getD (aI l s) default);have hg:(l.map ZE).getD (aI l s) []=ZE (l.getD (aI l s) default):=Fam.getD hpl;have hat:isE l s=decide ((l.getD (aI l s) default).name=s):=by simp[isE,hpl]
   generalize l.getD (aI l s) default=n at hn hg hat;refine wGq tK ?_ ?_ p4
   ·simp[hg,hpl,ZE]
   refine wy rfl z7 z7 w3 hcal w3 (λhb=>(hn)) w3 z6 ?_;refine wG tK ?_;refine wT ?_;have e:(oP n.name s==0)=decide (n.name=s):=by rw[←FD];by_cases h0:oP n.name s=0<;>simp[h0]
   simp[hat,e]
  | false=>
   have hpl:¬aI l s<l.length:=by have:=of_decide_eq_false h39;omega
   have hat:isE l s=false:=by simp[isE,hpl]
   refine wG tK ?_;refine fI (.int .i64 0) rfl ?_;simp only[go_sem];refine wG tK ?_;refine wT ?_;simp[hat]
def eE:Option Int->AV
 | none=>.tup [.int .i64 0,.bool false]
 | some f=>.tup [.int .i64 f,.bool true]
@[go_sem,simp] theorem HG (o:Option Int):refs (eE o)=[]:=by cases o<;>simp[eE,refs,aC]
theorem jI (n:Node) (s:List UInt8) (hn:n.Small):ae Tryz.prog 104 [.agg (ZN n),.str s] [] (λr _=>r=eE (ba n s)):=by
 have hlen:=hn.entries;unfold ZN;refine ZF tK (Tryz.func104) rfl (λC=>?_);simp only[Tryz.ntmps104,Tryz.results104,go_sem];refine wG tK ?_;refine wC Tryz.func140 (hf:=(nO n.entries s hlen ⟨_,Go.Proofs.Tryz.func141,by kernel_rfl,rfl⟩ (λe=>wO e s))) (hk:=?_);refine wG tK ?_;refine wD (λh=>?_) (λh=>?_)
 ·have hat:isE n.entries s=false:=by simpa using h
  refine wG tK ?_;refine wT ?_;simp[ba,hat,eE]
 ·have hat:isE n.entries s=true:=by simpa using h
  have hpl:aI n.entries s<n.entries.length:=by
   unfold isE at hat;rw[Bool.and_eq_true] at hat;exact of_decide_eq_true hat.1
  have hg:(n.entries.map ZE).getD (aI n.entries s) []=ZE (n.entries.getD (aI n.entries s) default):=Fam.getD hpl;have hr:ba n s=some (n.entries.getD (aI n.entries s) default).fid:=by simp[ba,hat]
  rw[hr];generalize n.entries.getD (aI n.entries s) default=e at hg;refine wGq tK ?_ ?_ p4
  ·simp[hg,hpl,ZE]
  refine wT ?_;simp[eE]
end La
