/- Texts of this claim, part 9: Put, PEnt, ModK, Ent, OwnH, Nam, PLog, Logs, Nrm, EngAM, EngAO, EngAP, EngAQ, EngAR. No condition. -/
import Derived.Test.YtmcfbfdonjllaaaGreatDoorZK8
set_option maxRecDepth 10000
set_option maxHeartbeats 4000000
set_option linter.unusedSimpArgs false
set_option linter.unusedVariables false
namespace La
open Go Go.Eng Go.Proofs
theorem oN (l:List Node) (n:Node):(aI l n).length≤l.length+1:=by
 unfold aI;split
 ·simp
 ·have:=ju l n.fid;simp;omega
theorem zw {rows:List (List AV)} (h:∀id,(rows.all λrow=>row.all λx=>!(refs x).contains id)=true):∀row,row∈rows->∀x,x∈row->refs x=[]:=λrow hr x hx=>by
 refine List.eq_nil_iff_forall_not_mem.2 λid hid=>?_
 have:=List.all_eq_true.1 (List.all_eq_true.1 (h id) row hr) x hx;rw[WQ,List.contains_eq_mem,decide_eq_false_iff_not] at this;exact this hid
theorem vq {L:List (List AV)} {i:Nat} {z:List AV} (h:∀id,(L.all λrow=>row.all λx=>!(refs x).contains id)=true) (hz:∀x,x∈z->refs x=[]):∀row,row∈L.take i++z::L.drop i->∀x,x∈row->refs x=[]:=λrow hr x hx=>by
 rcases List.mem_append.1 hr with h1 | h1
 ·exact zw h row (Z3 h1) x hx
 ·rcases List.mem_cons.1 h1 with rfl | h1
  ·exact hz x hx
  ·exact zw h row (WS h1) x hx
theorem mM (l:List Node):(l.map ZN).map (λrow=>row.map vX)=l.map ZN:=by
 rw[WX];rfl
theorem la (l:List Entry):(l.map ZE).map (λrow=>row.map vX)=l.map ZE:=by
 rw[WX];rfl
theorem tZ (l:List Node) (i:Nat) (hi:i≤l.length) (hlen:l.length≤100000000) :
  ae Tryz.prog 229 [.osl 1000 5 0 l.length,.int .i64 i,.osl 22 5 0 1] [(22,.cells 94 5 [[.int .i64 0,.bool false,.nils,.nils,.int .i64 0]]),(1000,.cells 94 5 (l.map ZN))]
   (λr H=>r=.osl 7 5 0 (l.length+1)/\∀i' b,aa [(7,.cells 94 5 ((l.take i++aC::l.drop i).map ZN))] i'=some b->aa H i'=some b):=by
 have hL:(l.map ZN).length=l.length:=List.length_map ..;have:=ae.GL (rows':=(l.take i++aC::l.drop i).map ZN) 7 (vY (l.map ZN) i z7 z7 (qO l) (tY l) (λid=>lf id l)) (by
  rw[List.map_append,List.map_cons,List.map_append,List.map_cons,←Wt,←List.map_drop,mM,mM];rfl) (vq (λid=>lf id l) k8)
 rw[hL] at this;exact this
theorem oI (M:List Node) (i:Nat) (n:Node):(M.map ZN).set i (ZN n)=(M.set i n).map ZN:=by rw[List.map_set]
theorem qN {M:List Node} {i:Nat} (h:i<M.length):(M.map ZN).getD i []=[.int .i64 (M.getD i default).fid,.bool (M.getD i default).dir,.sl ((M.getD i default).data.map ZY),.sl ((M.getD i default).entries.map ZE),.int .i64 (M.getD i default).version]:=by
 rw[Fam.getD h];rfl
theorem Hq (l:List Node) (n:Node) (hl:Small l) (hn:n.Small):ae Tryz.prog 207 [.sl (l.map ZN),.agg (ZN n)] [] (λr _=>r=.sl ((aI l n).map ZN)):=by
 have hlen:=hl.len;refine ZF tK (Tryz.func207) rfl (λC=>?_);simp only[Tryz.ntmps207,Tryz.results207,go_sem];refine wGq tK ?_ ?_ w3
 ·simp
 refine ZZ 3 rfl (rfl) ?_;simp only[go_sem];refine wCG [] 977 Tryz.func66 (hf:=(pC l hl)) (hk:=?_);refine wG tK ?_;refine wV Tryz.func120 (hf:=(xd l n.fid hlen)) (hk:=?_);refine wG tK ?_;have hple:=ju l n.fid;refine wD (λh=>?_) (λh=>?_)
 ·have hat:bn l n.fid=false:=by simpa using h
  refine wG tK ?_;refine wCG [1000,22] 200 Tryz.func229 (hf:=(tZ l (placeOf l n.fid) hple hlen)) (hk:=?_);have hM:(l.take (placeOf l n.fid)++aC::l.drop (placeOf l n.fid)).length=l.length+1:=by simp;omega
  have hS:(l.take (placeOf l n.fid)++aC::l.drop (placeOf l n.fid)).set (placeOf l n.fid) n=aI l n:=by
   unfold aI;rw[hat,if_neg w7,List.set_append_right _ _ n3,Z9,Wo hple,WY];rfl
  have hpl:placeOf l n.fid<l.length+1:=by omega
  generalize l.take (placeOf l n.fid)++aC::l.drop (placeOf l n.fid)=M at *;have hlt:placeOf l n.fid<(M).length:=by omega
  have hg:=qN hlt;have hq:((M).map ZN).set (placeOf l n.fid) [.int .i64 n.fid,.bool n.dir,.sl (n.data.map ZY),.sl (n.entries.map ZE),.int .i64 n.version]=(aI l n).map ZN:=by
   rw[←hS,←oI];rfl
  refine wGq tK ?_ ?_ w3
  ·simp[ZN]
  refine ZZ 27 rfl (rfl) ?_;simp only[go_sem];refine wC Tryz.func66 (hf:=(jr [n] ⟨by simp,λx hx=>by rw[List.mem_singleton.1 hx];exact hn⟩)) (hk:=?_);refine wR ?_;refine wN tK 2 ?_ z6 z6 w3 Qy;refine wNq tK 1 ?_ ?_ z6 z6 w3
  ·simp[ZN,hpl,hM]
  refine wNq tK 1 ?_ ?_ z6 z6 w3
  ·exact ⟨by simp,hlt⟩
  simp only[go_sem,hg,hq];refine wG tK ?_;refine ZZ 207 rfl (dG _) ?_;simp only[go_sem];refine wT ?_;rw[if_pos (by rw[←hS,WD];omega),Zt Qw]
 ·have hat:bn l n.fid=true:=by simpa using h
  have hpl:placeOf l n.fid<l.length:=by
   unfold bn at hat;rw[Bool.and_eq_true] at hat;exact of_decide_eq_true hat.1
  have hS:l.set (placeOf l n.fid) n=aI l n:=by
   unfold aI;rw[hat,if_pos rfl]
  have hlt:placeOf l n.fid<(l).length:=by omega
  have hg:=qN hlt;have hq:((l).map ZN).set (placeOf l n.fid) [.int .i64 n.fid,.bool n.dir,.sl (n.data.map ZY),.sl (n.entries.map ZE),.int .i64 n.version]=(aI l n).map ZN:=by
   rw[←hS,←oI];rfl
  refine wGq tK ?_ ?_ w3
  ·simp[ZN]
  refine ZZ 27 rfl (rfl) ?_;simp only[go_sem];refine wC Tryz.func66 (hf:=(jr [n] ⟨by simp,λx hx=>by rw[List.mem_singleton.1 hx];exact hn⟩)) (hk:=?_);refine wR ?_;refine wN tK 2 ?_ z6 z6 w3 Qy;refine wNq tK 1 ?_ ?_ z6 z6 w3
  ·simp[ZN,hpl,hple]
  refine wNq tK 1 ?_ ?_ z6 z6 w3
  ·exact ⟨by simp,hlt⟩
  simp only[go_sem,hg,hq];refine wG tK ?_;refine ZZ 1000 rfl (dG _) ?_;simp only[go_sem];refine wT ?_;rw[if_pos (by rw[←hS,WD];omega),Zt Qw]
end La
namespace La
open Go
theorem kb:∀(a b:List UInt8),Op.bytesLess a b=decide (a<b)
 | [],[]=>by simp[Op.bytesLess]
 | [],_::_=>by simp[Op.bytesLess]
 | _::_,[]=>by simp[Op.bytesLess]
 | p::a,q::b=>by
  unfold Op.bytesLess;rw[kb a b,Bool.eq_iff_iff];simp only[Bool.or_eq_true,decide_eq_true_eq,Bool.and_eq_true,beq_iff_eq,List.cons_lt_cons_iff]
theorem wH (a:List UInt8):¬a<a:=List.lt_irrefl a
theorem Db {a b c:List UInt8} (h:a<b) (k:b<c):a<c:=List.lt_trans h k
theorem Hw {a b:List UInt8} (h:¬a<b) (k:¬b<a):a=b:=List.le_antisymm (List.not_lt.1 k) (List.not_lt.1 h)
def uS (l:List Entry) (s:List UInt8) (i:Nat):Bool:=decide ((l.getD i default).name<s)
def aH (l:List Entry) (s:List UInt8):Nat:=bsearch (uS l s) l.length 0 l.length
def isE (l:List Entry) (s:List UInt8):Bool:=decide (aH l s<l.length)&&decide ((l.getD (aH l s) default).name=s)
def bJ (n:Node) (s:List UInt8):Option Int:=if isE n.entries s then some (n.entries.getD (aH n.entries s) default).fid else none
def bb (l:List Entry) (s:List UInt8) (f:Int):List Entry:=if isE l s then l.set (aH l s) ⟨s,f⟩ else l.take (aH l s)++⟨s,f⟩::l.drop (aH l s)
def ct (l:List Entry) (s:List UInt8):List Entry:=l.filter λe=>!(e.name==s)
def aZ (n:Node) (s:List UInt8) (f:Int):Node:={ n with entries:=bb n.entries s f }
def aM (n:Node) (s:List UInt8):Node:={ n with entries:=ct n.entries s }
theorem nF (l:List Entry) (s:List UInt8):aH l s≤l.length:=(iU _ _ _ _ (Wl _)).2
def EUp (l:List Entry):Prop:=l.Pairwise λa b=>a.name<b.name
theorem EUp.lt {l:List Entry} (h:EUp l) {i j:Nat} (hij:i<j) (hj:j<l.length):(l.getD i default).name<(l.getD j default).name:=by
 have:=Wp.1 h i j z7 hj hij;rw[Zo,Zo,Zp z7,Zp hj];exact this
theorem EUp.place {l:List Entry} (h:EUp l) (s:List UInt8):(∀i,i<aH l s->(l.getD i default).name<s)/\∀i,aH l s≤i->i<l.length->¬(l.getD i default).name<s:=by
 have:=fR (uS l s) l.length (λi j hij hj hl=>by
  rcases Nat.lt_or_eq_of_le hij with h1 | rfl
  ·exact decide_eq_true (Db (h.lt h1 hj) (of_decide_eq_true hl))
  ·exact hl) l.length 0 l.length z7 z7 (Zw _) (λi hi=>by omega) (λi h1 h2=>by omega)
 obtain ⟨_,h2,h3⟩:=this;exact ⟨λi hi=>of_decide_eq_true (h2 i hi),λi hi hl=>of_decide_eq_false (h3 i hi hl)⟩
theorem gn {l:List Entry} {x:Entry} {i:Nat} (h:l[i]? = some x):l.getD i default=x:=by rw[Zo,h];rfl
theorem za {l:List Entry} (h:EUp l) (s:List UInt8):isE l s=true↔∃e,e∈l/\e.name=s:=by
 obtain ⟨p1,p2⟩:=h.place s;unfold isE;rw[Bool.and_eq_true,decide_eq_true_eq,decide_eq_true_eq];constructor
 ·rintro ⟨h1,h2⟩;exact ⟨_,YG h1,h2⟩
 ·rintro ⟨e,he,rfl⟩;obtain ⟨i,hi⟩:=Z1 he;have hil:i<l.length:=(Zu.1 hi).1;have hix:=gn hi;have hpi:aH l e.name=i:=by
   rcases Nat.lt_trichotomy (aH l e.name) i with h1 | h1 | h1
   ·have:=p2 _ (Zw _) z7;have h3:=h.lt h1 hil;rw[hix] at h3;exact absurd h3 this
   ·exact h1
   ·have:=p1 i h1;rw[hix] at this;exact absurd this (wH _)
  rw[hpi,hix];exact ⟨hil,rfl⟩
theorem EUp.parts {l:List Entry} (h:EUp l) {s:List UInt8} (hs:isE l s=false):(∀e,e∈l.take (aH l s)->e.name<s)/\∀e,e∈l.drop (aH l s)->s<e.name:=by
 obtain ⟨p1,p2⟩:=h.place s;refine ⟨λe he=>?_,λe he=>?_⟩
 ·obtain ⟨i,hi⟩:=Z1 he;rw[WE] at hi;split at hi
  ·rename_i hip;have:=p1 i hip
   rwa [gn hi] at this
  ·cases hi
 ·obtain ⟨i,hi⟩:=Z1 he;rw[WJ] at hi;have h1:=p2 (aH l s+i) z7 (Zu.1 hi).1;rw[gn hi] at h1
  by_cases h2:s<e.name
  ·exact h2
  ·have h3:=Hw h1 h2;have:isE l s=true:=(za h s).2 ⟨e,Zs hi,h3⟩;rw[hs] at this;cases this
theorem iy {l:List Entry} (h:EUp l) {s:List UInt8} (hs:isE l s=false) (f:Int):EUp (bb l s f)/\(∀e,e∈bb l s f↔e=⟨s,f⟩\/e∈l)/\ct (bb l s f) s=l:=by
 obtain ⟨h1,h2⟩:=h.parts hs;unfold bb ct;rw[hs,if_neg w7];generalize aH l s=p at *;have hmem:∀x,x∈l↔x∈l.take p\/x∈l.drop p:=λx=>by
  have:=List.mem_append (a:=x) (s:=l.take p) (t:=l.drop p);rw[Wq] at this;exact this
 refine ⟨?_,λe=>?_,?_⟩
 ·refine List.pairwise_append.2 ⟨h.sublist (List.take_sublist _ _),List.pairwise_cons.2 ⟨h2,h.sublist (List.drop_sublist _ _)⟩,λa ha b hb=>?_⟩
  rcases List.mem_cons.1 hb with rfl | hb
  ·exact h1 a ha
  ·exact Db (h1 a ha) (h2 b hb)
 ·rw[hmem,List.mem_append,List.mem_cons];constructor
  ·rintro (h | h | h)
   ·exact .inr (.inl h)
   ·exact .inl h
   ·exact .inr (.inr h)
  ·rintro (h | h | h)
   ·exact .inr (.inl h)
   ·exact .inl h
   ·exact .inr (.inr h)
 ·rw[List.filter_append,List.filter_cons,WV.2 (λe he=>?_),WV.2 (λe he=>?_)]
  ·simp
  ·have:e.name≠s:=by rintro rfl;exact wH _ (h2 e he)
   simpa using this
  ·have:e.name≠s:=by rintro rfl;exact wH _ (h1 e he)
   simpa using this
theorem EUp.same {l:List Entry} (h:EUp l) {a b:Entry} (ha:a∈l) (hb:b∈l) (hn:a.name=b.name):a=b:=by
 obtain ⟨i,hi⟩:=Z1 ha;obtain ⟨j,hj⟩:=Z1 hb;have hil:=(Zu.1 hi).1;have hjl:=(Zu.1 hj).1
 rcases Nat.lt_trichotomy i j with h1 | h1 | h1
 ·have:=h.lt h1 hjl;rw[gn hi,gn hj,hn] at this;exact absurd this (wH _)
 ·subst h1;rw[hi] at hj;injection hj
 ·have:=h.lt h1 hil;rw[gn hi,gn hj,hn] at this;exact absurd this (wH _)
theorem YE {n:Node} (h:EUp n.entries) {s:List UInt8} {f:Int}:bJ n s=some f↔⟨s,f⟩∈n.entries:=by
 unfold bJ;constructor
 ·intro hf;split at hf
  ·rename_i hc;unfold isE at hc;rw[Bool.and_eq_true,decide_eq_true_eq,decide_eq_true_eq] at hc;have:=YG hc.1;injection hf with hf
   have e:n.entries.getD (aH n.entries s) default=⟨s,f⟩:=by
    cases h0:n.entries.getD (aH n.entries s) default with
    | mk a b=>rw[h0] at hf hc;simp only at hf hc;rw[←hf,←hc.2]
   rw[←e];exact this
  ·cases hf
 ·intro hm;have hi:=(za h s).2 ⟨_,hm,rfl⟩;rw[if_pos hi];unfold isE at hi;rw[Bool.and_eq_true,decide_eq_true_eq,decide_eq_true_eq] at hi;have:=h.same (YG hi.1) hm hi.2;rw[this]
end La
namespace La
open Go Go.Eng
structure Kept where
 node:Node
 dirty:Bool
 worth:Int
 last:Int
deriving DecidableEq,Inhabited
structure Verdict where
 err:Int
 fid:Int
deriving DecidableEq,Inhabited
structure Past where
 client:Int
 act:Act
deriving DecidableEq,Inhabited
def ZK (k:Kept):List AV:=[.int .i64 k.node.fid,.bool k.node.dir,.sl (k.node.data.map ZY),.sl (k.node.entries.map ZE),.int .i64 k.node.version,.bool k.dirty,.int .i64 k.worth,.int .i64 k.last]
def cQ (s:List UInt8):List AV:=[.str s]
def ZV (v:Verdict):List AV:=[.int .i64 v.err,.int .i64 v.fid]
def ZP (p:Past):List AV:=[.int .i64 p.client,.int .i64 p.act.kind,.int .i64 p.act.fid,.int .i64 p.act.dir,.str p.act.name,.int .i64 p.act.to,.str p.act.toName,.sl (p.act.data.map ZY)]
theorem ep:Fam ZK 8:=⟨λ_=>rfl,λ_=>rfl,λ_=>rfl,λ_=>rfl⟩
@[go_sem,simp] theorem qB (l:List _):Eng.rowsOf 8 (l.map ZK):=ep.rowsOf l
@[go_sem,simp] theorem tQ (l:List _):((l.map ZK).all λrow=>row.all AV.leaf)=true:=ep.lZ l
@[go_sem,simp] theorem bR (l:List _):((l.map ZK).all λrow=>row.all AV.aX)=true:=ep.dX l
@[go_sem,simp] theorem DA (id:Nat) (l:List _):((l.map ZK).all λrow=>row.all λx=>!(refs x).contains id)=true:=ep.iJ id l
@[go_sem,simp] theorem DB (e s:Nat) (l:List _):au (.cells e s (l.map ZK))=[]:=ep.au e s l
@[go_sem,simp] theorem EJ (off:Nat) (l:List _):(l.map ZK).map (eR off)=l.map ZK:=Fam.eR (λ_ _=>rfl) off l
@[go_sem,simp] theorem EI (id s:Nat) (rows:List (List AV)) (l:List _):(l.map ZK).map (cm id s rows)=l.map ZK:=Fam.cm (λ_ _ _ _=>rfl) id s rows l
@[go_sem,simp] theorem DC (a):av (ZK a)=[]:=ep.free a
theorem eH:Fam ZV 2:=⟨λ_=>rfl,λ_=>rfl,λ_=>rfl,λ_=>rfl⟩
@[go_sem,simp] theorem pr (l:List _):((l.map ZV).all λrow=>row.all AV.aX)=true:=eH.dX l
@[go_sem,simp] theorem Bg (id:Nat) (l:List _):((l.map ZV).all λrow=>row.all λx=>!(refs x).contains id)=true:=eH.iJ id l
@[go_sem,simp] theorem Bh (e s:Nat) (l:List _):au (.cells e s (l.map ZV))=[]:=eH.au e s l
@[go_sem,simp] theorem Bp (id s:Nat) (rows:List (List AV)) (l:List _):(l.map ZV).map (cm id s rows)=l.map ZV:=Fam.cm (λ_ _ _ _=>rfl) id s rows l
@[go_sem,simp] theorem Bi (a):av (ZV a)=[]:=eH.free a
theorem jV:Fam ZP 8:=⟨λ_=>rfl,λ_=>rfl,λ_=>rfl,λ_=>rfl⟩
@[go_sem,simp] theorem fV (l:List _):((l.map ZP).all λrow=>row.all AV.aX)=true:=jV.dX l
@[go_sem,simp] theorem fq (id:Nat) (l:List _):((l.map ZP).all λrow=>row.all λx=>!(refs x).contains id)=true:=jV.iJ id l
@[go_sem,simp] theorem DG (e s:Nat) (l:List _):au (.cells e s (l.map ZP))=[]:=jV.au e s l
@[go_sem,simp] theorem Fc (off:Nat) (l:List _):(l.map ZP).map (eR off)=l.map ZP:=Fam.eR (λ_ _=>rfl) off l
@[go_sem,simp] theorem Fb (id s:Nat) (rows:List (List AV)) (l:List _):(l.map ZP).map (cm id s rows)=l.map ZP:=Fam.cm (λ_ _ _ _=>rfl) id s rows l
end La
namespace La
open Go Go.Eng Go.Proofs
def nx (a b:List UInt8):Int:=if a<b then -1 else if b<a then 1 else 0
theorem yM (a b:List UInt8):decide (nx a b<0)=decide (a<b):=by
 unfold nx;split
 ·rename_i h;simp[h]
 ·rename_i h;split
  ·simp[h]
  ·simp[h]
theorem Ej (a b:List UInt8):decide (nx a b=0)=decide (a=b):=by
 unfold nx;split
 ·rename_i h;have:a≠b:=by rintro rfl;exact wH _ h
  simp[this]
 ·rename_i h;split
  ·rename_i h2;have:a≠b:=by rintro rfl;exact wH _ h2
   simp[this]
  ·rename_i h2;simp[Hw h h2]
theorem sA (a:List UInt8):ae Tryz.prog 170 [.str a] [] (λr _=>r=.bool false):=by
 refine ZF tK (Tryz.func170) rfl (λC=>?_);simp only[Tryz.ntmps170,Tryz.results170,go_sem];refine wG tK ?_;refine wT ?_;simp
theorem ou (a b:List UInt8):ae Tryz.prog 142 [.str a,.str b] [] (λr _=>r=.int .i64 (nx a b)):=by
 refine ZF tK (Tryz.func142) rfl (λC=>?_);simp only[Tryz.ntmps142,Tryz.results142,go_sem];refine wG tK ?_;refine wC Tryz.func170 (hf:=(sA a)) (hk:=?_);refine wG tK ?_;refine wC Tryz.func170 (hf:=(sA b)) (hk:=?_);refine wG tK ?_;refine wD (λh=>?_) (λh=>?_)
 ·cases h
 refine wG tK ?_;refine wD (λh=>?_) (λh=>?_)
 ·cases h
 refine wG tK ?_;refine wD (λh=>?_) (λh=>?_)
 ·rename_i h0 h1;have hab:a<b:=by rw[kb] at h;exact of_decide_eq_true h
  refine wG tK ?_;refine wT ?_;simp[nx,hab]
 have hab:¬a<b:=by rw[kb] at h;exact of_decide_eq_false h
 refine wG tK ?_;refine wD (λh=>?_) (λh=>?_)
 ·have hba:b<a:=by
   rw[kb] at h
   by_cases h3:b<a
   ·exact h3
   ·have:=Hw hab h3;subst this;simp at h
  refine wG tK ?_;refine wT ?_;simp[nx,hab,hba]
 have hba:¬b<a:=by
  intro h3;have hne:a≠b:=by rintro rfl;exact wH _ h3
  rw[kb] at h;simp[hab,hne] at h
 refine wG tK ?_;refine wT ?_;simp[nx,hab,hba]
theorem uV (e:Entry) (s:List UInt8):ae Tryz.prog 141 [.agg (ZE e),.str s] [] (λr _=>r=.int .i64 (nx e.name s)):=by
 unfold ZE;refine ZF tK (Tryz.func141) rfl (λC=>?_);simp only[Tryz.ntmps141,Tryz.results141,go_sem];refine wG tK ?_;refine wC Tryz.func142 (hf:=(ou e.name s)) (hk:=?_);refine wG tK ?_;refine wT ?_;rfl
theorem uT (e:Entry) (s:List UInt8):ae Tryz.prog 208 [.agg (ZE e),.str s] [] (λr _=>r=.int .i64 (nx e.name s)):=by
 unfold ZE;refine ZF tK (Tryz.func208) rfl (λC=>?_);simp only[Tryz.ntmps208,Tryz.results208,go_sem];refine wG tK ?_;refine wC Tryz.func142 (hf:=(ou e.name s)) (hk:=?_);refine wG tK ?_;refine wT ?_;rfl
theorem mo (l:List Entry) (s:List UInt8) (hlen:l.length≤100000000) {f:FuncId} (hcal:ax Tryz.prog f) (hf:∀e,ae Tryz.prog f [.agg (ZE e),.str s] [] (λr _=>r=.int .i64 (nx e.name s))) :
  ae Tryz.prog 140 [.sl (l.map ZE),.str s,.fn f []] [] (λr _=>r=.tup [.int .i64 (aH l s),.bool (isE l s)]):=by
 refine ZF tK (Tryz.func140) rfl (λC=>?_);simp only[Tryz.ntmps140,Tryz.results140,go_sem];refine wG tK ?_;refine ZL (λi:Nat×Nat=>i.1≤i.2/\i.2≤l.length/\bsearch (uS l s) (i.2-i.1) i.1 i.2=aH l s) (λi=>i.2-i.1) (λi=>(9,.int .i64 i.1)::(10,.int .i64 i.2)::(11,.any)::u0 15 20 []) (λ_=>[]) (0,l.length) ⟨by simp,by simp,rfl⟩ ?_ λi hi=>?_
 ·simp only[go_sem];exact ZU w1 w1 w1
 obtain ⟨lo,hi'⟩:=i;obtain ⟨h1,h2,h3⟩:=hi;simp only at h1 h2 h3;simp only[go_sem];refine wG tK ?_;refine wD (λh=>?_) (λh=>?_)
 ·have hlt:lo<hi':=by simp at h;omega
  have hml:(lo+hi') / 2<l.length:=by omega
  have hn:=hf (l.getD ((lo+hi') / 2) default);have hg:(l.map ZE).getD ((lo+hi') / 2) []=ZE (l.getD ((lo+hi') / 2) default):=Fam.getD hml;have hmid:IntKind.i64.wrap ((IntKind.u64.wrap (IntKind.i64.wrap ((lo:Int)+(hi':Int)))).fdiv (2 ^ min 1 64))=(((lo+hi') / 2:Nat):Int):=Cv z7;have hst:=ma (uS l s) hlt;have hlm:uS l s ((lo+hi') / 2)=decide ((l.getD ((lo+hi') / 2) default).name<s):=rfl;have hm1:lo≤(lo+hi') / 2:=by omega
  have hm2:(lo+hi') / 2<hi':=by omega
  generalize l.getD ((lo+hi') / 2) default=n at hn hg hlm;generalize (lo+hi') / 2=m at *;refine wGq tK ?_ ?_ (by simp only[go_sem,hmid,hg,ZE];try exact rfl)
  ·simp[hmid,hg,hml,ZE]
  refine cM rfl rfl z8 w1 hcal (by simp[go_sem,ne_eq]) (hn) w1 z6 ?_;refine wG tK ?_;refine wD (λh=>?_) (λh=>?_)
  ·rw[yM,←hlm] at h;rw[h,if_pos rfl] at hst;have hw:IntKind.i64.wrap ((m:Int)+1)=((m+1:Nat):Int):=by rw[Eng.wrap_small z7 z7];omega
   refine wG tK ?_ w6 k0;refine ZB ⟨(m+1,hi'),⟨by omega,h2,hst▸h3⟩,by simp;omega,ZU ?_ ?_ ?_⟩
   ·simp[go_sem]
   ·simp[go_sem]
   ·simp[go_sem]
  ·rw[yM,←hlm] at h;rw[h,if_neg w7] at hst;refine wG tK ?_;refine ZB ⟨(lo,m),⟨by omega,by omega,hst▸h3⟩,by simp;omega,ZU ?_ ?_ ?_⟩
   ·simp[go_sem]
   ·simp[go_sem]
   ·simp[go_sem]
 ·have hge:¬lo<hi':=by simp at h;omega
  rw[ot _ hge] at h3;subst h3;refine wR ?_;refine wN tK 5 ?_;refine aV 39 z6 (λc39 h39=>?_);simp only[go_sem];cases c39 with
  | true=>
   have hpl:aH l s<l.length:=by have:=of_decide_eq_true h39;omega
   have hn:=hf (l.getD (aH l s) default);have hg:(l.map ZE).getD (aH l s) []=ZE (l.getD (aH l s) default):=Fam.getD hpl;have hat:isE l s=decide ((l.getD (aH l s) default).name=s):=by simp[isE,hpl]
   generalize l.getD (aH l s) default=n at hn hg hat;refine wGq tK ?_ ?_ QI
   ·simp[hg,hpl,ZE]
   refine uP rfl z8 z8 w1 hcal w1 (λhb=>(hn)) w1 z6 ?_;refine wG tK ?_;refine wT ?_;have e:(nx n.name s==0)=decide (n.name=s):=by rw[←Ej];by_cases h0:nx n.name s=0<;>simp[h0]
   simp[hat,e]
  | false=>
   have hpl:¬aH l s<l.length:=by have:=of_decide_eq_false h39;omega
   have hat:isE l s=false:=by simp[isE,hpl]
   refine wG tK ?_;refine fj (.int .i64 0) rfl ?_;simp only[go_sem];refine wG tK ?_;refine wT ?_;simp[hat]
def dp:Option Int->AV
 | none=>.tup [.int .i64 0,.bool false]
 | some f=>.tup [.int .i64 f,.bool true]
@[go_sem,simp] theorem GH (o:Option Int):refs (dp o)=[]:=by cases o<;>simp[dp,refs,av]
theorem iz (n:Node) (s:List UInt8) (hn:n.Small):ae Tryz.prog 104 [.agg (ZN n),.str s] [] (λr _=>r=dp (bJ n s)):=by
 have hlen:=hn.entries;unfold ZN;refine ZF tK (Tryz.func104) rfl (λC=>?_);simp only[Tryz.ntmps104,Tryz.results104,go_sem];refine wG tK ?_;refine wC Tryz.func140 (hf:=(mo n.entries s hlen ⟨_,Go.Proofs.Tryz.func141,by kernel_rfl,rfl⟩ (λe=>uV e s))) (hk:=?_);refine wG tK ?_;refine wD (λh=>?_) (λh=>?_)
 ·have hat:isE n.entries s=false:=by simpa using h
  refine wG tK ?_;refine wT ?_;simp[bJ,hat,dp]
 ·have hat:isE n.entries s=true:=by simpa using h
  have hpl:aH n.entries s<n.entries.length:=by
   unfold isE at hat;rw[Bool.and_eq_true] at hat;exact of_decide_eq_true hat.1
  have hg:(n.entries.map ZE).getD (aH n.entries s) []=ZE (n.entries.getD (aH n.entries s) default):=Fam.getD hpl;have hr:bJ n s=some (n.entries.getD (aH n.entries s) default).fid:=by simp[bJ,hat]
  rw[hr];generalize n.entries.getD (aH n.entries s) default=e at hg;refine wGq tK ?_ ?_ QI
  ·simp[hg,hpl,ZE]
  refine wT ?_;simp[dp]
theorem pR (d:List Entry) (hd:d.length≤100000000):ae Tryz.prog 101 [.sl (d.map ZE)] [] (λr H=>r=.osl 7 2 0 d.length/\∀i b,aa [(7,.cells 96 2 (d.map ZE))] i=some b->aa H i=some b):=by
 refine ZF tK (Tryz.func101) rfl (λC=>?_);simp only[Tryz.ntmps101,Tryz.results101,go_sem];refine wG tK ?_;refine jN tK rfl rfl rfl j6 j6 (λb hb=>?_);simp only[go_sem];refine wG tK ?_;refine wD (λh=>?_) (λh=>?_)
 ·have hn:d.map ZE=[]:=hb h;have hd0:d=[]:=by simpa using hn
  subst hd0;refine ay (le_empty 7 96 2 rfl) ?_;refine wG tK ?_;refine iX ⟨_,_,by simp only[go_sem];try exact rfl,by simp[go_sem],.osl 7 2 0 0,.inr (.inr ⟨rfl,.inr ⟨7,2,0,rfl⟩⟩),?_⟩;simp[go_sem]
 ·refine wGq tK ?_ ?_
  ·simp;omega
  refine wT ?_;simp[go_sem]
def jb (n:Node) (id:Nat):List AV:=[.int .i64 n.fid,.bool n.dir,.sl (n.data.map ZY),.osl id 2 0 n.entries.length,.int .i64 n.version]
@[go_sem,simp] theorem Hc (n:Node) (id:Nat):jb n id=[.int .i64 n.fid,.bool n.dir,.sl (n.data.map ZY),.osl id 2 0 n.entries.length,.int .i64 n.version]:=rfl
theorem wg (n:Node) (hn:n.Small):ae Tryz.prog 66 [.sl [ZN n]] [] (λr H=>r=.osl 23 5 0 1/\∀i b,aa [(23,.cells 94 5 [jb n 1000]),(1000,.cells 96 2 (n.entries.map ZE))] i=some b->aa H i=some b):=by
 refine ZF tK (Tryz.func66) rfl (λC=>?_);simp only[Tryz.ntmps66,Tryz.results66,go_sem];refine wG tK ?_;refine ZL (λ_:Bool=>True) (λi=>cond i 1 0) (λi=>match i with
   | true=>(3,.osl 23 5 0 0)::(5,.any)::(8,.int .i64 0)::u0 9 16 []
   | false=>(3,.osl 23 5 0 1)::(5,.any)::(8,.int .i64 1)::u0 9 16 [])
  (λi=>match i with
   | true=>[(23,.cells 94 5 [])]
   | false=>[(23,.cells 94 5 [jb n 1000]),(1000,.cells 96 2 (n.entries.map ZE))]) true trivial ?_ λi hi=>?_
 ·simp only[go_sem];exact ZU w1 w1 s7
 cases i with
 | true=>
  simp only[go_sem];refine wG tK ?_;refine wD (λh=>?_) (λh=>?_)
  ·refine wGq tK ?_ ?_ w3
   ·simp[ZN]
   refine ZW ZM ?_;refine ZS rfl ?_;refine sG tK ?_;refine sC Tryz.func100 (hf:=(jK _ hn.data)) (hk:=?_);refine sG tK ?_;refine ff 993 rfl rfl z8 w1 ⟨_,Tryz.func101,by kernel_rfl,rfl⟩ w1 (pR _ hn.entries) w1 z8 z8 w1 z6 z6 ?_;refine sG tK ?_;refine sE ?_;refine dS tK ?_;refine ZS rfl ?_;refine sG tK ?_;refine sE ?_;refine dS tK ?_;refine wKd ?_;refine wGq tK ?_ ?_
   ·simp[rowsOf]
   refine ZB ⟨false,by simp,ZU ?_ ?_ ?_⟩
   ·simp[go_sem];rfl
   ·simp[go_sem,jb]
   ·simp[go_sem,jb]
  ·simp at h
 | false=>
  simp only[go_sem];refine wG tK ?_;refine wD (λh=>?_) (λh=>?_)
  ·simp at h
  refine wG tK ?_;refine wT ?_;simp[go_sem]
def okC (c:UInt8):Bool:=(decide (97≤c.toNat)&&decide (c.toNat≤122))||(decide (48≤c.toNat)&&decide (c.toNat≤57))
def de (s:List UInt8):Bool:=decide (1≤s.length)&&decide (s.length≤8)&&s.all okC
theorem zi (s:List UInt8) (hs:s.length≤100000000):ae Tryz.prog 139 [.str s] [] (λr _=>r=.bool (de s)):=by
 refine ZF tK (Tryz.func139) rfl (λC=>?_);simp only[Tryz.ntmps139,Tryz.results139,go_sem];refine wR ?_;refine wN tK 1 ?_;refine wR ?_;cases e1:decide ((s.length:Int)<1) with
 | true=>
  have hno:de s=false:=by
   have h1:=of_decide_eq_true e1;unfold de;rw[show decide (1≤s.length)=false from decide_eq_false z7];rfl
  refine wG tK ?_ (by simp only[go_sem,e1];try exact rfl) (by simp[go_sem,e1]);refine wD (λh=>?_) (λh=>?_)
  ·refine wG tK ?_;refine wT ?_;rw[hno]
  ·cases h
 | false=>
  have h1:=of_decide_eq_false e1;cases e2:decide ((s.length:Int)>8) with
  | true=>
   have hno:de s=false:=by
    have h2:=of_decide_eq_true e2;unfold de;rw[show decide (s.length≤8)=false from decide_eq_false z7,Bool.and_false];rfl
   refine wG tK ?_ (by simp only[go_sem,e1,e2];try exact rfl) (by simp[go_sem,e1,e2]);refine wD (λh=>?_) (λh=>?_)
   ·refine wG tK ?_;refine wT ?_;rw[hno]
   ·cases h
  | false=>
   have h2:=of_decide_eq_false e2;have hyes:de s=s.all okC:=by
    unfold de;rw[show decide (1≤s.length)=true from decide_eq_true z7,show decide (s.length≤8)=true from decide_eq_true z7];rfl
   rw[hyes];refine wG tK ?_ (by simp only[go_sem,e1,e2];try exact rfl) (by simp[go_sem,e1,e2]);refine wD (λh=>?_) (λh=>?_)
   ·cases h
   refine wG tK ?_;refine ZL (λi:Nat=>i≤s.length/\∀j,j<i->okC (s.getD j 0)=true) (λi=>s.length-i) (λi=>(3,.any)::(4,.any)::(15,.int .i64 i)::u0 16 20 []) (λ_=>[]) 0 ⟨by omega,by omega⟩ ?_ λi hi=>?_
   ·simp only[go_sem];exact ZU w1 w1 w1
   obtain ⟨hi,hs⟩:=hi;simp only[go_sem];refine wG tK ?_;refine wD (λh=>?_) (λh=>?_)
   ·have hlt:i<s.length:=by simp at h;omega
    have hw:=wi1 (i:=i) z7;have hno:okC (s.getD i 0)=false->s.all okC=false:=λh0=>by
     cases e:s.all okC with
     | false=>rfl
     | true=>
      have:=List.all_eq_true.1 e (s.getD i 0) (by rw[Zo,Zp hlt];exact WR hlt);rw[this] at h0;cases h0
    have hyes:okC (s.getD i 0)=true->∀j,j<i+1->okC (s.getD j 0)=true:=λh0 j hj=>by
     rcases Nat.lt_succ_iff_lt_or_eq.1 hj with h1 | rfl
     ·exact hs j h1
     ·exact h0
    refine wR ?_;refine wN tK 2 ?_;refine wR ?_;refine wN tK 2 ?_;refine wNq tK 1 ?_ ?_
    ·simp;omega
    refine wN tK 1 ?_;refine wR ?_;generalize s.getD i 0=c at hno hyes;have hc:okC c=((!(decide ((c.toNat:Int)<97))&&!(decide ((c.toNat:Int)>122)))||(!(decide ((c.toNat:Int)<48))&&!(decide ((c.toNat:Int)>57)))):=by
     unfold okC;rw[Bool.eq_iff_iff];simp only[Bool.or_eq_true,Bool.and_eq_true,decide_eq_true_eq,WQ,decide_eq_false_iff_not];omega
    generalize hf1:decide ((c.toNat:Int)<97)=f1 at hc;generalize hf2:decide ((c.toNat:Int)>122)=f2 at hc;generalize hf3:decide ((c.toNat:Int)<48)=f3 at hc;generalize hf4:decide ((c.toNat:Int)>57)=f4 at hc;refine wNq tK 14 ?_ ?_ z6 z6 (by simp only[go_sem,hf1,hf2,hf3,hf4];try exact rfl)
    ·cases f1<;>cases f2<;>cases f3<;>cases f4<;>simp
    have hb:(bif (bif f1 then true else f2) then (bif f3 then true else f4) else false)=!okC c:=by
     rw[hc];cases f1<;>cases f2<;>cases f3<;>cases f4<;>rfl
    simp only[go_sem,hb];refine wD (λh=>?_) (λh=>?_)
    ·have h0:okC c=false:=by simpa using h
     refine wG tK ?_;refine wT ?_;rw[hno h0]
    ·have h0:okC c=true:=by simpa using h
     refine wG tK ?_ w6 k0;refine ZB ⟨i+1,⟨by omega,hyes h0⟩,by omega,ZU ?_ ?_ ?_⟩
     ·simp[go_sem]
     ·simp[go_sem]
     ·simp[go_sem]
   ·have e:i=s.length:=by simp at h;omega
    have:s.all okC=true:=List.all_eq_true.2 λx hx=>by
     obtain ⟨j,hj⟩:=Z1 hx;have:=hs j (by rw[e];exact (Zu.1 hj).1)
     rwa [Zo,hj] at this
    refine wG tK ?_;refine wT ?_;rw[this]
end La
namespace La
def eW (a:Act):List Int:=if a.kind=3 then [a.fid] else if a.kind=5 then [a.fid,a.dir,a.to] else [a.fid,a.dir]
def Rec.names (r:Rec) (fid:Int):Bool:=(eW r.act).contains fid
def je (fid:Int) (r:Rec):Bool:=r.act.fid==fid&&(r.act.kind==1||r.act.kind==2)
def gY (a:Act) (dir:Int) (name:List UInt8):Bool:=
 if a.kind=1\/a.kind=2\/a.kind=4 then a.dir==dir&&a.name==name
 else if a.kind=5 then (a.dir==dir&&a.name==name)||(a.to==dir&&a.toName==name) else false
def bars (fid dir:Int) (name:List UInt8) (x:Rec):Bool:=(x.act.kind != 3&&x.names fid)||gY x.act dir name
def iW (l:List Rec) (r:Rec):Bool:=
 match l.findIdx? (je r.act.fid) with
 | none=>false
 | some k=>r.act.kind==4&&(l.getD k default).act.dir==r.act.dir&&(l.getD k default).act.name==r.act.name&&!((l.drop (k+1)).any (bars r.act.fid (l.getD k default).act.dir (l.getD k default).act.name))
def stored (r x:Rec):Bool:=x.act.kind==3&&x.act.fid==r.act.fid
def gN (l:List Rec) (r:Rec):List Rec:=if r.act.kind=3 then l.filter λx=>!(stored r x) else l
def eV (l:List Rec) (r:Rec):Option (List Rec):=
 if iW l r then some (l.filter λx=>!(x.names r.act.fid))
 else if (gN l r).length≥20 then none else some (gN l r++[r])
theorem nh (l:List Rec) (r:Rec):(gN l r).Sublist l:=by
 unfold gN;split
 ·exact Wn
 ·exact List.Sublist.refl _
end La
namespace La
open Go Go.Eng Go.Proofs
def Act.Small (a:Act):Prop:=a.data.length≤100000000
structure SmallL (l:List Rec):Prop where
 len:l.length≤100000000
 each:∀r,r∈l->r.act.Small
theorem jG (a:Act) (ha:a.Small):ae Tryz.prog 67 [.agg (ZA a)] [] (λr _=>r=.agg (ZA a)):=by
 unfold ZA;refine ZF tK (Tryz.func67) rfl (λC=>?_);simp only[Tryz.ntmps67,Tryz.results67,go_sem];refine wG tK ?_;refine wC Tryz.func100 (hf:=(jK _ ha)) (hk:=?_);refine wG tK ?_;refine wT ?_;rfl
theorem nV (l:List Rec) (hl:SmallL l):ae Tryz.prog 69 [.sl (l.map ZR)] [] (λr H=>r=.osl 19 9 0 (l.map ZR).length/\∀i b,aa [(19,.cells 51 9 (l.map ZR))] i=some b->aa H i=some b):=by
 have hlen:=hl.len;refine ZF tK (Tryz.func69) rfl (λC=>?_);simp only[Tryz.ntmps69,Tryz.results69,go_sem];refine wG tK ?_;refine ZL (λi:Nat=>i≤l.length) (λi=>l.length-i) (λi=>(3,.osl 19 9 0 i)::(5,.any)::(8,.int .i64 i)::u0 9 12 [])
  (λi=>[(19,.cells 51 9 ((l.take i).map ZR))]) 0 z7 ?_ λi hi=>?_
 ·simp only[go_sem];exact ZU w1 w1 s7
 simp only[go_sem];refine wG tK ?_;refine wD (λh=>?_) (λh=>?_)
 ·have hlt:i<l.length:=by simp at h;omega
  have hn:=hl.each _ (YG hlt);have hg:(l.map ZR).getD i []=ZR (l.getD i default):=Fam.getD hlt;have hs:=cw ZR hlt;generalize l.getD i default=n at hn hg hs;refine wGq tK ?_ ?_ v7
  ·simp[hlt,ZR]
  refine wC Tryz.func67 (hf:=(jG n.act hn)) (hk:=?_);have ht:List.take i (List.map ZR (List.take i l))=List.map ZR (List.take i l):=Zt y9;have hw:IntKind.i64.wrap ((i:Int)+1)=(i:Int)+1:=wrap_small z7 z7;refine wGq tK ?_ ?_ (by simp only[go_sem,ht,hw,ZA];try exact rfl)
  ·simp[rowsOf];omega
  refine ZB ⟨i+1,by omega,by omega,ZU ?_ ?_ ?_⟩
  ·simp[go_sem]
  ·simp[go_sem,hs,ZR]
  ·simp only[go_sem]
 ·have e:i=l.length:=by simp at h;omega
  subst e;refine wG tK ?_;refine wT ?_;simp[go_sem]
theorem iH (l:List Rec) (hl:SmallL l):ae Tryz.prog 69 [.sl (l.map ZR)] [] (λr _=>r=.sl (l.map ZR)):=ae.read (nV l hl) (eA _)
end La
namespace La
open Go Go.Eng
theorem Ez {P:Program} {f:FuncId} {args:List AV} {H:List (Nat×Blk)} {Y:AV} (h:ae P f args H λr _=>Eng.nrm r=Y):ae P f args H λr _=>r=Y:=by
 intro R0 μ w0 vs hl ha hH hR;refine (h R0 μ w0 vs hl ha hH hR).mono ?_;rintro e' w' ⟨v,r,H',μ',S',rfl,rfl,h4,h5⟩;exact ⟨v,_,H',μ',S',rfl,rfl,h4.nrm,h5⟩
theorem CF (l:List (List UInt8)):Eng.ie (l.map cQ)=l.map cQ:=by
 rw[dn,WX];exact Wg λx _=>rfl
end La
namespace Go.Eng
section
variable {P:Program} {T:Tab} {C:Ctx} {σ σ':St} {μ:Nat->Option Nat} {S:Nat->Prop} {a:Act} {w:World} {Ret:St->Prop} {k:List It}
def mv1 (p q:Nat):AV->AV
 | .osl id s o l=>if id=p then .osl q s o l else .osl id s o l
 | .ptr id s r o=>if id=p then .ptr q s r o else .ptr id s r o
 | x=>kill p x
theorem GC (p q:Nat) {e s:Nat} {rows:List (List AV)} {H':List (Nat×Blk)} {l':List AV} (hb:aa σ.hp p=some (.cells e s rows):=by simp only[go_sem];exact rfl) (hq:aa σ.hp q=none:=by simp only[go_sem];try exact rfl) (hr:au (.cells e s rows)=[]:=by simp only[go_sem];try exact rfl)
  (hH:c_ σ.hp p=H':=by simp only[go_sem,c_];exact rfl) (hf:(H'.all λx=>!(au x.2).contains p)=true:=by simp only[go_sem];try exact rfl) (ht:σ.tm.map (mv1 p q)=l':=by simp only[go_sem,mv1,kill];exact rfl):Le C σ ⟨l',(q,.cells e s rows)::H'⟩:=by
 subst hH ht;intro a w ⟨μ,S,hi⟩;have hne:p≠q:=λh=>by subst h;rw[hb] at hq;cases hq
 have hmq:μ q=none:=by
  cases h:μ q with
  | none=>rfl
  | some g=>obtain ⟨⟨b,h1⟩,_⟩:=hi.dom q g h;rw[hq] at h1;cases h1
 let ν:Nat->Option Nat:=λi=>if i=q then μ p else if i=p then none else μ i
 have hνq:ν q=μ p:=by simp[ν]
 have hν:∀i,i≠p->i≠q->ν i=μ i:=λi h1 h2=>by simp[ν,h1,h2]
 have hm:∀i,i≠p->∀g,μ i=some g->ν i=some g:=λi h g hg=>by
  rw[hν i h (λe=>by subst e;rw[hmq] at hg;cases hg)];exact hg
 have hv:∀i g,ν i=some g->(i=q/\μ p=some g)\/(i≠p/\i≠q/\μ i=some g):=λi g h=>by
  simp only[ν] at h;split at h
  ·exact .inl ⟨by assumption,h⟩
  ·split at h
   ·cases h
   ·exact .inr ⟨by assumption,by assumption,h⟩
 have hkill:∀{v:Value} {y:AV},Rd μ S w v y->Rd ν S w v (kill p y):=fun {v y} h=>by
  unfold kill;split
  ·exact .any v
  ·rename_i hc;exact h.less λid hid g hg=>hm id (λe=>by subst e;exact hc (by simpa using hid)) g hg
 refine ⟨ν,S,by simpa using hi.size,hi.defers,λt x hx=>?_,λid b hb'=>?_,λid g hg=>?_,λi j g h1 h2=>?_,hi.frm,hi.sb⟩
 ·simp only[Zr] at hx;obtain ⟨y,hy,rfl⟩:=WG.1 hx;have h:=hi.tm t y hy;cases y with
  | osl id s' o n=>
   simp only[mv1];split
   ·rename_i e;subst e;obtain ⟨A,cap,e1,hc,hor⟩:=h.bG;rw[e1];refine .osl q s' o n cap A hc ?_
    rcases hor with h | ⟨g,e2,m,k1,k2,k3,k4⟩
    ·exact .inl h
    ·exact .inr ⟨g,e2,m,hνq.trans k1,k2,k3,k4⟩
   ·rename_i e;exact h.less λi hid g hg=>hm i (λe'=>by simp only[refs,List.mem_singleton] at hid;exact e (hid.symm.trans e')) g hg
  | ptr id s' r o=>
   simp only[mv1];split
   ·rename_i e;subst e;obtain ⟨g,k1,e1⟩:=h.jc;rw[e1];exact .ptr q s' r o g (hνq.trans k1)
   ·rename_i e;exact h.less λi hid g hg=>hm i (λe'=>by simp only[refs,List.mem_singleton] at hid;exact e (hid.symm.trans e')) g hg
  | _=>exact hkill h
 ·simp only[aa] at hb';split at hb'
  ·rename_i e';injection hb' with hb'
   subst e' hb';have hk:=hi.hp p _ hb
   rcases hk with ⟨k1,k2⟩ | ⟨g,c,k1,k2,k3,k4,k5⟩
   ·exact .inl ⟨k1,hνq.trans k2⟩
   ·refine .inr ⟨g,c,hνq.trans k1,k2,k3,k4,λi row hi' j x hx=>(k5 i row hi' j x hx).less λid hid g' hg'=>?_⟩;have:id∈au (.cells e s rows):=List.mem_flatMap.2 ⟨row,Zs hi',aL hx hid⟩;rw[hr] at this;cases this
  ·rename_i hq';have hb2:=hb';rw[bg] at hb';split at hb'
   ·cases hb'
   ·rename_i hp';refine (hi.hp id b hb').less (hν id (λe=>hp' e.symm) (λe=>hq' e.symm)) λi hid g hg=>hm i (λe=>?_) g hg
    subst e;have:=List.all_eq_true.1 hf _ (aA hb2);simp at this;exact this hid
 ·rcases hv id g hg with ⟨rfl,h⟩ | ⟨h1,h2,h⟩
  ·exact ⟨⟨_,by simp only[aa,if_true];rfl⟩,(hi.dom p g h).2⟩
  ·obtain ⟨⟨b,hb1⟩,h3⟩:=hi.dom id g h;exact ⟨⟨b,by simp only[aa,if_neg (λe:q=id=>h2 e.symm),bg,if_neg (λe:p=id=>h1 e.symm)];exact hb1⟩,h3⟩
 ·rcases hv i g h1 with ⟨rfl,k⟩ | ⟨k1,k2,k⟩<;>rcases hv j g h2 with ⟨rfl,m⟩ | ⟨m1,m2,m⟩
  ·rfl
  ·exact absurd (hi.inj p j g k m) (λe=>m1 e.symm)
  ·exact absurd (hi.inj i p g k m) k1
  ·exact hi.inj i j g k m
end
end Go.Eng
namespace Go.Eng
section
variable {P:Program} {T:Tab} {C:Ctx} {σ σ':St} {μ:Nat->Option Nat} {S:Nat->Prop} {a:Act} {w:World} {Ret:St->Prop} {k:List It}
theorem Gx (r:Nat) (p q:List Nat) {ops ops':Array Oper} {Q:Exit->Act->World->Prop} {o:Oper} (ho:ops[r]? = some o) (hg:o.guard=none)
  (hQ:∀c a w,¬Q (.panic c) a w) (h1:zp r p q ops=true) (h2:yX r o ops=true) (he:(cv r p q ops.toList).toArray=ops') {y:AV}
  (hx:∀μ S a w,Inv C μ S σ a w->∃u,(∀w',(execOp a.eval o).run P w'=.ok (.value u) w')/\Rd μ S w u y)
  (hk:aY P C ops' Q 0 (σ.put o.dst y)):aY P C ops Q 0 σ:=by
 subst he;have hF:=sX h1;have hrl:=hF.rl;have hpl:=hF.pl;intro a w ⟨μ,S,hi⟩;obtain ⟨u,hu,hr⟩:=hx μ S a w hi;have hrel:Rel C (σ.put o.dst y) (a.put o.dst u) w:=⟨μ,S,hi.put o.dst hr⟩;have hk':=hk _ _ hrel;have hs:(cv r p q ops.toList).toArray.size+1=ops.size:=by simp[cv,hpl]
 obtain ⟨n,hn⟩:∃n,ops.size=n+1:=⟨ops.size-1,by omega⟩;have hsz:(cv r p q ops.toList).toArray.size=n:=by omega
 unfold yX at h2;rw[Bool.and_eq_true] at h2;have hafter:o.after=#[]:=Array.isEmpty_iff.1 h2.1;have hd0:∀(m i:Nat) (d:Bool),(aT m 0).getD i d=if i<m then false else d:=λm i d=>by rw[cN];simp
 rw[hn,Nat.sub_zero];refine wpAny_first (v:=u) ho hF.sel (λc a w hc=>absurd hc (hQ c _ _)) n _ a w (λk oj hoj hkr _ hw=>?_) (mem_ready.2 ⟨?_,o,ho,λe he=>by rw[hafter] at he;simp at he⟩) (.inl ⟨by rw[Region.wanted,hg],hu⟩) ?_
 ·have:=List.all_eq_true.1 h2.2 k (WN.2 (WL.1 hoj).1);rw[hoj] at this;simp only[Bool.or_eq_true,beq_iff_eq,Array.any_eq_true',Bool.and_eq_true] at this
  rcases this with h | ⟨e,he,hb,hon⟩ | h
  ·exact absurd h hkr
  ·exact absurd hon (hw e he hb)
  ·exact h
 ·rw[←hn,hd0,if_pos hrl]
 ·rw[hsz,Nat.sub_zero] at hk';refine zq hF n _ _ _ _ (by simp[aT,hn]) (by simp[aT,hn]) ?_ (λi hi=>?_) hk'
  ·rw[Zq,Wc,if_pos rfl,if_pos (by simp[aT];omega)];rfl
  ·have e2:((aT (n+1) 0).setIfInBounds r true).getD i false=(aT (n+1) 0).getD i false:=by
    rw[Zq,Wc,if_neg (λe=>hi e.symm),←Zq]
   rw[e2,hd0,hd0];split<;>split<;>rfl
theorem EN (q:Nat) {H':List (Nat×Blk)} {l':List AV} (hH:c_ σ.hp q=H':=by simp only[go_sem,c_];exact rfl) (hf:(H'.all λx=>!(au x.2).contains q)=true:=by simp only[go_sem];try exact rfl) (ht:σ.tm.map (kill q)=l':=by simp only[go_sem,kill];exact rfl):Le C σ ⟨l',H'⟩:=by
 subst hH ht;intro a w ⟨μ,S,hi⟩
 let ν:Nat->Option Nat:=λi=>if i=q then none else μ i
 have hm:∀i,i≠q->∀g,μ i=some g->ν i=some g:=λi h g hg=>by simp[ν,h,hg]
 have hv:∀i g,ν i=some g->i≠q/\μ i=some g:=λi g h=>by
  simp only[ν] at h;split at h
  ·cases h
  ·exact ⟨by assumption,h⟩
 refine ⟨ν,S,by simpa using hi.size,hi.defers,λt x hx=>?_,λid b hb'=>?_,λid g hg=>?_,λi j g h1 h2=>?_,hi.frm,hi.sb⟩
 ·simp only[Zr] at hx;obtain ⟨y,hy,rfl⟩:=WG.1 hx;have h:=hi.tm t y hy;unfold kill;split
  ·exact .any _
  ·rename_i hc;exact h.less λid hid g hg=>hm id (λe=>by subst e;exact hc (by simpa using hid)) g hg
 ·have hb2:=hb';rw[bg] at hb';split at hb'
  ·cases hb'
  ·rename_i hq';refine (hi.hp id b hb').less (by simp only[ν];rw[if_neg (λe=>hq' e.symm)]) λi hid g hg=>hm i (λe=>?_) g hg
   subst e;have:=List.all_eq_true.1 hf _ (aA hb2);simp at this;exact this hid
 ·obtain ⟨h1,h2⟩:=hv id g hg;obtain ⟨⟨b,hb1⟩,h3⟩:=hi.dom id g h2;exact ⟨⟨b,by rw[bg,if_neg (λe=>h1 e.symm)];exact hb1⟩,h3⟩
 ·exact hi.inj i j g (hv i g h1).2 (hv j g h2).2
end
end Go.Eng
namespace Go.Eng
section
variable {P:Program} {C:Ctx} {σ:St}
def pf:AV->AV
 | .nils=>.sl [] | .any=>.any | .int k n=>.int k n | .bool b=>.bool b | .str s=>.str s | .nilp=>.nilp | .nili=>.nili | .ifc=>.ifc | .nilm=>.nilm | .sl r=>.sl r | .rp c o=>.rp c o | .rm m=>.rm m | .fn f c=>.fn f c
 | .agg c=>.agg (c.map λ| .nils=>.sl [] | x=>x) | .tup v=>.tup v | .ptr a b c d=>.ptr a b c d | .osl a b c d=>.osl a b c d | .mp i=>.mp i | .exs a b c d e=>.exs a b c d e | .cnd c v=>.cnd c v
theorem CP {μ:Nat->Option Nat} {S:Nat->Prop} {w:World} {v:Value} (h:Rd μ S w v .nils):Rd μ S w v (.sl []):=h.wk (.inr (.inr ⟨rfl,.inl rfl⟩))
theorem Rd.pf {μ:Nat->Option Nat} {S:Nat->Prop} {w:World} {v:Value} {x:AV} (h:Rd μ S w v x):Rd μ S w v (Eng.pf x):=by
 cases x with
 | nils=>exact CP h
 | agg c=>
  have key:∀{cs:Array Value} {f:AV->AV},(∀j x,c[j]? = some x->Rd μ S w (cs.getD j undef) (f x))->∀j x,(c.map f)[j]? = some x->Rd μ S w (cs.getD j undef) x:=fun {cs f} h j x hx=>by
   rw[Zr] at hx;cases e:c[j]? with
   | none=>rw[e] at hx;cases hx
   | some y=>rw[e] at hx;injection hx with hx;subst hx;exact h j y e
  have one:∀{v:Value} (x:AV),Rd μ S w v x->Rd μ S w v (match x with | .nils=>.sl [] | x=>x):=λx hx=>by
   split
   ·exact CP hx
   ·exact hx
  cases h with
  | pure h=>
   cases h with
   | agg cs _ hl hr=>exact .agg cs _ (by rw[List.length_map];exact hl) (key λj x hx=>one x (.pure (hr j x hx)))
  | agg cs _ hl hr=>exact .agg cs _ (by rw[List.length_map];exact hl) (key λj x hx=>one x (hr j x hx))
 | _=>exact h
theorem bl (id:Nat) {e s:Nat} {rows rows':List (List AV)} (hb:aa σ.hp id=some (.cells e s rows):=by simp only[go_sem];exact rfl) (hr:rows.map (λrow=>row.map pf)=rows':=by simp only[go_sem,pf];exact rfl):Le C σ ⟨σ.tm,aB σ.hp id (.cells e s rows')⟩:=by
 subst hr;rintro a w ⟨μ,S,hi⟩;refine ⟨μ,S,hi.size,hi.defers,hi.tm,λi b hb'=>?_,λi q hq=>?_,hi.inj,hi.frm,hi.sb⟩
 ·simp only[ai] at hb';split at hb'
  ·rename_i h1;injection hb' with hb'
   subst h1 hb'
   rcases hi.hp id _ hb with ⟨rfl,k2⟩ | ⟨g,c,k1,k2,k3,k4,k5⟩
   ·exact .inl ⟨by simp,k2⟩
   ·refine .inr ⟨g,c,k1,k2,by rw[List.length_map];exact k3,λrow hrow=>?_,λi row hi' q x hx=>?_⟩
    ·obtain ⟨r0,h0,rfl⟩:=Zv.1 hrow;rw[List.length_map];exact k4 r0 h0
    ·rw[Zr] at hi';cases e0:rows[i]? with
     | none=>rw[e0] at hi';cases hi'
     | some r0=>
      rw[e0] at hi';simp only[Option.map_some,Option.some.injEq] at hi';subst hi';rw[Zr] at hx;cases e1:r0[q]? with
      | none=>rw[e1] at hx;cases hx
      | some y=>
       rw[e1] at hx;simp only[Option.map_some,Option.some.injEq] at hx;subst hx;exact (k5 i r0 e0 q y e1).pf
  ·exact hi.hp i b hb'
 ·obtain ⟨⟨b,h1⟩,h2⟩:=hi.dom i q hq;refine ⟨?_,h2⟩;simp only[ai];split
  ·exact ⟨_,rfl⟩
  ·exact ⟨b,h1⟩
theorem zf (t:Nat) {x y:AV} (hx:σ.tm.getD t .any=x) (hy:pf x=y):Le C σ ⟨σ.tm.set t y,σ.hp⟩:=by
 subst hx hy;rintro a w ⟨μ,S,hi⟩;refine ⟨μ,S,by rw[WD];exact hi.size,hi.defers,λj z hz=>?_,hi.hp,hi.dom,hi.inj,hi.frm,hi.sb⟩;rw[Z7] at hz;split at hz
 ·rename_i e;subst e;split at hz
  ·rename_i hlt;injection hz with hz
   subst hz;rw[Zo,Zp hlt];exact (hi.tm t _ (Zp hlt)).pf
  ·cases hz
 ·exact hi.tm j z hz
end
end Go.Eng
namespace Go.Eng
section
variable {P:Program} {T:Tab} {C:Ctx} {σ σ':St}
structure Ef where
 wr:List Loc
 rd:List Loc
 app:St->St
structure EfOK (e:Ef):Prop where
 len:∀s,(e.app s).tm.length=s.tm.length
 frame:∀s x,x∉e.wr->az s (e.app s) x
 det:∀s s',s'.tm.length=s.tm.length->∀x,x∈e.wr->az (e.app s) (e.app s') x
theorem az.refl (s:St) (x:Loc):az s s x:=by cases x<;>rfl
theorem az.trans {a b c:St} {x:Loc} (h:az a b x) (k:az b c x):az a c x:=by cases x<;>exact Eq.trans k h
theorem az.symm {a b:St} {x:Loc} (h:az a b x):az b a x:=by cases x<;>exact Eq.symm h
def efU (es:List Ef) (i:Nat) (σ:St):St:=(es.take i).foldl (λs e=>e.app s) σ
theorem jR (es:List Ef) (σ:St):efU es 0 σ=σ:=by simp[efU]
theorem pZ {es:List Ef} {i:Nat} {e:Ef} (h:es[i]? = some e) (σ:St):efU es (i+1) σ=e.app (efU es i σ):=by
 unfold efU;obtain ⟨hi,he⟩:=Zu.1 h;rw[List.take_succ_eq_append_getElem hi,List.foldl_append,he];rfl
theorem px {es:List Ef} (hok:∀e,e∈es->EfOK e) (σ:St):∀i,i≤es.length->(efU es i σ).tm.length=σ.tm.length
 | 0,_=>by rw[jR]
 | i+1,h=>by
  have hi:es[i]? = some es[i]:=Zp z7;rw[pZ hi,(hok _ (Zs hi)).len,px hok σ i z7]
def dR (W:Nat->Bool):Nat->Nat
 | 0=>0
 | n+1=>if W n=true then n+1 else dR W n
theorem vC (W:Nat->Bool):∀n,dR W n≤n
 | 0=>Zw _
 | n+1=>by unfold dR;split<;>have:=vC W n<;>omega
theorem qC (W:Nat->Bool):∀n j,dR W n≤j->j<n->W j=false
 | 0,j,_,h=>by omega
 | n+1,j,h,hj=>by
  unfold dR at h;split at h
  ·omega
  ·rename_i hn
   by_cases e:j=n
   ·subst e;simpa using hn
   ·exact qC W n j h z7
theorem sF {W W':Nat->Bool} {m:Nat} (h:∀j,W' j=(W j||j==m)):∀n,m<n->(∀j,m<j->j<n->W j=false)->dR W' n=m+1
 | 0,h0,_=>by omega
 | n+1,h0,hl=>by
  unfold dR
  by_cases e:m=n
  ·subst e;rw[if_pos (by rw[h];simp)]
  ·have h1:=hl n z7 (Nat.lt_succ_self n);rw[if_neg (by rw[h,h1];simp;omega)];exact sF h n z7 λj h2 h3=>hl j h2 z7
theorem j_ {W W':Nat->Bool}:∀n,(∀j,j<n->W' j=W j)->dR W' n=dR W n
 | 0,_=>rfl
 | n+1,h=>by
  unfold dR;rw[h n (Nat.lt_succ_self n),j_ n λj hj=>h j z7]
def wrB (es:List Ef) (x:Loc) (j:Nat):Bool:=match es[j]? with
 | some e=>decide (x∈e.wr)
 | none=>false
theorem sf {es:List Ef} (hok:∀e,e∈es->EfOK e) (σ:St) (x:Loc) (i:Nat):∀j,i≤j->j≤es.length->(∀m,i≤m->m<j->wrB es x m=false)->az (efU es i σ) (efU es j σ) x
 | 0,h,_,_=>by rw[show i=0 by omega];exact az.refl _ _
 | j+1,h,hj,hno=>by
  by_cases e:i=j+1
  ·rw[e];exact az.refl _ _
  ·have hi:es[j]? = some es[j]:=Zp z7;have h1:=sf hok σ x i j z7 z7 λm h1 h2=>hno m h1 z7
   rw[pZ hi];refine h1.trans ((hok _ (Zs hi)).frame _ x ?_);have:=hno j z7 (Nat.lt_succ_self j);unfold wrB at this;rw[hi] at this;simpa using this
structure Desc2 (σ:St) (es:List Ef) (D:Nat->Bool) (s:St):Prop where
 len:s.tm.length=σ.tm.length
 at_:∀x,az (efU es (dR (λj=>D j&&wrB es x j) es.length) σ) s x
theorem Desc2.start (σ:St) (es:List Ef):Desc2 σ es (λ_=>false) σ:=⟨rfl,λx=>by
 have:dR (λj=>false&&wrB es x j) es.length=0:=by
  have:∀n,dR (λj=>false&&wrB es x j) n=0:=λn=>by
   induction n with
   | zero=>rfl
   | succ n ih=>unfold dR;rw[if_neg w7];exact ih
  exact this _
 rw[this,jR];exact az.refl _ _⟩
theorem Desc2.same {es:List Ef} {D:Nat->Bool} {s:St} (hok:∀e,e∈es->EfOK e) (h:Desc2 σ es D s) {x:Loc} {m:Nat} (hm:m≤es.length) (hx:∀j,j<es.length->wrB es x j=true->D j=decide (j<m)):az (efU es m σ) s x:=by
 have h1:=h.at_ x;have h2:dR (λj=>D j&&wrB es x j) es.length=dR (λj=>decide (j<m)&&wrB es x j) es.length:=j_ _ λj hj=>by
  cases e:wrB es x j with
  | false=>simp
  | true=>rw[hx j hj e]
 rw[h2] at h1;have h3:dR (λj=>decide (j<m)&&wrB es x j) es.length≤m:=by
  rcases Nat.lt_or_ge m (dR (λj=>decide (j<m)&&wrB es x j) es.length) with h4 | h4
  ·exfalso
   have key:∀n,m<dR (λj=>decide (j<m)&&wrB es x j) n->False:=λn=>by
    induction n with
    | zero=>intro h;simp[dR] at h
    | succ n ih=>
     intro h;unfold dR at h;split at h
     ·rename_i hw;simp at hw;omega
     ·exact ih h
   exact key _ h4
  ·exact h4
 refine az.trans ?_ h1;refine (sf hok σ x _ m h3 hm λj h4 h5=>?_).symm;have:=qC _ es.length j h4 z7;simpa[h5] using this
theorem Desc2.add {es:List Ef} {D:Nat->Bool} {s:St} (hok:∀e,e∈es->EfOK e) (h:Desc2 σ es D s) {m:Nat} {e:Ef} (he:es[m]? = some e) (hlate:∀x,x∈e.wr->∀j,m<j->j<es.length->wrB es x j=true->D j=false):Desc2 σ es (λj=>D j||j==m) (e.app s):=by
 have hm:m<es.length:=(Zu.1 he).1;have heo:=hok e (Zs he);refine ⟨by rw[heo.len];exact h.len,λx=>?_⟩
 by_cases hx:x∈e.wr
 ·have hw:wrB es x m=true:=by simp only[wrB,he];simpa using hx
  rw[sF (W:=λj=>D j&&wrB es x j) (m:=m) (λj=>show ((D j||j==m)&&wrB es x j)=((D j&&wrB es x j)||j==m) from by
   by_cases e2:j=m
   ·subst e2;rw[hw,beq_self_eq_true,Bool.or_true,Bool.or_true];rfl
   ·rw[beq_false_of_ne e2,Wu,Wu]) es.length hm λj h1 h2=>by
    cases e3:wrB es x j with
    | false=>simp
    | true=>rw[hlate x hx j h1 h2 e3];rfl]
  rw[pZ he];exact heo.det _ _ (by rw[h.len,px hok σ m z7]) x hx
 ·have hw:wrB es x m=false:=by simp only[wrB,he];simpa using hx
  rw[j_ (W:=λj=>D j&&wrB es x j) _ λj hj=>show ((D j||j==m)&&wrB es x j)=(D j&&wrB es x j) from by
   by_cases e2:j=m
   ·subst e2;rw[hw,Bool.and_false,Bool.and_false]
   ·rw[beq_false_of_ne e2,Wu]]
  exact (h.at_ x).trans (heo.frame s x hx)
def skE (es:List Ef):cL:=es.map λe=>(e.wr,e.rd)
structure SegFacts2 (ops:Array Oper) (k:Nat) (es:List Ef):Prop where
 lt:∀i,i<ops.size->∀e,e∈fC ops i->e<i
 late:∀i,i<ops.size->k+es.length≤i->∀s,s<es.length->reach ops ops.size (k+s) i=true
 od:∀(i j:Nat) p q x,es[i]? = some p->es[j]? = some q->x∈q.wr->(x∈p.rd\/x∈p.wr)->i≠j->(j<i/\reach ops ops.size (k+j) (k+i)=true)\/(i<j/\reach ops ops.size (k+i) (k+j)=true)
 size:k+es.length≤ops.size
theorem yk {ops:Array Oper} {k:Nat} {ps:List Ef} (h:ku ops k (skE ps)=true):SegFacts2 ops k ps:=by
 unfold ku yj at h;simp only[Bool.and_eq_true,decide_eq_true_eq] at h;obtain ⟨⟨⟨h1,h2⟩,h3⟩,h4⟩:=h;have hl:(skE ps).length=ps.length:=by simp[skE]
 rw[hl] at h2 h3 h4;have key:∀(i j:Nat) (p q:Ef),ps[i]? = some p->ps[j]? = some q->i=j\/((∀x,x∈q.wr->x∉p.wr/\x∉p.rd)\/(if j<i then reach ops ops.size (k+j) (k+i) else reach ops ops.size (k+i) (k+j))=true):=by
  intro i j p q hp hq;have hi:i<ps.length:=(Zu.1 hp).1;have hj:j<ps.length:=(Zu.1 hq).1;have:=List.all_eq_true.1 (List.all_eq_true.1 h3 i (WN.2 hi)) j (WN.2 hj);simp only[skE,Zr,hp,hq,Option.map_some,Bool.or_eq_true,beq_iff_eq,WQ,List.any_eq_false,WA] at this
  rcases this with h | h6
  ·exact .inl h
  ·refine .inr ?_
   rcases h6 with h6 | h6
   ·exact .inl (λx hx=>⟨λhx'=>h6 x hx (.inl hx'),λhx'=>h6 x hx (.inr hx')⟩)
   ·refine .inr ?_;split at h6
    ·rw[if_pos Zc];exact gf z7 h6
    ·rw[if_neg Zc];exact gf z7 h6
 refine ⟨λi hi e he=>?_,λi hi hle s hs=>?_,λi j p q x hp hq hx hx' hne=>?_,h4⟩
 ·have:=List.all_eq_true.1 (List.all_eq_true.1 h1 i (WN.2 hi)) e he;simpa using this
 ·have:=List.all_eq_true.1 h2 i (WN.2 hi);simp only[Bool.or_eq_true,decide_eq_true_eq] at this
  rcases this with h | h
  ·omega
  ·exact gf hi (List.all_eq_true.1 h s (WN.2 hs))
 ·rcases key i j p q hp hq with h | h
  ·exact absurd h hne
  ·rcases h with h | h
   ·rcases hx' with hx' | hx'
    ·exact absurd hx' (h x hx).2
    ·exact absurd hx' (h x hx).1
   ·split at h
    ·exact .inl ⟨by assumption,h⟩
    ·exact .inr ⟨by omega,h⟩
theorem Dl {es:List Ef} {x:Loc} {j:Nat} (h:wrB es x j=true):∃q,es[j]? = some q/\x∈q.wr:=by
 unfold wrB at h;cases e:es[j]? with
 | none=>rw[e] at h;cases h
 | some q=>rw[e] at h;exact ⟨q,rfl,by simpa using h⟩
theorem Es {ops:Array Oper} {Q:Exit->Go.Act->World->Prop} {k:Nat} {l:List Oper} {es:List Ef} (hck:ku ops k (skE es)=true) (hlen:l.length=es.length)
  (hl:∀i,i<es.length->ops[k+i]? = l[i]?) (hok:∀e,e∈es->EfOK e)
  (hrob:∀m o e,l[m]? = some o->es[m]? = some e->∀s,s.tm.length=σ.tm.length->(∀x,(x∈e.rd\/x∈e.wr)->az (efU es m σ) s x)->(∀x,∃i,i≤es.length/\az (efU es i σ) s x)->rT P C ops o s (e.app s))
  (h:aY P C ops Q (k+es.length) (efU es es.length σ)):aY P C ops Q k σ:=by
 have hF:=yk hck;have main:∀(r:Nat) (D:Nat->Bool) (listed:Array Bool) (s:St),((List.range es.length).filter λj=>!D j).length=r->listed.size=ops.size ->
   (∀j,j<ops.size->listed.getD j false=(decide (j<k)||(decide (j<k+es.length)&&D (j-k)))) ->
   (∀j,listed.getD j false=true->∀e,e∈fC ops j->listed.getD e false=true)->Desc2 σ es D s->∀a w,Rel C s a w->wpAny P .any ops Q (ops.size-(k+es.length)+r) listed a w:=by
  intro r
  induction r with
  | zero=>
   intro D listed s hr hsz hlist _ hd a w hrel;have hall:∀j,j<es.length->D j=true:=λj hj=>by
    have h0:(List.range es.length).filter (λj=>!D j)=[]:=List.eq_nil_of_length_eq_zero hr;have:=List.filter_eq_nil_iff.1 h0 j (WN.2 hj);simpa using this
   have e:listed=aT ops.size (k+es.length):=by
    apply Array.ext
    ·simp[aT,hsz]
    ·intro j h1 h2;have hj:j<ops.size:=by omega
     have h3:=hlist j hj;rw[Zq,Zx h1,Option.getD_some] at h3;rw[h3];have h4:=cN ops.size (k+es.length) j false;rw[Zq,Zx h2,Option.getD_some,if_pos hj] at h4;rw[h4]
     by_cases hk:j<k
     ·simp[hk];omega
     ·by_cases hk2:j<k+es.length
      ·simp[hk,hk2,hall (j-k) z7]
      ·simp[hk,hk2]
   rw[Nat.add_zero,e];have hsame:Le C s (efU es es.length σ):=fD (hd.len.trans (px hok σ _ (Zw _)).symm)
    (λt=>hd.same hok (x:=.tm t) (Zw _) λj hj _=>by rw[hall j hj];simp[hj])
    (λid=>hd.same hok (x:=.blk id) (Zw _) λj hj _=>by rw[hall j hj];simp[hj])
   exact h a w (hsame a w hrel)
  | succ r ih=>
   intro D listed s hr hsz hlist hclosed hd a w hrel;have hex:∃m,m<es.length/\D m=false:=by
    have hne:(List.range es.length).filter (λj=>!D j)≠[]:=by intro e;rw[e] at hr;simp at hr
    obtain ⟨m,hm⟩:=List.exists_mem_of_ne_nil _ hne;rw[Z0,WN] at hm;exact ⟨m,hm.1,by simpa using hm.2⟩
   obtain ⟨m0,⟨hm0,hD0⟩,hmin⟩:=least (p:=λm=>m<es.length/\D m=false) hex;have hun:listed.getD (k+m0) false=false:=by
    rw[hlist _ Q8];simp[show ¬k+m0<k by omega,hD0]
   refine ⟨λh0=>?_,λi hi=>?_⟩
   ·exfalso
    have:k+m0∈Region.ready .any ops listed:=by
     rw[mem_ready];have hlt':k+m0<ops.size:=by have:=hF.size;omega
     refine ⟨?_,ops[k+m0],Zx hlt',λe he hb=>?_⟩
     ·rw[Zq,Zx z7] at hun ⊢;exact hun
     ·have hmem:e.on∈fC ops (k+m0):=by
       unfold fC;rw[Zx hlt'];exact Zv.2 ⟨e,Z0.2 ⟨by simpa using he,hb⟩,rfl⟩
      have hl':=hF.lt _ hlt' _ hmem;rw[hlist _ z7]
      by_cases h1:e.on<k
      ·simp[h1]
      ·have h2:D (e.on-k)=true:=by
        cases h3:D (e.on-k) with
        | true=>rfl
        | false=>exact absurd ⟨by omega,h3⟩ (hmin (e.on-k) z7)
       simp[h1,h2,show e.on<k+es.length by omega]
    rw[h0] at this;cases this
   ·obtain ⟨h1,o,ho,hall⟩:=mem_ready.1 hi;have hilt:i<ops.size:=(WL.1 ho).1;have hil:listed.getD i false=false:=by
     rw[Zq,Zx z7] at h1 ⊢;exact h1
    have hpl:∀e,e∈fC ops i->listed.getD e false=true:=λe he=>by
     unfold fC at he;rw[ho] at he;obtain ⟨ed,hed,rfl⟩:=Zv.1 he;rw[Z0] at hed;exact hall ed (by simpa using hed.1) hed.2
    have hik:k≤i:=by
     rw[hlist i hilt] at hil;simp at hil;omega
    have hiu:i<k+es.length:=by
     rcases Nat.lt_or_ge i (k+es.length) with h2 | h2
     ·exact h2
     ·have:=cO hclosed _ _ _ (hF.late i hilt h2 m0 hm0) hpl;rw[hun] at this;cases this
    obtain ⟨m,rfl⟩:∃m,i=k+m:=⟨i-k,by omega⟩;have hm:m<es.length:=by omega
    have hDm:D m=false:=by
     rw[hlist _ hilt] at hil;simpa[show ¬k+m<k by omega,hiu] using hil
    have hpm:es[m]? = some es[m]:=Zp hm;have hom:l[m]? = some o:=by rw[←hl m hm];exact ho
    have key:∀x,(x∈es[m].rd\/x∈es[m].wr)->∀(j:Nat),j<es.length->wrB es x j=true->D j=decide (j<m):=λx hx j hj hwj=>by
     obtain ⟨q,hq,hxq⟩:=Dl hwj
     by_cases e:m=j
     ·subst e;simp[hDm]
     ·rcases hF.od m j _ q x hpm hq hxq hx e with ⟨h3,h4⟩ | ⟨h3,h4⟩
      ·have h5:=cO hclosed _ _ _ h4 hpl;rw[hlist _ z7] at h5;simp[show ¬k+j<k by omega] at h5;simp[h3,h5.2]
      ·cases h6:D j with
       | false=>simp;omega
       | true=>
        have h7:listed.getD (k+j) false=true:=by
         rw[hlist _ Q8];simp[h6,hj]
        have h8:=cO hclosed _ _ _ h4 (hclosed _ h7);rw[hil] at h8;cases h8
    have ht:=hrob m o es[m] hom hpm s hd.len (λx hx=>hd.same hok z7 (key x hx)) (λx=>⟨_,vC _ _,hd.at_ x⟩);refine pW ho ht hrel λa' w' hr'=>?_
    refine ih (λj=>D j||j==m) (listed.setIfInBounds (k+m) true) (es[m].app s) ?_ (by simp[hsz]) (λj hj=>?_) (λj hj e he=>?_) (hd.add hok hpm λx hx j hlt hj hw=>by rw[key x (.inr hx) j hj hw];simp;omega) a' w' hr'
    ·have:=jX hDm (List.range es.length) List.nodup_range (WN.2 hm);omega
    ·by_cases e:k+m=j
     ·subst e;rw[Zq,Array.getElem?_setIfInBounds_self_of_lt z7];simp[hiu]
     ·rw[getD_set_ne false e,hlist j hj];have:(j-k==m)=false\/j<k:=by
       by_cases h2:j<k
       ·exact .inr h2
       ·left;simp;omega
      rcases this with h2 | h2
      ·rw[h2];simp
      ·simp[h2]
    ·by_cases e':k+m=j
     ·subst e';exact getD_set_true (hpl e he)
     ·rw[getD_set_ne false e'] at hj;exact getD_set_true (hclosed j hj e he)
 intro a w hr;have h0:=main es.length (λ_=>false) (aT ops.size k) σ (by show ((List.range es.length).filter λ_=>true).length=es.length;rw[WV.2 (λ_ _=>rfl)];simp) (by simp[aT]) (λj hj=>by rw[cN,if_pos hj];simp) (λj hj e he=>by
  rw[cN] at hj ⊢;split at hj
  ·rename_i hjn;have hlt':=hF.lt j hjn e he;rw[if_pos z7];simp at hj ⊢;omega
  ·cases hj) (Desc2.start σ es) a w hr
 rw[show ops.size-k=ops.size-(k+es.length)+es.length from by have:=hF.size;omega];exact h0
end
end Go.Eng
namespace Go.Eng
section
variable {P:Program} {T:Tab} {C:Ctx} {σ σ':St}
theorem pY (e:Ef) (es:List Ef) (i:Nat) (σ:St):efU (e::es) (i+1) σ=efU es i (e.app σ):=by simp[efU]
def efS (p:Sp):Ef:=⟨p.wr,p.rd,p.app⟩
theorem bw (l:List AV) (t u:Nat) (v:AV):(l.set t v).getD u .any=if t=u then (if t<l.length then v else .any) else l.getD u .any:=by
 rw[Zo,Z7]
 by_cases h:t=u
 ·subst h;rw[if_pos rfl,if_pos rfl];split<;>rfl
 ·rw[if_neg h,if_neg h,Zo]
theorem G8 (p:Sp):EfOK (efS p):=by
 have htm:∀s:St,(p.app s).tm=match p.dst with | some t=>s.tm.set t p.val | none=>s.tm:=λs=>by unfold Sp.app St.put;cases p.dst<;>rfl
 have hhp:∀s:St,(p.app s).hp=p.new++s.hp:=λs=>by unfold Sp.app;rw[St.eO]
 refine ⟨λs=>?_,λs x hx=>?_,λs s' hl x hx=>?_⟩
 ·show (p.app s).tm.length=_
  rw[htm];cases p.dst<;>simp
 ·cases x with
  | tm t=>
   show (p.app s).tm.getD t .any=s.tm.getD t .any
   rw[htm];cases e:p.dst with
   | none=>rfl
   | some u=>
    show (s.tm.set u p.val).getD t .any=_
    rw[bw,if_neg];rintro rfl;exact hx (xl e)
  | blk id=>
   show aa (p.app s).hp id=aa s.hp id
   rw[hhp,an,if_neg];exact λh=>hx (lT h)
 ·cases x with
  | tm t=>
   show (p.app s').tm.getD t .any=(p.app s).tm.getD t .any
   have hd:p.dst=some t:=by
    have hx:Loc.tm t∈p.wr:=hx;unfold Sp.wr at hx
    rcases List.mem_append.1 hx with h | h
    ·cases e:p.dst with
     | none=>rw[e] at h;cases h
     | some u=>rw[e] at h;rw[List.mem_singleton] at h;injection h with h;rw[h]
    ·obtain ⟨b,_,hb⟩:=Zv.1 h;cases hb
   rw[htm,htm,hd]
   show (s'.tm.set t p.val).getD t .any=(s.tm.set t p.val).getD t .any
   rw[bw,bw,if_pos rfl,if_pos rfl,hl]
  | blk id=>
   show aa (p.app s').hp id=aa (p.app s).hp id
   have hb:∃b,b∈p.new/\b.1=id:=by
    have hx:Loc.blk id∈p.wr:=hx;unfold Sp.wr at hx
    rcases List.mem_append.1 hx with h | h
    ·cases e:p.dst with
     | none=>rw[e] at h;cases h
     | some u=>rw[e] at h;rw[List.mem_singleton] at h;cases h
    ·obtain ⟨b,hb,he⟩:=Zv.1 h;injection he with he
     exact ⟨b,hb,he⟩
   rw[hhp,hhp,an,an,if_pos hb,if_pos hb]
def cG:List (Nat×Blk)->List (Nat×Blk)
 | []=>[]
 | (i,b)::r=>(i,b)::(cG r).filter λq=>!(q.1==i)
theorem jY (i id:Nat):∀h:List (Nat×Blk),i≠id->aa (h.filter λq=>!(q.1==i)) id=aa h id
 | [],_=>rfl
 | (j,b)::r,hne=>by
  rw[List.filter_cons]
  by_cases e:j=i
  ·subst e;rw[if_neg w7,jY j id r hne];simp only[aa];rw[if_neg hne]
  ·rw[if_pos Zn];simp only[aa];rw[jY i id r hne]
theorem eb (id:Nat):∀h:List (Nat×Blk),aa (cG h) id=aa h id
 | []=>rfl
 | (i,b)::r=>by
  simp only[cG,aa]
  by_cases e:i=id
  ·rw[if_pos e,if_pos e]
  ·rw[if_neg e,if_neg e,jY i id _ e,eb id r]
theorem r_:∀(h:List (Nat×Blk)) (q:Nat×Blk),q∈cG h->aa h q.1=some q.2
 | [],q,hq=>by cases hq
 | (i,b)::r,q,hq=>by
  simp only[cG] at hq;simp only[aa]
  rcases List.mem_cons.1 hq with rfl | hq
  ·rw[if_pos rfl]
  ·obtain ⟨h1,h2⟩:=Z0.1 hq;have:q.1≠i:=by simpa using h2
   rw[if_neg (λe=>this e.symm)];exact r_ r q h1
theorem sw {id:Nat}:∀{h:List (Nat×Blk)},(∀q,q∈h->q.1≠id->bP id q.2)->dh id h
 | [],_=>trivial
 | (i,b)::_,h=>⟨λhne=>h (i,b) List.mem_cons_self hne,sw λq hq=>h q (List.mem_cons_of_mem _ hq)⟩
def efA (d src id e S len:Nat) (rows:List (List AV)) (rd:List Loc):Ef:=
 ⟨[.tm d,.tm src,.blk d,.blk id],rd,λs=>⟨(s.tm.set src .any).set d (.osl d S 0 len),(d,.cells e S rows)::aB s.hp id (.cells e S [])⟩⟩
theorem G6 (d src id e S len:Nat) (rows:List (List AV)) (rd:List Loc):EfOK (efA d src id e S len rows rd):=by
 refine ⟨λs=>by simp[efA],λs x hx=>?_,λs s' hl x hx=>?_⟩
 ·cases x with
  | tm t=>
   show ((s.tm.set src .any).set d _).getD t .any=s.tm.getD t .any
   rw[bw,bw,if_neg,if_neg]
   ·rintro rfl;exact hx (by simp[efA])
   ·rintro rfl;exact hx (by simp[efA])
  | blk b=>
   show aa ((d,_)::aB s.hp id _) b=aa s.hp b
   simp only[aa];rw[if_neg,ai,if_neg]
   ·rintro rfl;exact hx (by simp[efA])
   ·rintro rfl;exact hx (by simp[efA])
 ·cases x with
  | tm t=>
   show ((s'.tm.set src .any).set d _).getD t .any=((s.tm.set src .any).set d _).getD t .any
   rw[bw,bw,bw,bw,WD,WD,hl];have hx:t=d\/t=src:=by simpa[efA] using hx
   rcases hx with rfl | rfl
   ·rw[if_pos rfl,if_pos rfl]
   ·split
    ·rfl
    ·rw[if_pos rfl,if_pos rfl]
  | blk b=>
   show aa ((d,_)::aB s'.hp id _) b=aa ((d,_)::aB s.hp id _) b
   have hx:b=d\/b=id:=by simpa[efA] using hx
   simp only[aa];split
   ·rfl
   ·rename_i hne
    rcases hx with rfl | rfl
    ·exact absurd rfl hne
    ·rw[ai,ai,if_pos rfl,if_pos rfl]
end
end Go.Eng
