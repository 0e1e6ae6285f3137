/- Texts of this claim, part 9: Find, Put, PEnt, ModK, Ent, OwnH, Nam, PLog, Logs, PNames, PSplit, Nrm, EngAM, EngAO, EngAP, EngAQ, EngAR, EngAS, EngAT, EngAU, EngAV. No condition. -/
import Derived.Test.YtmcfbfdonjllaaaGreatDoorYW8
import Derived.Lib.SplitLaws
import Derived.Lib.Join
import Derived.Laws.IdiomStrings
set_option maxRecDepth 10000
set_option maxHeartbeats 4000000
set_option linter.unusedSimpArgs false
set_option linter.unusedVariables false
namespace La
open Go Go.Eng Go.Proofs
def ax:Node:=⟨0,false,[],[],0⟩
def gx (l:List Node) (f:Int):AV:=.tup [.agg (ZN ((af l f).getD ax)),.bool (bz l f)]
theorem xe {l:List Node} {k:Int} (h:bz l k=true):af l k=some (l.getD (placeOf l k) default):=by unfold af;rw[if_pos h]
theorem xf {l:List Node} {k:Int} (h:bz l k=false):af l k=none:=by unfold af;rw[if_neg Zs]
@[go_sem,simp] theorem I4 (l:List Node) (f:Int):refs (gx l f)=[]:=by unfold gx;simp[refs,aL]
theorem bP (l:List Node) (k:Int):bz l k=(af l k).isSome:=by
 cases h:bz l k
 ·rw[xf h];rfl
 ·rw[xe h];rfl
theorem pN {l:List Node} {k:Int} {n:Node} (h:af l k=some n):n∈l:=by
 unfold af at h;split at h
 ·rename_i hc;injection h with h
  subst h;unfold bz at hc;rw[Bool.and_eq_true] at hc;exact YG (of_decide_eq_true hc.1)
 ·cases h
theorem Small.find {l:List Node} (h:Small l) (k:Int):((af l k).getD ax).Small:=by
 cases e:af l k with
 | none=>exact ⟨by simp[ax],by simp[ax]⟩
 | some n=>exact h.each n (pN e)
theorem qJ (n:Node):ic (ZN n)=ZN n:=by
 have h1:kV (n.data.map ZY)=n.data.map ZY:=by rw[eN,Wn];rfl
 have h2:kV (n.entries.map ZE)=n.entries.map ZE:=by rw[eN,Wn];rfl
 simp only[ZN,ic,nrm,h1,h2]
theorem DK (l:List Node) (f:Int) (hl:Small l):ag Tryz.prog 82 [.sl (l.map ZN),.int .i64 f] [] (λr _=>r=.tup [.agg (if bz l f=true then ZN (l.getD (placeOf l f) default) else [.int .i64 0,.bool false,.nils,.nils,.int .i64 0]),.bool (bz l f)]):=by
 refine ZF tK (Tryz.func82) rfl (λC=>?_);simp only[Tryz.ntmps82,Tryz.results82,go_sem];refine wG tK ?_;refine wC Tryz.func120 (hf:=(yJ l f hl.len)) (hk:=?_);refine wG tK ?_;have hple:=lj l f;have hlen:=hl.len;refine wD (λh=>?_) (λh=>?_)
 ·have hat:bz l f=false:=by simpa using h
  refine wG tK ?_;refine wT ?_;simp[hat]
 ·have hat:bz l f=true:=by simpa using h
  have hpl:placeOf l f<l.length:=by
   unfold bz at hat;rw[Bool.and_eq_true] at hat;exact of_decide_eq_true hat.1
  have hn:=YG hpl;have hd:(l.take (placeOf l f+1)).drop (placeOf l f)=[l.getD (placeOf l f) default]:=by rw[List.drop_take,dO hpl,Ww];rfl
  have hw:IntKind.i64.wrap ((placeOf l f:Int)+1)=((placeOf l f+1:Nat):Int):=by rw[Eng.wrap_small z7 z7];omega
  generalize l.getD (placeOf l f) default=n at hn hd;refine wGq tK ?_ ?_ k0
  ·simp;exact ⟨by omega,by omega,λ_ _=>rfl⟩
  simp only[go_sem,←W7,←List.map_drop,hd];refine wC Tryz.func66 (hf:=(k_ [n] ⟨by simp,λx hx=>by rw[List.mem_singleton.1 hx];exact hl.each n hn⟩)) (hk:=?_);refine wGq tK ?_ ?_ y6
  ·simp[go_sem,ZN]
  refine kF ⟨_,_,by simp only[go_sem,ZN];try exact rfl,by simp[go_sem],_,.inr (.inl rfl),?_⟩;simp[hat,ZN]
theorem eF (l:List Node) (f:Int) (hl:Small l):ag Tryz.prog 82 [.sl (l.map ZN),.int .i64 f] [] (λr _=>r=gx l f):=by
 refine ag.kV (DK l f hl) ?_;unfold gx;cases h:bz l f
 ·rw[xf h];rfl
 ·rw[xe h];simp only[if_true,nrm,ic,qJ,Option.getD_some]
theorem qN (l:List Node) (n:Node):(aT l n).length≤l.length+1:=by
 unfold aT;split
 ·simp
 ·have:=lj l n.fid;simp;omega
theorem Bb {rows:List (List AV)} (h:∀id,(rows.all λrow=>row.all λx=>!(refs x).contains id)=true):∀row,row∈rows->∀x,x∈row->refs x=[]:=λrow hr x hx=>by
 refine List.eq_nil_iff_forall_not_mem.2 λid hid=>?_
 have:=List.all_eq_true.1 (List.all_eq_true.1 (h id) row hr) x hx;rw[Wm,List.contains_eq_mem,decide_eq_false_iff_not] at this;exact this hid
theorem xC {L:List (List AV)} {i:Nat} {z:List AV} (h:∀id,(L.all λrow=>row.all λx=>!(refs x).contains id)=true) (hz:∀x,x∈z->refs x=[]):∀row,row∈L.take i++z::L.drop i->∀x,x∈row->refs x=[]:=λrow hr x hx=>by
 rcases List.mem_append.1 hr with h1 | h1
 ·exact Bb h row (WI h1) x hx
 ·rcases List.mem_cons.1 h1 with rfl | h1
  ·exact hz x hx
  ·exact Bb h row (WX h1) x hx
theorem oR (l:List Node):(l.map ZN).map (λrow=>row.map xZ)=l.map ZN:=by
 rw[Wn];rfl
theorem nw (l:List Entry):(l.map ZE).map (λrow=>row.map xZ)=l.map ZE:=by
 rw[Wn];rfl
theorem vL (l:List Node) (i:Nat) (hi:i≤l.length) (hlen:l.length≤100000000) :
  ag Tryz.prog 229 [.osl 1000 5 0 l.length,.int .i64 i,.osl 22 5 0 1] [(22,.cells 94 5 [[.int .i64 0,.bool false,.nils,.nils,.int .i64 0]]),(1000,.cells 94 5 (l.map ZN))]
   (λr H=>r=.osl 7 5 0 (l.length+1)/\∀i' b,ae [(7,.cells 94 5 ((l.take i++ax::l.drop i).map ZN))] i'=some b->ae H i'=some b):=by
 have hL:(l.map ZN).length=l.length:=List.length_map ..;have:=ag.IC (rows':=(l.take i++ax::l.drop i).map ZN) 7 (x_ (l.map ZN) i z7 z7 (sI l) (vK l) (λid=>ny id l)) (by
  rw[List.map_append,List.map_cons,List.map_append,List.map_cons,←W7,←List.map_drop,oR,oR];rfl) (xC (λid=>ny id l) j6)
 rw[hL] at this;exact this
theorem qI (M:List Node) (i:Nat) (n:Node):(M.map ZN).set i (ZN n)=(M.set i n).map ZN:=by rw[List.map_set]
theorem sH {M:List Node} {i:Nat} (h:i<M.length):(M.map ZN).getD i []=[.int .i64 (M.getD i default).fid,.bool (M.getD i default).dir,.sl ((M.getD i default).data.map ZY),.sl ((M.getD i default).entries.map ZE),.int .i64 (M.getD i default).version]:=by
 rw[Fam.getD h];rfl
theorem Jk (l:List Node) (n:Node) (hl:Small l) (hn:n.Small):ag Tryz.prog 207 [.sl (l.map ZN),.agg (ZN n)] [] (λr _=>r=.sl ((aT l n).map ZN)):=by
 have hlen:=hl.len;refine ZF tK (Tryz.func207) rfl (λC=>?_);simp only[Tryz.ntmps207,Tryz.results207,go_sem];refine wGq tK ?_ ?_ y6
 ·simp
 refine ZZ 3 rfl (rfl) ?_;simp only[go_sem];refine wCG [] 977 Tryz.func66 (hf:=(rI l hl)) (hk:=?_);refine wG tK ?_;refine wV Tryz.func120 (hf:=(yJ l n.fid hlen)) (hk:=?_);refine wG tK ?_;have hple:=lj l n.fid;refine wD (λh=>?_) (λh=>?_)
 ·have hat:bz l n.fid=false:=by simpa using h
  refine wG tK ?_;refine wCG [1000,22] 200 Tryz.func229 (hf:=(vL l (placeOf l n.fid) hple hlen)) (hk:=?_);have hM:(l.take (placeOf l n.fid)++ax::l.drop (placeOf l n.fid)).length=l.length+1:=by simp;omega
  have hS:(l.take (placeOf l n.fid)++ax::l.drop (placeOf l n.fid)).set (placeOf l n.fid) n=aT l n:=by
   unfold aT;rw[hat,if_neg y7,List.set_append_right _ _ QP,WO,W5 hple,Wf];rfl
  have hpl:placeOf l n.fid<l.length+1:=by omega
  generalize l.take (placeOf l n.fid)++ax::l.drop (placeOf l n.fid)=M at *;have hlt:placeOf l n.fid<(M).length:=by omega
  have hg:=sH hlt;have hq:((M).map ZN).set (placeOf l n.fid) [.int .i64 n.fid,.bool n.dir,.sl (n.data.map ZY),.sl (n.entries.map ZE),.int .i64 n.version]=(aT l n).map ZN:=by
   rw[←hS,←qI];rfl
  refine wGq tK ?_ ?_ y6
  ·simp[ZN]
  refine ZZ 27 rfl (rfl) ?_;simp only[go_sem];refine wC Tryz.func66 (hf:=(k_ [n] ⟨by simp,λx hx=>by rw[List.mem_singleton.1 hx];exact hn⟩)) (hk:=?_);refine wR ?_;refine wN tK 2 ?_ z6 z6 y6 Ze;refine wNq tK 1 ?_ ?_ z6 z6 y6
  ·simp[ZN,hpl,hM]
  refine wNq tK 1 ?_ ?_ z6 z6 y6
  ·exact ⟨by simp,hlt⟩
  simp only[go_sem,hg,hq];refine wG tK ?_;refine ZZ 207 rfl (e_ _) ?_;simp only[go_sem];refine wT ?_;rw[if_pos (by rw[←hS,Wp];omega),Z4 Zc]
 ·have hat:bz l n.fid=true:=by simpa using h
  have hpl:placeOf l n.fid<l.length:=by
   unfold bz at hat;rw[Bool.and_eq_true] at hat;exact of_decide_eq_true hat.1
  have hS:l.set (placeOf l n.fid) n=aT l n:=by
   unfold aT;rw[hat,if_pos rfl]
  have hlt:placeOf l n.fid<(l).length:=by omega
  have hg:=sH hlt;have hq:((l).map ZN).set (placeOf l n.fid) [.int .i64 n.fid,.bool n.dir,.sl (n.data.map ZY),.sl (n.entries.map ZE),.int .i64 n.version]=(aT l n).map ZN:=by
   rw[←hS,←qI];rfl
  refine wGq tK ?_ ?_ y6
  ·simp[ZN]
  refine ZZ 27 rfl (rfl) ?_;simp only[go_sem];refine wC Tryz.func66 (hf:=(k_ [n] ⟨by simp,λx hx=>by rw[List.mem_singleton.1 hx];exact hn⟩)) (hk:=?_);refine wR ?_;refine wN tK 2 ?_ z6 z6 y6 Ze;refine wNq tK 1 ?_ ?_ z6 z6 y6
  ·simp[ZN,hpl,hple]
  refine wNq tK 1 ?_ ?_ z6 z6 y6
  ·exact ⟨by simp,hlt⟩
  simp only[go_sem,hg,hq];refine wG tK ?_;refine ZZ 1000 rfl (e_ _) ?_;simp only[go_sem];refine wT ?_;rw[if_pos (by rw[←hS,Wp];omega),Z4 Zc]
end La
namespace La
open Go
theorem mb:∀(a b:List UInt8),Op.bytesLess a b=decide (a<b)
 | [],[]=>by simp[Op.bytesLess]
 | [],_::_=>by simp[Op.bytesLess]
 | _::_,[]=>by simp[Op.bytesLess]
 | p::a,q::b=>by
  unfold Op.bytesLess;rw[mb a b,W1];simp only[Bool.or_eq_true,decide_eq_true_eq,Bool.and_eq_true,beq_iff_eq,List.cons_lt_cons_iff]
theorem rk (a:List UInt8):¬a<a:=List.lt_irrefl a
theorem Ab {a b c:List UInt8} (h:a<b) (k:b<c):a<c:=List.lt_trans h k
theorem Jq {a b:List UInt8} (h:¬a<b) (k:¬b<a):a=b:=List.le_antisymm (List.not_lt.1 k) (List.not_lt.1 h)
def wX (l:List Entry) (s:List UInt8) (i:Nat):Bool:=decide ((l.getD i default).name<s)
def bc (l:List Entry) (s:List UInt8):Nat:=bsearch (wX l s) l.length 0 l.length
def isE (l:List Entry) (s:List UInt8):Bool:=decide (bc l s<l.length)&&decide ((l.getD (bc l s) default).name=s)
def ay (n:Node) (s:List UInt8):Option Int:=if isE n.entries s then some (n.entries.getD (bc n.entries s) default).fid else none
def aW (l:List Entry) (s:List UInt8) (f:Int):List Entry:=if isE l s then l.set (bc l s) ⟨s,f⟩ else l.take (bc l s)++⟨s,f⟩::l.drop (bc l s)
def aX (l:List Entry) (s:List UInt8):List Entry:=l.filter λe=>!(e.name==s)
def bb (n:Node) (s:List UInt8) (f:Int):Node:={ n with entries:=aW n.entries s f }
def aE (n:Node) (s:List UInt8):Node:={ n with entries:=aX n.entries s }
theorem pL (l:List Entry) (s:List UInt8):bc l s≤l.length:=(kC _ _ _ _ (Wg _)).2
def EUp (l:List Entry):Prop:=l.Pairwise λa b=>a.name<b.name
theorem EUp.lt {l:List Entry} (h:EUp l) {i j:Nat} (hij:i<j) (hj:j<l.length):(l.getD i default).name<(l.getD j default).name:=by
 have:=List.pairwise_iff_getElem.1 h i j z7 hj hij;rw[Z1,Z1,Z2 z7,Z2 hj];exact this
theorem EUp.place {l:List Entry} (h:EUp l) (s:List UInt8):(∀i,i<bc l s->(l.getD i default).name<s)/\∀i,bc l s≤i->i<l.length->¬(l.getD i default).name<s:=by
 have:=iy (wX l s) l.length (λi j hij hj hl=>by
  rcases Nat.lt_or_eq_of_le hij with h1 | rfl
  ·exact decide_eq_true (Ab (h.lt h1 hj) (of_decide_eq_true hl))
  ·exact hl) l.length 0 l.length z7 z7 (WC _) (λi hi=>by omega) (λi h1 h2=>by omega)
 obtain ⟨_,h2,h3⟩:=this;exact ⟨λi hi=>of_decide_eq_true (h2 i hi),λi hi hl=>of_decide_eq_false (h3 i hi hl)⟩
theorem iU {l:List Entry} {x:Entry} {i:Nat} (h:l[i]? = some x):l.getD i default=x:=by rw[Z1,h];rfl
theorem iC {l:List Entry} (h:EUp l) (s:List UInt8):isE l s=true↔∃e,e∈l/\e.name=s:=by
 obtain ⟨p1,p2⟩:=h.place s;unfold isE;rw[Bool.and_eq_true,decide_eq_true_eq,decide_eq_true_eq];constructor
 ·rintro ⟨h1,h2⟩;exact ⟨_,YG h1,h2⟩
 ·rintro ⟨e,he,rfl⟩;obtain ⟨i,hi⟩:=Z9 he;have hil:i<l.length:=(Z8.1 hi).1;have hix:=iU hi;have hpi:bc l e.name=i:=by
   rcases Nat.lt_trichotomy (bc l e.name) i with h1 | h1 | h1
   ·have:=p2 _ (WC _) z7;have h3:=h.lt h1 hil;rw[hix] at h3;exact absurd h3 this
   ·exact h1
   ·have:=p1 i h1;rw[hix] at this;exact absurd this (rk _)
  rw[hpi,hix];exact ⟨hil,rfl⟩
theorem EUp.parts {l:List Entry} (h:EUp l) {s:List UInt8} (hs:isE l s=false):(∀e,e∈l.take (bc l s)->e.name<s)/\∀e,e∈l.drop (bc l s)->s<e.name:=by
 obtain ⟨p1,p2⟩:=h.place s;refine ⟨λe he=>?_,λe he=>?_⟩
 ·obtain ⟨i,hi⟩:=Z9 he;rw[WQ] at hi;split at hi
  ·rename_i hip;have:=p1 i hip
   rwa [iU hi] at this
  ·cases hi
 ·obtain ⟨i,hi⟩:=Z9 he;rw[WW] at hi;have h1:=p2 (bc l s+i) z7 (Z8.1 hi).1;rw[iU hi] at h1
  by_cases h2:s<e.name
  ·exact h2
  ·have h3:=Jq h1 h2;have:isE l s=true:=(iC h s).2 ⟨e,Z6 hi,h3⟩;rw[hs] at this;cases this
theorem c_ {l:List Entry} (h:EUp l) {s:List UInt8} (hs:isE l s=false) (f:Int):EUp (aW l s f)/\(∀e,e∈aW l s f↔e=⟨s,f⟩\/e∈l)/\aX (aW l s f) s=l:=by
 obtain ⟨h1,h2⟩:=h.parts hs;unfold aW aX;rw[hs,if_neg y7];generalize bc l s=p at *;have hmem:∀x,x∈l↔x∈l.take p\/x∈l.drop p:=λx=>by
  have:=List.mem_append (a:=x) (s:=l.take p) (t:=l.drop p);rw[List.take_append_drop] at this;exact this
 refine ⟨?_,λe=>?_,?_⟩
 ·refine List.pairwise_append.2 ⟨h.sublist (List.take_sublist _ _),List.pairwise_cons.2 ⟨h2,h.sublist (List.drop_sublist _ _)⟩,λa ha b hb=>?_⟩
  rcases List.mem_cons.1 hb with rfl | hb
  ·exact h1 a ha
  ·exact Ab (h1 a ha) (h2 b hb)
 ·rw[hmem,List.mem_append,List.mem_cons];constructor
  ·rintro (h | h | h)
   ·exact .inr (.inl h)
   ·exact .inl h
   ·exact .inr (.inr h)
  ·rintro (h | h | h)
   ·exact .inr (.inl h)
   ·exact .inl h
   ·exact .inr (.inr h)
 ·rw[List.filter_append,List.filter_cons,WU.2 (λe he=>?_),WU.2 (λe he=>?_)]
  ·simp
  ·have:e.name≠s:=by rintro rfl;exact rk _ (h2 e he)
   simpa using this
  ·have:e.name≠s:=by rintro rfl;exact rk _ (h1 e he)
   simpa using this
theorem EUp.same {l:List Entry} (h:EUp l) {a b:Entry} (ha:a∈l) (hb:b∈l) (hn:a.name=b.name):a=b:=by
 obtain ⟨i,hi⟩:=Z9 ha;obtain ⟨j,hj⟩:=Z9 hb;have hil:=(Z8.1 hi).1;have hjl:=(Z8.1 hj).1
 rcases Nat.lt_trichotomy i j with h1 | h1 | h1
 ·have:=h.lt h1 hjl;rw[iU hi,iU hj,hn] at this;exact absurd this (rk _)
 ·subst h1;rw[hi] at hj;injection hj
 ·have:=h.lt h1 hil;rw[iU hi,iU hj,hn] at this;exact absurd this (rk _)
theorem YE {n:Node} (h:EUp n.entries) {s:List UInt8} {f:Int}:ay n s=some f↔⟨s,f⟩∈n.entries:=by
 unfold ay;constructor
 ·intro hf;split at hf
  ·rename_i hc;unfold isE at hc;rw[Bool.and_eq_true,decide_eq_true_eq,decide_eq_true_eq] at hc;have:=YG hc.1;injection hf with hf
   have e:n.entries.getD (bc n.entries s) default=⟨s,f⟩:=by
    cases h0:n.entries.getD (bc n.entries s) default with
    | mk a b=>rw[h0] at hf hc;simp only at hf hc;rw[←hf,←hc.2]
   rw[←e];exact this
  ·cases hf
 ·intro hm;have hi:=(iC h s).2 ⟨_,hm,rfl⟩;rw[if_pos hi];unfold isE at hi;rw[Bool.and_eq_true,decide_eq_true_eq,decide_eq_true_eq] at hi;have:=h.same (YG hi.1) hm hi.2;rw[this]
theorem gZ {n:Node} (h:EUp n.entries) {s:List UInt8}:ay n s=none↔∀e,e∈n.entries->e.name≠s:=by
 unfold ay;constructor
 ·intro hf e he hn;rw[if_pos ((iC h s).2 ⟨e,he,hn⟩)] at hf;cases hf
 ·intro hn;rw[if_neg];intro hi;obtain ⟨e,he,h1⟩:=(iC h s).1 hi;exact hn e he h1
end La
namespace La
open Go Go.Eng
structure Kept where
 node:Node
 dirty:Bool
 worth:Int
 last:Int
deriving DecidableEq,Inhabited
structure Verdict where
 err:Int
 fid:Int
deriving DecidableEq,Inhabited
structure Past where
 client:Int
 act:Act
deriving DecidableEq,Inhabited
def ZK (k:Kept):List AV:=[.int .i64 k.node.fid,.bool k.node.dir,.sl (k.node.data.map ZY),.sl (k.node.entries.map ZE),.int .i64 k.node.version,.bool k.dirty,.int .i64 k.worth,.int .i64 k.last]
def eo (s:List UInt8):List AV:=[.str s]
def ZV (v:Verdict):List AV:=[.int .i64 v.err,.int .i64 v.fid]
def ZP (p:Past):List AV:=[.int .i64 p.client,.int .i64 p.act.kind,.int .i64 p.act.fid,.int .i64 p.act.dir,.str p.act.name,.int .i64 p.act.to,.str p.act.toName,.sl (p.act.data.map ZY)]
theorem fE:Fam ZK 8:=⟨λ_=>rfl,λ_=>rfl,λ_=>rfl,λ_=>rfl⟩
@[go_sem,simp] theorem su (l:List _):Eng.rowsOf 8 (l.map ZK):=fE.rowsOf l
@[go_sem,simp] theorem vD (l:List _):((l.map ZK).all λrow=>row.all AV.leaf)=true:=fE.mK l
@[go_sem,simp] theorem cW (l:List _):((l.map ZK).all λrow=>row.all AV.bw)=true:=fE.fw l
@[go_sem,simp] theorem Fo (id:Nat) (l:List _):((l.map ZK).all λrow=>row.all λx=>!(refs x).contains id)=true:=fE.lD id l
@[go_sem,simp] theorem Fp (e s:Nat) (l:List _):aN (.cells e s (l.map ZK))=[]:=fE.aN e s l
@[go_sem,simp] theorem GA (off:Nat) (l:List _):(l.map ZK).map (gw off)=l.map ZK:=Fam.gw (λ_ _=>rfl) off l
@[go_sem,simp] theorem Gz (id s:Nat) (rows:List (List AV)) (l:List _):(l.map ZK).map (dX id s rows)=l.map ZK:=Fam.dX (λ_ _ _ _=>rfl) id s rows l
@[go_sem,simp] theorem Fq (a):aL (ZK a)=[]:=fE.free a
theorem fU:Fam ZV 2:=⟨λ_=>rfl,λ_=>rfl,λ_=>rfl,λ_=>rfl⟩
@[go_sem,simp] theorem rr (l:List _):((l.map ZV).all λrow=>row.all AV.bw)=true:=fU.fw l
@[go_sem,simp] theorem CQ (id:Nat) (l:List _):((l.map ZV).all λrow=>row.all λx=>!(refs x).contains id)=true:=fU.lD id l
@[go_sem,simp] theorem CR (e s:Nat) (l:List _):aN (.cells e s (l.map ZV))=[]:=fU.aN e s l
@[go_sem,simp] theorem C3 (id s:Nat) (rows:List (List AV)) (l:List _):(l.map ZV).map (dX id s rows)=l.map ZV:=Fam.dX (λ_ _ _ _=>rfl) id s rows l
@[go_sem,simp] theorem CS (a):aL (ZV a)=[]:=fU.free a
theorem lV:Fam ZP 8:=⟨λ_=>rfl,λ_=>rfl,λ_=>rfl,λ_=>rfl⟩
@[go_sem,simp] theorem iD (l:List _):((l.map ZP).all λrow=>row.all AV.bw)=true:=lV.fw l
@[go_sem,simp] theorem gW (id:Nat) (l:List _):((l.map ZP).all λrow=>row.all λx=>!(refs x).contains id)=true:=lV.lD id l
@[go_sem,simp] theorem Fu (e s:Nat) (l:List _):aN (.cells e s (l.map ZP))=[]:=lV.aN e s l
@[go_sem,simp] theorem G0 (off:Nat) (l:List _):(l.map ZP).map (gw off)=l.map ZP:=Fam.gw (λ_ _=>rfl) off l
@[go_sem,simp] theorem GZ (id s:Nat) (rows:List (List AV)) (l:List _):(l.map ZP).map (dX id s rows)=l.map ZP:=Fam.dX (λ_ _ _ _=>rfl) id s rows l
end La
namespace La
open Go Go.Eng Go.Proofs
def pF (a b:List UInt8):Int:=if a<b then -1 else if b<a then 1 else 0
theorem AD (a b:List UInt8):decide (pF a b<0)=decide (a<b):=by
 unfold pF;split
 ·rename_i h;simp[h]
 ·rename_i h;split
  ·simp[h]
  ·simp[h]
theorem Ge (a b:List UInt8):decide (pF a b=0)=decide (a=b):=by
 unfold pF;split
 ·rename_i h;have:a≠b:=by rintro rfl;exact rk _ h
  simp[this]
 ·rename_i h;split
  ·rename_i h2;have:a≠b:=by rintro rfl;exact rk _ h2
   simp[this]
  ·rename_i h2;simp[Jq h h2]
theorem uv (a:List UInt8):ag Tryz.prog 170 [.str a] [] (λr _=>r=.bool false):=by
 refine ZF tK (Tryz.func170) rfl (λC=>?_);simp only[Tryz.ntmps170,Tryz.results170,go_sem];refine wG tK ?_;refine wT ?_;simp
theorem qp (a b:List UInt8):ag Tryz.prog 142 [.str a,.str b] [] (λr _=>r=.int .i64 (pF a b)):=by
 refine ZF tK (Tryz.func142) rfl (λC=>?_);simp only[Tryz.ntmps142,Tryz.results142,go_sem];refine wG tK ?_;refine wC Tryz.func170 (hf:=(uv a)) (hk:=?_);refine wG tK ?_;refine wC Tryz.func170 (hf:=(uv b)) (hk:=?_);refine wG tK ?_;refine wD (λh=>?_) (λh=>?_)
 ·cases h
 refine wG tK ?_;refine wD (λh=>?_) (λh=>?_)
 ·cases h
 refine wG tK ?_;refine wD (λh=>?_) (λh=>?_)
 ·rename_i h0 h1;have hab:a<b:=by rw[mb] at h;exact of_decide_eq_true h
  refine wG tK ?_;refine wT ?_;simp[pF,hab]
 have hab:¬a<b:=by rw[mb] at h;exact of_decide_eq_false h
 refine wG tK ?_;refine wD (λh=>?_) (λh=>?_)
 ·have hba:b<a:=by
   rw[mb] at h
   by_cases h3:b<a
   ·exact h3
   ·have:=Jq hab h3;subst this;simp at h
  refine wG tK ?_;refine wT ?_;simp[pF,hab,hba]
 have hba:¬b<a:=by
  intro h3;have hne:a≠b:=by rintro rfl;exact rk _ h3
  rw[mb] at h;simp[hab,hne] at h
 refine wG tK ?_;refine wT ?_;simp[pF,hab,hba]
theorem w_ (e:Entry) (s:List UInt8):ag Tryz.prog 141 [.agg (ZE e),.str s] [] (λr _=>r=.int .i64 (pF e.name s)):=by
 unfold ZE;refine ZF tK (Tryz.func141) rfl (λC=>?_);simp only[Tryz.ntmps141,Tryz.results141,go_sem];refine wG tK ?_;refine wC Tryz.func142 (hf:=(qp e.name s)) (hk:=?_);refine wG tK ?_;refine wT ?_;rfl
theorem wY (e:Entry) (s:List UInt8):ag Tryz.prog 208 [.agg (ZE e),.str s] [] (λr _=>r=.int .i64 (pF e.name s)):=by
 unfold ZE;refine ZF tK (Tryz.func208) rfl (λC=>?_);simp only[Tryz.ntmps208,Tryz.results208,go_sem];refine wG tK ?_;refine wC Tryz.func142 (hf:=(qp e.name s)) (hk:=?_);refine wG tK ?_;refine wT ?_;rfl
theorem oz (l:List Entry) (s:List UInt8) (hlen:l.length≤100000000) {f:FuncId} (hcal:aP Tryz.prog f) (hf:∀e,ag Tryz.prog f [.agg (ZE e),.str s] [] (λr _=>r=.int .i64 (pF e.name s))) :
  ag Tryz.prog 140 [.sl (l.map ZE),.str s,.fn f []] [] (λr _=>r=.tup [.int .i64 (bc l s),.bool (isE l s)]):=by
 refine ZF tK (Tryz.func140) rfl (λC=>?_);simp only[Tryz.ntmps140,Tryz.results140,go_sem];refine wG tK ?_;refine ZL (λi:Nat×Nat=>i.1≤i.2/\i.2≤l.length/\bsearch (wX l s) (i.2-i.1) i.1 i.2=bc l s) (λi=>i.2-i.1) (λi=>(9,.int .i64 i.1)::(10,.int .i64 i.2)::(11,.any)::u3 15 20 []) (λ_=>[]) (0,l.length) ⟨by simp,by simp,rfl⟩ ?_ λi hi=>?_
 ·simp only[go_sem];exact ZU w4 w4 w4
 obtain ⟨lo,hi'⟩:=i;obtain ⟨h1,h2,h3⟩:=hi;simp only at h1 h2 h3;simp only[go_sem];refine wG tK ?_;refine wD (λh=>?_) (λh=>?_)
 ·have hlt:lo<hi':=by simp at h;omega
  have hml:(lo+hi') / 2<l.length:=by omega
  have hn:=hf (l.getD ((lo+hi') / 2) default);have hg:(l.map ZE).getD ((lo+hi') / 2) []=ZE (l.getD ((lo+hi') / 2) default):=Fam.getD hml;have hmid:IntKind.i64.wrap ((IntKind.u64.wrap (IntKind.i64.wrap ((lo:Int)+(hi':Int)))).fdiv (2 ^ min 1 64))=(((lo+hi') / 2:Nat):Int):=D' z7;have hst:=ob (wX l s) hlt;have hlm:wX l s ((lo+hi') / 2)=decide ((l.getD ((lo+hi') / 2) default).name<s):=rfl;have hm1:lo≤(lo+hi') / 2:=by omega
  have hm2:(lo+hi') / 2<hi':=by omega
  generalize l.getD ((lo+hi') / 2) default=n at hn hg hlm;generalize (lo+hi') / 2=m at *;refine wGq tK ?_ ?_ (by simp only[go_sem,hmid,hg,ZE];try exact rfl)
  ·simp[hmid,hg,hml,ZE]
  refine eb rfl rfl z8 w4 hcal (by simp[go_sem,ne_eq]) (hn) w4 z6 ?_;refine wG tK ?_;refine wD (λh=>?_) (λh=>?_)
  ·rw[AD,←hlm] at h;rw[h,if_pos rfl] at hst;have hw:IntKind.i64.wrap ((m:Int)+1)=((m+1:Nat):Int):=by rw[Eng.wrap_small z7 z7];omega
   refine wG tK ?_ k0 k9;refine ZB ⟨(m+1,hi'),⟨by omega,h2,hst▸h3⟩,by simp;omega,ZU ?_ ?_ ?_⟩
   ·simp[go_sem]
   ·simp[go_sem]
   ·simp[go_sem]
  ·rw[AD,←hlm] at h;rw[h,if_neg y7] at hst;refine wG tK ?_;refine ZB ⟨(lo,m),⟨by omega,by omega,hst▸h3⟩,by simp;omega,ZU ?_ ?_ ?_⟩
   ·simp[go_sem]
   ·simp[go_sem]
   ·simp[go_sem]
 ·have hge:¬lo<hi':=by simp at h;omega
  rw[qn _ hge] at h3;subst h3;refine wR ?_;refine wN tK 5 ?_;refine bx 39 z6 (λc39 h39=>?_);simp only[go_sem];cases c39 with
  | true=>
   have hpl:bc l s<l.length:=by have:=of_decide_eq_true h39;omega
   have hn:=hf (l.getD (bc l s) default);have hg:(l.map ZE).getD (bc l s) []=ZE (l.getD (bc l s) default):=Fam.getD hpl;have hat:isE l s=decide ((l.getD (bc l s) default).name=s):=by simp[isE,hpl]
   generalize l.getD (bc l s) default=n at hn hg hat;refine wGq tK ?_ ?_ QH
   ·simp[hg,hpl,ZE]
   refine wM rfl z8 z8 w4 hcal w4 (λhb=>(hn)) w4 z6 ?_;refine wG tK ?_;refine wT ?_;have e:(pF n.name s==0)=decide (n.name=s):=by rw[←Ge];by_cases h0:pF n.name s=0<;>simp[h0]
   simp[hat,e]
  | false=>
   have hpl:¬bc l s<l.length:=by have:=of_decide_eq_false h39;omega
   have hat:isE l s=false:=by simp[isE,hpl]
   refine wG tK ?_;refine iA (.int .i64 0) rfl ?_;simp only[go_sem];refine wG tK ?_;refine wT ?_;simp[hat]
def eO:Option Int->AV
 | none=>.tup [.int .i64 0,.bool false]
 | some f=>.tup [.int .i64 f,.bool true]
@[go_sem,simp] theorem Iy (o:Option Int):refs (eO o)=[]:=by cases o<;>simp[eO,refs,aL]
theorem jX (n:Node) (s:List UInt8) (hn:n.Small):ag Tryz.prog 104 [.agg (ZN n),.str s] [] (λr _=>r=eO (ay n s)):=by
 have hlen:=hn.entries;unfold ZN;refine ZF tK (Tryz.func104) rfl (λC=>?_);simp only[Tryz.ntmps104,Tryz.results104,go_sem];refine wG tK ?_;refine wC Tryz.func140 (hf:=(oz n.entries s hlen ⟨_,Go.Proofs.Tryz.func141,by kernel_rfl,rfl⟩ (λe=>w_ e s))) (hk:=?_);refine wG tK ?_;refine wD (λh=>?_) (λh=>?_)
 ·have hat:isE n.entries s=false:=by simpa using h
  refine wG tK ?_;refine wT ?_;simp[ay,hat,eO]
 ·have hat:isE n.entries s=true:=by simpa using h
  have hpl:bc n.entries s<n.entries.length:=by
   unfold isE at hat;rw[Bool.and_eq_true] at hat;exact of_decide_eq_true hat.1
  have hg:(n.entries.map ZE).getD (bc n.entries s) []=ZE (n.entries.getD (bc n.entries s) default):=Fam.getD hpl;have hr:ay n s=some (n.entries.getD (bc n.entries s) default).fid:=by simp[ay,hat]
  rw[hr];generalize n.entries.getD (bc n.entries s) default=e at hg;refine wGq tK ?_ ?_ QH
  ·simp[hg,hpl,ZE]
  refine wT ?_;simp[eO]
theorem rT (d:List Entry) (hd:d.length≤100000000):ag Tryz.prog 101 [.sl (d.map ZE)] [] (λr H=>r=.osl 7 2 0 d.length/\∀i b,ae [(7,.cells 96 2 (d.map ZE))] i=some b->ae H i=some b):=by
 refine ZF tK (Tryz.func101) rfl (λC=>?_);simp only[Tryz.ntmps101,Tryz.results101,go_sem];refine wG tK ?_;refine lO tK rfl rfl rfl x6 x6 (λb hb=>?_);simp only[go_sem];refine wG tK ?_;refine wD (λh=>?_) (λh=>?_)
 ·have hn:d.map ZE=[]:=hb h;have hd0:d=[]:=by simpa using hn
  subst hd0;refine bf (le_empty 7 96 2 rfl) ?_;refine wG tK ?_;refine kF ⟨_,_,by simp only[go_sem];try exact rfl,by simp[go_sem],.osl 7 2 0 0,.inr (.inr ⟨rfl,.inr ⟨7,2,0,rfl⟩⟩),?_⟩;simp[go_sem]
 ·refine wGq tK ?_ ?_
  ·simp;omega
  refine wT ?_;simp[go_sem]
def kL (n:Node) (id:Nat):List AV:=[.int .i64 n.fid,.bool n.dir,.sl (n.data.map ZY),.osl id 2 0 n.entries.length,.int .i64 n.version]
@[go_sem,simp] theorem I7 (n:Node) (id:Nat):kL n id=[.int .i64 n.fid,.bool n.dir,.sl (n.data.map ZY),.osl id 2 0 n.entries.length,.int .i64 n.version]:=rfl
theorem yd (n:Node) (hn:n.Small):ag Tryz.prog 66 [.sl [ZN n]] [] (λr H=>r=.osl 23 5 0 1/\∀i b,ae [(23,.cells 94 5 [kL n 1000]),(1000,.cells 96 2 (n.entries.map ZE))] i=some b->ae H i=some b):=by
 refine ZF tK (Tryz.func66) rfl (λC=>?_);simp only[Tryz.ntmps66,Tryz.results66,go_sem];refine wG tK ?_;refine ZL (λ_:Bool=>True) (λi=>cond i 1 0) (λi=>match i with
   | true=>(3,.osl 23 5 0 0)::(5,.any)::(8,.int .i64 0)::u3 9 16 []
   | false=>(3,.osl 23 5 0 1)::(5,.any)::(8,.int .i64 1)::u3 9 16 [])
  (λi=>match i with
   | true=>[(23,.cells 94 5 [])]
   | false=>[(23,.cells 94 5 [kL n 1000]),(1000,.cells 96 2 (n.entries.map ZE))]) true trivial ?_ λi hi=>?_
 ·simp only[go_sem];exact ZU w4 w4 p8
 cases i with
 | true=>
  simp only[go_sem];refine wG tK ?_;refine wD (λh=>?_) (λh=>?_)
  ·refine wGq tK ?_ ?_ y6
   ·simp[ZN]
   refine ZW ZM ?_;refine ZS rfl ?_;refine sG tK ?_;refine sC Tryz.func100 (hf:=(lL _ hn.data)) (hk:=?_);refine sG tK ?_;refine gQ 993 rfl rfl z8 w4 ⟨_,Tryz.func101,by kernel_rfl,rfl⟩ w4 (rT _ hn.entries) w4 z8 z8 w4 z6 z6 ?_;refine sG tK ?_;refine sE ?_;refine dS tK ?_;refine ZS rfl ?_;refine sG tK ?_;refine sE ?_;refine dS tK ?_;refine wKd ?_;refine wGq tK ?_ ?_
   ·simp[rowsOf]
   refine ZB ⟨false,by simp,ZU ?_ ?_ ?_⟩
   ·simp[go_sem];rfl
   ·simp[go_sem,kL]
   ·simp[go_sem,kL]
  ·simp at h
 | false=>
  simp only[go_sem];refine wG tK ?_;refine wD (λh=>?_) (λh=>?_)
  ·simp at h
  refine wG tK ?_;refine wT ?_;simp[go_sem]
def okC (c:UInt8):Bool:=(decide (97≤c.toNat)&&decide (c.toNat≤122))||(decide (48≤c.toNat)&&decide (c.toNat≤57))
def de (s:List UInt8):Bool:=decide (1≤s.length)&&decide (s.length≤8)&&s.all okC
theorem A5 (s:List UInt8) (hs:s.length≤100000000):ag Tryz.prog 139 [.str s] [] (λr _=>r=.bool (de s)):=by
 refine ZF tK (Tryz.func139) rfl (λC=>?_);simp only[Tryz.ntmps139,Tryz.results139,go_sem];refine wR ?_;refine wN tK 1 ?_;refine wR ?_;cases e1:decide ((s.length:Int)<1) with
 | true=>
  have hno:de s=false:=by
   have h1:=of_decide_eq_true e1;unfold de;rw[show decide (1≤s.length)=false from decide_eq_false z7];rfl
  refine wG tK ?_ (by simp only[go_sem,e1];try exact rfl) (by simp[go_sem,e1]);refine wD (λh=>?_) (λh=>?_)
  ·refine wG tK ?_;refine wT ?_;rw[hno]
  ·cases h
 | false=>
  have h1:=of_decide_eq_false e1;cases e2:decide ((s.length:Int)>8) with
  | true=>
   have hno:de s=false:=by
    have h2:=of_decide_eq_true e2;unfold de;rw[show decide (s.length≤8)=false from decide_eq_false z7,Bool.and_false];rfl
   refine wG tK ?_ (by simp only[go_sem,e1,e2];try exact rfl) (by simp[go_sem,e1,e2]);refine wD (λh=>?_) (λh=>?_)
   ·refine wG tK ?_;refine wT ?_;rw[hno]
   ·cases h
  | false=>
   have h2:=of_decide_eq_false e2;have hyes:de s=s.all okC:=by
    unfold de;rw[show decide (1≤s.length)=true from decide_eq_true z7,show decide (s.length≤8)=true from decide_eq_true z7];rfl
   rw[hyes];refine wG tK ?_ (by simp only[go_sem,e1,e2];try exact rfl) (by simp[go_sem,e1,e2]);refine wD (λh=>?_) (λh=>?_)
   ·cases h
   refine wG tK ?_;refine ZL (λi:Nat=>i≤s.length/\∀j,j<i->okC (s.getD j 0)=true) (λi=>s.length-i) (λi=>(3,.any)::(4,.any)::(15,.int .i64 i)::u3 16 20 []) (λ_=>[]) 0 ⟨by omega,by omega⟩ ?_ λi hi=>?_
   ·simp only[go_sem];exact ZU w4 w4 w4
   obtain ⟨hi,hs⟩:=hi;simp only[go_sem];refine wG tK ?_;refine wD (λh=>?_) (λh=>?_)
   ·have hlt:i<s.length:=by simp at h;omega
    have hw:=wi1 (i:=i) z7;have hno:okC (s.getD i 0)=false->s.all okC=false:=λh0=>by
     cases e:s.all okC with
     | false=>rfl
     | true=>
      have:=List.all_eq_true.1 e (s.getD i 0) (by rw[Z1,Z2 hlt];exact Wi hlt);rw[this] at h0;cases h0
    have hyes:okC (s.getD i 0)=true->∀j,j<i+1->okC (s.getD j 0)=true:=λh0 j hj=>by
     rcases Nat.lt_succ_iff_lt_or_eq.1 hj with h1 | rfl
     ·exact hs j h1
     ·exact h0
    refine wR ?_;refine wN tK 2 ?_;refine wR ?_;refine wN tK 2 ?_;refine wNq tK 1 ?_ ?_
    ·simp;omega
    refine wN tK 1 ?_;refine wR ?_;generalize s.getD i 0=c at hno hyes;have hc:okC c=((!(decide ((c.toNat:Int)<97))&&!(decide ((c.toNat:Int)>122)))||(!(decide ((c.toNat:Int)<48))&&!(decide ((c.toNat:Int)>57)))):=by
     unfold okC;rw[W1];simp only[Bool.or_eq_true,Bool.and_eq_true,decide_eq_true_eq,Wm,decide_eq_false_iff_not];omega
    generalize hf1:decide ((c.toNat:Int)<97)=f1 at hc;generalize hf2:decide ((c.toNat:Int)>122)=f2 at hc;generalize hf3:decide ((c.toNat:Int)<48)=f3 at hc;generalize hf4:decide ((c.toNat:Int)>57)=f4 at hc;refine wNq tK 14 ?_ ?_ z6 z6 (by simp only[go_sem,hf1,hf2,hf3,hf4];try exact rfl)
    ·cases f1<;>cases f2<;>cases f3<;>cases f4<;>simp
    have hb:(bif (bif f1 then true else f2) then (bif f3 then true else f4) else false)=!okC c:=by
     rw[hc];cases f1<;>cases f2<;>cases f3<;>cases f4<;>rfl
    simp only[go_sem,hb];refine wD (λh=>?_) (λh=>?_)
    ·have h0:okC c=false:=by simpa using h
     refine wG tK ?_;refine wT ?_;rw[hno h0]
    ·have h0:okC c=true:=by simpa using h
     refine wG tK ?_ k0 k9;refine ZB ⟨i+1,⟨by omega,hyes h0⟩,by omega,ZU ?_ ?_ ?_⟩
     ·simp[go_sem]
     ·simp[go_sem]
     ·simp[go_sem]
   ·have e:i=s.length:=by simp at h;omega
    have:s.all okC=true:=List.all_eq_true.2 λx hx=>by
     obtain ⟨j,hj⟩:=Z9 hx;have:=hs j (by rw[e];exact (Z8.1 hj).1)
     rwa [Z1,hj] at this
    refine wG tK ?_;refine wT ?_;rw[this]
end La
namespace La
def cc (a:Act):List Int:=if a.kind=3 then [a.fid] else if a.kind=5 then [a.fid,a.dir,a.to] else [a.fid,a.dir]
def Rec.names (r:Rec) (fid:Int):Bool:=(cc r.act).contains fid
def fg (fid:Int) (r:Rec):Bool:=r.act.fid==fid&&(r.act.kind==1||r.act.kind==2)
def gr (a:Act) (dir:Int) (name:List UInt8):Bool:=
 if a.kind=1\/a.kind=2\/a.kind=4 then a.dir==dir&&a.name==name
 else if a.kind=5 then (a.dir==dir&&a.name==name)||(a.to==dir&&a.toName==name) else false
def bars (fid dir:Int) (name:List UInt8) (x:Rec):Bool:=(x.act.kind != 3&&x.names fid)||gr x.act dir name
def ea (l:List Rec) (r:Rec):Bool:=
 match l.findIdx? (fg r.act.fid) with
 | none=>false
 | some k=>r.act.kind==4&&(l.getD k default).act.dir==r.act.dir&&(l.getD k default).act.name==r.act.name&&!((l.drop (k+1)).any (bars r.act.fid (l.getD k default).act.dir (l.getD k default).act.name))
def stored (r x:Rec):Bool:=x.act.kind==3&&x.act.fid==r.act.fid
def dW (l:List Rec) (r:Rec):List Rec:=if r.act.kind=3 then l.filter λx=>!(stored r x) else l
def dC (l:List Rec) (r:Rec):Option (List Rec):=
 if ea l r then some (l.filter λx=>!(x.names r.act.fid))
 else if (dW l r).length≥20 then none else some (dW l r++[r])
theorem lz (l:List Rec) (r:Rec):(dW l r).Sublist l:=by
 unfold dW;split
 ·exact Wz
 ·exact List.Sublist.refl _
end La
namespace La
open Go Go.Eng Go.Proofs
def Act.Small (a:Act):Prop:=a.data.length≤100000000
structure SmallL (l:List Rec):Prop where
 len:l.length≤100000000
 each:∀r,r∈l->r.act.Small
theorem lI (a:Act) (ha:a.Small):ag Tryz.prog 67 [.agg (ZA a)] [] (λr _=>r=.agg (ZA a)):=by
 unfold ZA;refine ZF tK (Tryz.func67) rfl (λC=>?_);simp only[Tryz.ntmps67,Tryz.results67,go_sem];refine wG tK ?_;refine wC Tryz.func100 (hf:=(lL _ ha)) (hk:=?_);refine wG tK ?_;refine wT ?_;rfl
theorem pV (l:List Rec) (hl:SmallL l):ag Tryz.prog 69 [.sl (l.map ZR)] [] (λr H=>r=.osl 19 9 0 (l.map ZR).length/\∀i b,ae [(19,.cells 51 9 (l.map ZR))] i=some b->ae H i=some b):=by
 have hlen:=hl.len;refine ZF tK (Tryz.func69) rfl (λC=>?_);simp only[Tryz.ntmps69,Tryz.results69,go_sem];refine wG tK ?_;refine ZL (λi:Nat=>i≤l.length) (λi=>l.length-i) (λi=>(3,.osl 19 9 0 i)::(5,.any)::(8,.int .i64 i)::u3 9 12 [])
  (λi=>[(19,.cells 51 9 ((l.take i).map ZR))]) 0 z7 ?_ λi hi=>?_
 ·simp only[go_sem];exact ZU w4 w4 p8
 simp only[go_sem];refine wG tK ?_;refine wD (λh=>?_) (λh=>?_)
 ·have hlt:i<l.length:=by simp at h;omega
  have hn:=hl.each _ (YG hlt);have hg:(l.map ZR).getD i []=ZR (l.getD i default):=Fam.getD hlt;have hs:=dE ZR hlt;generalize l.getD i default=n at hn hg hs;refine wGq tK ?_ ?_ QW
  ·simp[hlt,ZR]
  refine wC Tryz.func67 (hf:=(lI n.act hn)) (hk:=?_);have ht:List.take i (List.map ZR (List.take i l))=List.map ZR (List.take i l):=Z4 k7;have hw:IntKind.i64.wrap ((i:Int)+1)=(i:Int)+1:=wrap_small z7 z7;refine wGq tK ?_ ?_ (by simp only[go_sem,ht,hw,ZA];try exact rfl)
  ·simp[rowsOf];omega
  refine ZB ⟨i+1,by omega,by omega,ZU ?_ ?_ ?_⟩
  ·simp[go_sem]
  ·simp[go_sem,hs,ZR]
  ·simp only[go_sem]
 ·have e:i=l.length:=by simp at h;omega
  subst e;refine wG tK ?_;refine wT ?_;simp[go_sem]
theorem kk (l:List Rec) (hl:SmallL l):ag Tryz.prog 69 [.sl (l.map ZR)] [] (λr _=>r=.sl (l.map ZR)):=ag.read (pV l hl) (fK _)
end La
namespace La
open Go Go.Lib
def eJ (c:UInt8):List UInt8->List (List UInt8)
 | []=>[[]]
 | x::r=>if x=c then []::eJ c r else ((x::(eJ c r).headD [])::(eJ c r).tail)
theorem Gh (c:UInt8) (s:List UInt8):eJ c s≠[]:=by
 cases s with
 | nil=>simp[eJ]
 | cons x r=>unfold eJ;split<;>simp
theorem Gg (c:UInt8) (s:List UInt8):(eJ c s).headD []::(eJ c s).tail=eJ c s:=by
 cases e:eJ c s with
 | nil=>exact absurd e (Gh c s)
 | cons p ps=>rfl
theorem nV (c:UInt8):∀s:List UInt8,splitK [c] 0 (count s [c]) s=eJ c s
 | []=>by rw[count_miss (by simp[index])];rfl
 | x::r=>by
  by_cases h:x=c
  ·subst h;have hix:index (x::r) [x]=((0:Nat):Int):=by rw[index];simp[List.isPrefixOf]
   rw[count_cons_eq,Nat.add_comm,splitK,hix];simp only[eJ,if_true];rw[←nV x r];simp
  ·have ih:=nV c r;have hp:([c]:List UInt8).isPrefixOf (x::r)=false:=by simp[List.isPrefixOf,Ne.symm h]
   have hix:index (x::r) [c]=if index r [c]==-1 then -1 else index r [c]+1:=by rw[index,hp];simp
   rw[count_cons_ne x c r h];simp only[eJ,if_neg h,←ih];cases e:count r [c] with
   | zero=>simp[splitK]
   | succ k=>
    have hm:¬index r [c]=-1:=λe2=>by rw[count_miss e2] at e;cases e
    have hge:=index_ge r [c];obtain ⟨j,hj⟩:∃j:Nat,index r [c]=j:=⟨(index r [c]).toNat,by omega⟩;have hix':index (x::r) [c]=((j+1:Nat):Int):=by rw[hix,if_neg (λe=>hm (beq_iff_eq.1 e)),hj];omega
    simp only[splitK,hix',hj];have h1:((((j+1:Nat):Int))==-1)=false:=beq_eq_false_iff_ne.2 z7;have h2:(((j:Nat):Int)==-1)=false:=beq_eq_false_iff_ne.2 z7;simp only[h1,h2];simp
theorem zZ (c:UInt8) (s:ByteArray):(splitB ⟨#[c]⟩ 0 (countB s ⟨#[c]⟩) s).map (·.data.toList)=eJ c s.data.toList:=by
 rw[splitB_data,←nV]
theorem vn (c:UInt8):∀s:List UInt8,(eJ c s).length≤s.length+1
 | []=>by simp[eJ]
 | x::r=>by
  have:=vn c r;unfold eJ;split
  ·simp;omega
  ·simp;omega
theorem pG (c:UInt8):∀(s p:List UInt8),p∈eJ c s->p.length≤s.length
 | [],p,h=>by simp[eJ] at h;subst h;simp
 | x::r,p,h=>by
  unfold eJ at h;have ih:=pG c r;split at h
  ·rcases List.mem_cons.1 h with rfl | h
   ·simp
   ·have:=ih p h;simp;omega
  ·rcases List.mem_cons.1 h with rfl | h
   ·have:(eJ c r).headD []∈eJ c r:=by
     have:=Gg c r;rw[←this];simp
    have:=ih _ this;simp only[List.length_cons];omega
   ·have:=ih p (List.mem_of_mem_tail h);simp;omega
end La
namespace La
open Go Go.Eng
def ah (s:List UInt8):List (List UInt8)×Int:=
 if 40<s.length then ([],4) else if s=[47] then ([],0) else if s.head?≠some 47 then ([],2) else
  if (eJ 47 (s.drop 1)).all de then (eJ 47 (s.drop 1),0) else ([],7)
def gR (p:List (List UInt8)×Int):AV:=.tup [.sl (p.1.map eo),.int .i64 p.2]
theorem Gq {P:Program} {f:FuncId} {args:List AV} {H:List (Nat×Blk)} {Y:AV} (h:ag P f args H λr _=>Eng.nrm r=Y):ag P f args H λr _=>r=Y:=by
 intro R0 μ w0 vs hl ha hH hR;refine (h R0 μ w0 vs hl ha hH hR).mono ?_;rintro e' w' ⟨v,r,H',μ',S',rfl,rfl,h4,h5⟩;exact ⟨v,_,H',μ',S',rfl,rfl,h4.nrm,h5⟩
theorem Eh (l:List (List UInt8)):Eng.kV (l.map eo)=l.map eo:=by
 rw[eN,Wn];exact Wo λx _=>rfl
end La
namespace Go.Eng
section
variable {P:Program} {T:Tab} {C:Ctx} {σ σ':St} {μ:Nat->Option Nat} {S:Nat->Prop} {a:Act} {w:World} {Ret:St->Prop} {k:List It}
def mv1 (p q:Nat):AV->AV
 | .osl id s o l=>if id=p then .osl q s o l else .osl id s o l
 | .ptr id s r o=>if id=p then .ptr q s r o else .ptr id s r o
 | x=>kill p x
theorem xO (p q:Nat) {e s:Nat} {rows:List (List AV)} {H':List (Nat×Blk)} {l':List AV} (hb:ae σ.hp p=some (.cells e s rows):=by simp only[go_sem];exact rfl) (hq:ae σ.hp q=none:=by simp only[go_sem];try exact rfl) (hr:aN (.cells e s rows)=[]:=by simp only[go_sem];try exact rfl)
  (hH:j_ σ.hp p=H':=by simp only[go_sem,j_];exact rfl) (hf:(H'.all λx=>!(aN x.2).contains p)=true:=by simp only[go_sem];try exact rfl) (ht:σ.tm.map (mv1 p q)=l':=by simp only[go_sem,mv1,kill];exact rfl):Le C σ ⟨l',(q,.cells e s rows)::H'⟩:=by
 subst hH ht;intro a w ⟨μ,S,hi⟩;have hne:p≠q:=λh=>by subst h;rw[hb] at hq;cases hq
 have hmq:μ q=none:=by
  cases h:μ q with
  | none=>rfl
  | some g=>obtain ⟨⟨b,h1⟩,_⟩:=hi.dom q g h;rw[hq] at h1;cases h1
 let ν:Nat->Option Nat:=λi=>if i=q then μ p else if i=p then none else μ i
 have hνq:ν q=μ p:=by simp[ν]
 have hν:∀i,i≠p->i≠q->ν i=μ i:=λi h1 h2=>by simp[ν,h1,h2]
 have hm:∀i,i≠p->∀g,μ i=some g->ν i=some g:=λi h g hg=>by
  rw[hν i h (λe=>by subst e;rw[hmq] at hg;cases hg)];exact hg
 have hv:∀i g,ν i=some g->(i=q/\μ p=some g)\/(i≠p/\i≠q/\μ i=some g):=λi g h=>by
  simp only[ν] at h;split at h
  ·exact .inl ⟨by assumption,h⟩
  ·split at h
   ·cases h
   ·exact .inr ⟨by assumption,by assumption,h⟩
 have hkill:∀{v:Value} {y:AV},Rd μ S w v y->Rd ν S w v (kill p y):=fun {v y} h=>by
  unfold kill;split
  ·exact .any v
  ·rename_i hc;exact h.less λid hid g hg=>hm id (λe=>by subst e;exact hc (by simpa using hid)) g hg
 refine ⟨ν,S,by simpa using hi.size,hi.defers,λt x hx=>?_,λid b hb'=>?_,λid g hg=>?_,λi j g h1 h2=>?_,hi.frm,hi.sb⟩
 ·simp only[Z5] at hx;obtain ⟨y,hy,rfl⟩:=WN.1 hx;have h:=hi.tm t y hy;cases y with
  | osl id s' o n=>
   simp only[mv1];split
   ·rename_i e;subst e;obtain ⟨A,cap,e1,hc,hor⟩:=h.cF;rw[e1];refine .osl q s' o n cap A hc ?_
    rcases hor with h | ⟨g,e2,m,k1,k2,k3,k4⟩
    ·exact .inl h
    ·exact .inr ⟨g,e2,m,hνq.trans k1,k2,k3,k4⟩
   ·rename_i e;exact h.less λi hid g hg=>hm i (λe'=>by simp only[refs,List.mem_singleton] at hid;exact e (hid.symm.trans e')) g hg
  | ptr id s' r o=>
   simp only[mv1];split
   ·rename_i e;subst e;obtain ⟨g,k1,e1⟩:=h.kM;rw[e1];exact .ptr q s' r o g (hνq.trans k1)
   ·rename_i e;exact h.less λi hid g hg=>hm i (λe'=>by simp only[refs,List.mem_singleton] at hid;exact e (hid.symm.trans e')) g hg
  | _=>exact hkill h
 ·simp only[ae] at hb';split at hb'
  ·rename_i e';injection hb' with hb'
   subst e' hb';have hk:=hi.hp p _ hb
   rcases hk with ⟨k1,k2⟩ | ⟨g,c,k1,k2,k3,k4,k5⟩
   ·exact .inl ⟨k1,hνq.trans k2⟩
   ·refine .inr ⟨g,c,hνq.trans k1,k2,k3,k4,λi row hi' j x hx=>(k5 i row hi' j x hx).less λid hid g' hg'=>?_⟩;have:id∈aN (.cells e s rows):=List.mem_flatMap.2 ⟨row,Z6 hi',br hx hid⟩;rw[hr] at this;cases this
  ·rename_i hq';have hb2:=hb';rw[du] at hb';split at hb'
   ·cases hb'
   ·rename_i hp';refine (hi.hp id b hb').less (hν id (λe=>hp' e.symm) (λe=>hq' e.symm)) λi hid g hg=>hm i (λe=>?_) g hg
    subst e;have:=List.all_eq_true.1 hf _ (bJ hb2);simp at this;exact this hid
 ·rcases hv id g hg with ⟨rfl,h⟩ | ⟨h1,h2,h⟩
  ·exact ⟨⟨_,by simp only[ae,if_true];rfl⟩,(hi.dom p g h).2⟩
  ·obtain ⟨⟨b,hb1⟩,h3⟩:=hi.dom id g h;exact ⟨⟨b,by simp only[ae,if_neg (λe:q=id=>h2 e.symm),du,if_neg (λe:p=id=>h1 e.symm)];exact hb1⟩,h3⟩
 ·rcases hv i g h1 with ⟨rfl,k⟩ | ⟨k1,k2,k⟩<;>rcases hv j g h2 with ⟨rfl,m⟩ | ⟨m1,m2,m⟩
  ·rfl
  ·exact absurd (hi.inj p j g k m) (λe=>m1 e.symm)
  ·exact absurd (hi.inj i p g k m) k1
  ·exact hi.inj i j g k m
end
end Go.Eng
namespace Go.Eng
section
variable {P:Program} {T:Tab} {C:Ctx} {σ σ':St} {μ:Nat->Option Nat} {S:Nat->Prop} {a:Act} {w:World} {Ret:St->Prop} {k:List It}
end
end Go.Eng
namespace Go.Eng
section
variable {P:Program} {C:Ctx} {σ:St}
def pY:AV->AV
 | .nils=>.sl [] | .any=>.any | .int k n=>.int k n | .bool b=>.bool b | .str s=>.str s | .nilp=>.nilp | .nili=>.nili | .ifc=>.ifc | .nilm=>.nilm | .sl r=>.sl r | .rp c o=>.rp c o | .rm m=>.rm m | .fn f c=>.fn f c
 | .agg c=>.agg (c.map λ| .nils=>.sl [] | x=>x) | .tup v=>.tup v | .ptr a b c d=>.ptr a b c d | .osl a b c d=>.osl a b c d | .mp i=>.mp i | .exs a b c d e=>.exs a b c d e | .cnd c v=>.cnd c v
theorem Ep {μ:Nat->Option Nat} {S:Nat->Prop} {w:World} {v:Value} (h:Rd μ S w v .nils):Rd μ S w v (.sl []):=h.wk (.inr (.inr ⟨rfl,.inl rfl⟩))
theorem Rd.pY {μ:Nat->Option Nat} {S:Nat->Prop} {w:World} {v:Value} {x:AV} (h:Rd μ S w v x):Rd μ S w v (Eng.pY x):=by
 cases x with
 | nils=>exact Ep h
 | agg c=>
  have key:∀{cs:Array Value} {f:AV->AV},(∀j x,c[j]? = some x->Rd μ S w (cs.getD j undef) (f x))->∀j x,(c.map f)[j]? = some x->Rd μ S w (cs.getD j undef) x:=fun {cs f} h j x hx=>by
   rw[Z5] at hx;cases e:c[j]? with
   | none=>rw[e] at hx;cases hx
   | some y=>rw[e] at hx;injection hx with hx;subst hx;exact h j y e
  have one:∀{v:Value} (x:AV),Rd μ S w v x->Rd μ S w v (match x with | .nils=>.sl [] | x=>x):=λx hx=>by
   split
   ·exact Ep hx
   ·exact hx
  cases h with
  | pure h=>
   cases h with
   | agg cs _ hl hr=>exact .agg cs _ (by rw[List.length_map];exact hl) (key λj x hx=>one x (.pure (hr j x hx)))
  | agg cs _ hl hr=>exact .agg cs _ (by rw[List.length_map];exact hl) (key λj x hx=>one x (hr j x hx))
 | _=>exact h
theorem ct (id:Nat) {e s:Nat} {rows rows':List (List AV)} (hb:ae σ.hp id=some (.cells e s rows):=by simp only[go_sem];exact rfl) (hr:rows.map (λrow=>row.map pY)=rows':=by simp only[go_sem,pY];exact rfl):Le C σ ⟨σ.tm,bD σ.hp id (.cells e s rows')⟩:=by
 subst hr;rintro a w ⟨μ,S,hi⟩;refine ⟨μ,S,hi.size,hi.defers,hi.tm,λi b hb'=>?_,λi q hq=>?_,hi.inj,hi.frm,hi.sb⟩
 ·simp only[aF] at hb';split at hb'
  ·rename_i h1;injection hb' with hb'
   subst h1 hb'
   rcases hi.hp id _ hb with ⟨rfl,k2⟩ | ⟨g,c,k1,k2,k3,k4,k5⟩
   ·exact .inl ⟨by simp,k2⟩
   ·refine .inr ⟨g,c,k1,k2,by rw[List.length_map];exact k3,λrow hrow=>?_,λi row hi' q x hx=>?_⟩
    ·obtain ⟨r0,h0,rfl⟩:=Z7.1 hrow;rw[List.length_map];exact k4 r0 h0
    ·rw[Z5] at hi';cases e0:rows[i]? with
     | none=>rw[e0] at hi';cases hi'
     | some r0=>
      rw[e0] at hi';simp only[Option.map_some,Option.some.injEq] at hi';subst hi';rw[Z5] at hx;cases e1:r0[q]? with
      | none=>rw[e1] at hx;cases hx
      | some y=>
       rw[e1] at hx;simp only[Option.map_some,Option.some.injEq] at hx;subst hx;exact (k5 i r0 e0 q y e1).pY
  ·exact hi.hp i b hb'
 ·obtain ⟨⟨b,h1⟩,h2⟩:=hi.dom i q hq;refine ⟨?_,h2⟩;simp only[aF];split
  ·exact ⟨_,rfl⟩
  ·exact ⟨b,h1⟩
theorem rH (t:Nat) {x y:AV} (hx:σ.tm.getD t .any=x) (hy:pY x=y):Le C σ ⟨σ.tm.set t y,σ.hp⟩:=by
 subst hx hy;rintro a w ⟨μ,S,hi⟩;refine ⟨μ,S,by rw[Wp];exact hi.size,hi.defers,λj z hz=>?_,hi.hp,hi.dom,hi.inj,hi.frm,hi.sb⟩;rw[Wl] at hz;split at hz
 ·rename_i e;subst e;split at hz
  ·rename_i hlt;injection hz with hz
   subst hz;rw[Z1,Z2 hlt];exact (hi.tm t _ (Z2 hlt)).pY
  ·cases hz
 ·exact hi.tm j z hz
end
end Go.Eng
namespace Go.Eng
section
variable {P:Program} {T:Tab} {C:Ctx} {σ σ':St}
structure Ef where
 wr:List Loc
 rd:List Loc
 app:St->St
structure EfOK (e:Ef):Prop where
 len:∀s,(e.app s).tm.length=s.tm.length
 frame:∀s x,x∉e.wr->cL s (e.app s) x
 det:∀s s',s'.tm.length=s.tm.length->∀x,x∈e.wr->cL (e.app s) (e.app s') x
def efU (es:List Ef) (i:Nat) (σ:St):St:=(es.take i).foldl (λs e=>e.app s) σ
def Ir (W:Nat->Bool):Nat->Nat
 | 0=>0
 | n+1=>if W n=true then n+1 else Ir W n
def wrB (es:List Ef) (x:Loc) (j:Nat):Bool:=match es[j]? with
 | some e=>decide (x∈e.wr)
 | none=>false
structure Desc2 (σ:St) (es:List Ef) (D:Nat->Bool) (s:St):Prop where
 len:s.tm.length=σ.tm.length
 at_:∀x,cL (efU es (Ir (λj=>D j&&wrB es x j) es.length) σ) s x
structure SegFacts2 (ops:Array Oper) (k:Nat) (es:List Ef):Prop where
 lt:∀i,i<ops.size->∀e,e∈lF ops i->e<i
 late:∀i,i<ops.size->k+es.length≤i->∀s,s<es.length->reach ops ops.size (k+s) i=true
 od:∀(i j:Nat) p q x,es[i]? = some p->es[j]? = some q->x∈q.wr->(x∈p.rd\/x∈p.wr)->i≠j->(j<i/\reach ops ops.size (k+j) (k+i)=true)\/(i<j/\reach ops ops.size (k+i) (k+j)=true)
 size:k+es.length≤ops.size
end
end Go.Eng
namespace Go.Eng
section
variable {P:Program} {T:Tab} {C:Ctx} {σ σ':St}
end
end Go.Eng
namespace Go.Eng
section
variable {P:Program} {T:Tab} {C:Ctx} {σ σ':St} {a:Act} {w:World} {Ret:St->Prop} {k:List It}
def mX:List (List AV)->List (List AV)->Prop
 | [],[]=>True
 | r::l,s::m=>vE r s/\mX l m
 | _,_=>False
theorem qD:∀{l m:List (List AV)},mX l m->l.length=m.length/\∀(t:Nat) y,m[t]? = some y->∃x,l[t]? = some x/\vE x y
 | [],[],_=>⟨rfl,λt y h=>by simp at h⟩
 | x::l,y::m,h=>by
  obtain ⟨h1,h2⟩:=qD h.2;refine ⟨by simp[h1],λt z hz=>?_⟩;cases t with
  | zero=>
   simp only[List.getElem?_cons_zero,Option.some.injEq] at hz;subst hz;exact ⟨x,rfl,h.1⟩
  | succ t=>simpa using h2 t z Qw
 | [],_::_,h=>h.elim
 | _::_,[],h=>h.elim
theorem vG (id:Nat) (rows':List (List AV)) {e s:Nat} {rows:List (List AV)} (hb:ae σ.hp id=some (.cells e s rows)) (hr:mX rows rows'):Le C σ ⟨σ.tm,bD σ.hp id (.cells e s rows')⟩:=by
 obtain ⟨hl,hg⟩:=qD hr;rintro a w ⟨μ,S,hi⟩;refine ⟨μ,S,hi.size,hi.defers,hi.tm,λi b hb'=>?_,λi q hq=>?_,hi.inj,hi.frm,hi.sb⟩
 ·simp only[aF] at hb';split at hb'
  ·rename_i h1;injection hb' with hb'
   subst h1 hb'
   rcases hi.hp id _ hb with ⟨rfl,k2⟩ | ⟨g,c,k1,k2,k3,k4,k5⟩
   ·exact .inl ⟨List.length_eq_zero_iff.1 hl.symm,k2⟩
   ·refine .inr ⟨g,c,k1,k2,by rw[←hl];exact k3,λrow hrow=>?_,λi row hi' q x hx=>?_⟩
    ·obtain ⟨i,hi'⟩:=Z9 hrow;obtain ⟨r0,h0,h1⟩:=hg i row hi';rw[←(oH h1).1];exact k4 r0 (Z6 h0)
    ·obtain ⟨r0,h0,h1⟩:=hg i row hi';obtain ⟨y,hy,hw⟩:=(oH h1).2 q x hx;exact (k5 i r0 h0 q y hy).wk hw
  ·exact hi.hp i b hb'
 ·obtain ⟨⟨b,h1⟩,h2⟩:=hi.dom i q hq;refine ⟨?_,h2⟩;simp only[aF];split
  ·exact ⟨_,rfl⟩
  ·exact ⟨b,h1⟩
theorem Jb (p q c:Nat) {e s e2 s2:Nat} {rows rows2 rows3:List (List AV)} {H1 H2:List (Nat×Blk)} {l':List AV} (hb:ae σ.hp p=some (.cells e s rows)) (hq:ae σ.hp q=none) (hr:aN (.cells e s rows)=[])
  (hcb:ae σ.hp c=some (.cells e2 s2 rows2)) (hH1:j_ σ.hp p=H1) (hH:j_ H1 c=H2) (hcp:(c==p)=false) (hf:(H2.all λx=>!(aN x.2).contains p)=true) (hr3:rows2.map (λrow=>row.map (mv1 p q))=rows3) (ht:σ.tm.map (mv1 p q)=l') :
  Le C σ ⟨l',(q,.cells e s rows)::(c,.cells e2 s2 rows3)::H2⟩:=by
 subst hH hH1 ht hr3;intro a w ⟨μ,S,hi⟩;have hcp:c≠p:=by simpa using hcp
 have hne:p≠q:=λh=>by subst h;rw[hb] at hq;cases hq
 have hcq:c≠q:=λh=>by subst h;rw[hcb] at hq;cases hq
 have hmq:μ q=none:=by
  cases h:μ q with
  | none=>rfl
  | some g=>obtain ⟨⟨b,h1⟩,_⟩:=hi.dom q g h;rw[hq] at h1;cases h1
 let ν:Nat->Option Nat:=λi=>if i=q then μ p else if i=p then none else μ i
 have hνq:ν q=μ p:=by simp[ν]
 have hν:∀i,i≠p->i≠q->ν i=μ i:=λi h1 h2=>by simp[ν,h1,h2]
 have hm:∀i,i≠p->∀g,μ i=some g->ν i=some g:=λi h g hg=>by
  rw[hν i h (λe=>by subst e;rw[hmq] at hg;cases hg)];exact hg
 have hv:∀i g,ν i=some g->(i=q/\μ p=some g)\/(i≠p/\i≠q/\μ i=some g):=λi g h=>by
  simp only[ν] at h;split at h
  ·exact .inl ⟨by assumption,h⟩
  ·split at h
   ·cases h
   ·exact .inr ⟨by assumption,by assumption,h⟩
 have hkill:∀{v:Value} {y:AV},Rd μ S w v y->Rd ν S w v (kill p y):=fun {v y} h=>by
  unfold kill;split
  ·exact .any v
  ·rename_i hc;exact h.less λid hid g hg=>hm id (λe=>by subst e;exact hc (by simpa using hid)) g hg
 have hmv:∀{v:Value} {y:AV},Rd μ S w v y->Rd ν S w v (mv1 p q y):=fun {v y} h=>by
  cases y with
  | osl id s' o n=>
   simp only[mv1];split
   ·rename_i e;subst e;obtain ⟨A,cap,e1,hc,hor⟩:=h.cF;rw[e1];refine .osl q s' o n cap A hc ?_
    rcases hor with h | ⟨g,e2,m,k1,k2,k3,k4⟩
    ·exact .inl h
    ·exact .inr ⟨g,e2,m,hνq.trans k1,k2,k3,k4⟩
   ·rename_i e;exact h.less λi hid g hg=>hm i (λe'=>by simp only[refs,List.mem_singleton] at hid;exact e (hid.symm.trans e')) g hg
  | ptr id s' r o=>
   simp only[mv1];split
   ·rename_i e;subst e;obtain ⟨g,k1,e1⟩:=h.kM;rw[e1];exact .ptr q s' r o g (hνq.trans k1)
   ·rename_i e;exact h.less λi hid g hg=>hm i (λe'=>by simp only[refs,List.mem_singleton] at hid;exact e (hid.symm.trans e')) g hg
  | _=>exact hkill h
 refine ⟨ν,S,by simpa using hi.size,hi.defers,λt x hx=>?_,λid b hb'=>?_,λid g hg=>?_,λi j g h1 h2=>?_,hi.frm,hi.sb⟩
 ·simp only[Z5] at hx;obtain ⟨y,hy,rfl⟩:=WN.1 hx;exact hmv (hi.tm t y hy)
 ·simp only[ae] at hb';split at hb'
  ·rename_i e';injection hb' with hb'
   subst e' hb';have hk:=hi.hp p _ hb
   rcases hk with ⟨k1,k2⟩ | ⟨g,c,k1,k2,k3,k4,k5⟩
   ·exact .inl ⟨k1,hνq.trans k2⟩
   ·refine .inr ⟨g,c,hνq.trans k1,k2,k3,k4,λi row hi' j x hx=>(k5 i row hi' j x hx).less λid hid g' hg'=>?_⟩;have:id∈aN (.cells e s rows):=List.mem_flatMap.2 ⟨row,Z6 hi',br hx hid⟩;rw[hr] at this;cases this
  ·rename_i hq';split at hb'
   ·rename_i e';injection hb' with hb'
    subst e' hb'
    rcases hi.hp c _ hcb with ⟨k1,k2⟩ | ⟨g,cp,k1,k2,k3,k4,k5⟩
    ·exact .inl ⟨by rw[k1];rfl,(hν c hcp hcq).trans k2⟩
    ·refine .inr ⟨g,cp,(hν c hcp hcq).trans k1,k2,by rw[List.length_map];exact k3,λrow hrow=>?_,λi row hi' j x hx=>?_⟩
     ·obtain ⟨r0,h0,rfl⟩:=Z7.1 hrow;rw[List.length_map];exact k4 r0 h0
     ·rw[Z5] at hi';obtain ⟨r0,h0,rfl⟩:=WN.1 hi';rw[Z5] at hx;obtain ⟨y,hy,rfl⟩:=WN.1 hx;exact hmv (k5 i r0 h0 j y hy)
   ·rename_i hc';have hb2:=hb';rw[du,du] at hb';split at hb'
    ·cases hb'
    ·split at hb'
     ·cases hb'
     ·rename_i hp';refine (hi.hp id b hb').less (hν id (λe=>hp' e.symm) (λe=>hq' e.symm)) λi hid g hg=>hm i (λe=>?_) g hg
      subst e;have:=List.all_eq_true.1 hf _ (bJ hb2);simp at this;exact this hid
 ·rcases hv id g hg with ⟨rfl,h⟩ | ⟨h1,h2,h⟩
  ·exact ⟨⟨_,by simp only[ae,if_true];rfl⟩,(hi.dom p g h).2⟩
  ·obtain ⟨⟨b,hb1⟩,h3⟩:=hi.dom id g h;refine ⟨?_,h3⟩;simp only[ae,if_neg (λe:q=id=>h2 e.symm),du];split
   ·exact ⟨_,rfl⟩
   ·rw[if_neg (λe:p=id=>h1 e.symm)];exact ⟨b,hb1⟩
 ·rcases hv i g h1 with ⟨rfl,k⟩ | ⟨k1,k2,k⟩<;>rcases hv j g h2 with ⟨rfl,m⟩ | ⟨m1,m2,m⟩
  ·rfl
  ·exact absurd (hi.inj p j g k m) (λe=>m1 e.symm)
  ·exact absurd (hi.inj i p g k m) k1
  ·exact hi.inj i j g k m
end
end Go.Eng
namespace Go.Eng
section
variable {P:Program} {T:Tab} {C:Ctx} {μ:Nat->Option Nat} {S:Nat->Prop} {σ σ':St} {a:Act} {w:World} {Ret:St->Prop} {k:List It}
theorem Inv.JZ (hi:Inv C μ S σ a w) (o:Obj):Inv C μ (λb=>S b\/b=w.heap.size) σ a (w.alloc o):=by
 have hw:aQ S w (w.alloc o):=λb hb=>bN w o b (hi.sb b hb).1
 have hz:∀i g,μ i=some g->ak (w.alloc o) g=ak w g:=λi g h=>a_ (bN w o g (hi.dom i g h).2.2.2)
 refine ⟨hi.size,hi.defers,λt x hx=>(hi.tm t x hx).mono hw (λ_ h=>.inl h) (λ_ _ h=>h) hz,λi c hc=>(hi.hp i c hc).mono hw (λ_ h=>.inl h) (λ_ _ h=>h) hz (λh=>h) (λg h=>bN w o g (hi.dom i g h).2.2.2),λi g hg=>?_,hi.inj,?_,λb hb=>?_⟩
 ·obtain ⟨h1,h2,h3,h4⟩:=hi.dom i g hg;exact ⟨h1,h2,λh=>h.elim h3 (λe=>by omega),by simp;omega⟩
 ·exact ⟨hi.frm.os,hi.frm.tape,hi.frm.output,by simp;have:=hi.frm.size;omega,λb hb hA=>by
   rw[bN w o b (WY hb hi.frm.size)];exact hi.frm.block b hb hA⟩
 ·rcases hb with hb | rfl
  ·exact ⟨by simp;have:=(hi.sb b hb).1;omega,(hi.sb b hb).2⟩
  ·exact ⟨by simp,.inr (.inr hi.frm.size)⟩
theorem tX (hT:TabOK P T) {o:Oper} {s t e:TypeId} {x:Operand} (ho:o.op=.convert s t x) (hs:T.und s=.str) (ht:T.und t=.sl e) (he:T.und e=.int .u8) {l:List UInt8} (hx:evS σ x=(True,.str l)) :
  fe P C o σ (σ.put o.dst (.sl (l.map λb=>[AV.int .u8 (b.toNat:Int)]))):=by
 intro a w K Q ⟨μ,S,hi⟩ hK;have hv:=hi.evS x p7;rw[hx] at hv;obtain ⟨b,e1,hb⟩:∃b:ByteArray,a.eval x=.string b/\b.data.toList=l:=by
  generalize a.eval x=v at hv;cases hv with
  | pure h=>cases h with
   | str s l h=>exact ⟨s,rfl,h⟩
 have hts:P.underlying s=some .string:=by have:=hT.und s;rw[hs] at this;exact this
 have hty:P.underlying t=some (.slice e):=by have:=hT.und t;rw[ht] at this;exact this
 have hte:P.underlying e=some (.int .u8):=by have:=hT.und e;rw[he] at this;exact this
 have hrun:=run_bytes_of_string (P:=P) w s t e b hts hty hte;have hex:(execOp a.eval o).run P w=.ok (.value (.slice (some ⟨w.heap.size,0,none⟩) b.size (grownCap w b.size 0 e)))
   (w.drew.alloc (.cells (bytesRow b (grownCap w b.size 0 e)) e ((bytesRow b (grownCap w b.size 0 e)).size,(bytesRow b (grownCap w b.size 0 e)).size+1))):=by
  simp only[execOp,ho,e1,Sem.run_bind,hrun];rfl
 have hsz:b.size=l.length:=by rw[←hb];rfl
 have hin:=hi.drew.JZ (.cells (bytesRow b (grownCap w b.size 0 e)) e ((bytesRow b (grownCap w b.size 0 e)).size,(bytesRow b (grownCap w b.size 0 e)).size+1));unfold Oper.wp;rw[hex];refine hK _ _ ⟨_,_,hin.put o.dst (.pure ?_)⟩;refine .sl _ _ _ _ 1 w.heap.size 0 (λi j=>.int .u8 ((l.getD i 0).toNat:Int)) (by rw[List.length_map,hsz]) ?_ (λrow hr=>?_) (λ_=>⟨rfl,.inr rfl⟩) (λi j hi' hj=>?_) (λi row hi' j y hy=>?_)
 ·exact grownCap_ge w b.size 0 e
 ·obtain ⟨c,_,rfl⟩:=Z7.1 hr;rfl
 ·have hj0:j=0:=by omega
  subst hj0;have hil:i<b.data.size:=by have:b.size=b.data.size:=rfl;omega
  rw[cell_of (bQ w _)];have h1:(0+(i*1+0))=i:=by omega
  rw[h1];unfold bytesRow;rw[Wj (by rw[Array.size_map];exact hil),Array.getElem?_map,WD hil];simp only[Option.map_some];rw[←hb,Z1];simp[WD hil]
 ·rw[Z5] at hi';cases e3:l[i]? with
  | none=>rw[e3] at hi';cases hi'
  | some c=>
   rw[e3] at hi';simp only[Option.map_some,Option.some.injEq] at hi';subst hi';cases j with
   | zero=>
    simp only[List.getElem?_cons_zero,Option.some.injEq] at hy;subst hy;rw[Z1,e3];exact .int _ _
   | succ j=>simp at hy
end
end Go.Eng
namespace Go.Eng
section
variable {P:Program} {T:Tab} {C:Ctx} {σ σ':St} {a:Act} {w:World} {Ret:St->Prop} {k:List It}
def xh (r:Nat) (o:Oper) (ops:Array Oper):Bool:=
 (o.after.all λe=>!Region.binds .any e)&&(List.range ops.size).all λj=>j==r||(match ops[j]? with | some oj=>(oj.after.any λe=>Region.binds .any e&&e.on==r)||o.apart ops oj | none=>true)
theorem qq (r:Nat) (p q:List Nat) {ops ops':Array Oper} {Q:Exit->Act->World->Prop} {o:Oper} {x:Operand} (ho:ops[r]? = some o) (hop:o.op=.move x) (hg:o.guard=none)
  (hQ:∀c a w,¬Q (.panic c) a w) (h1:Es r p q ops=true) (h2:xh r o ops=true) (he:(fj r p q ops.toList).toArray=ops') {y:AV} (hx:evS σ x=(True,y))
  (hk:cw P C ops' Q 0 (σ.put o.dst y)):cw P C ops Q 0 σ:=by
 subst he;have hF:=B_ h1;have hrl:=hF.rl;have hpl:=hF.pl;intro a w ⟨μ,S,hi⟩;have hv:=hi.evS x p7;rw[hx] at hv;obtain ⟨u,hr,hu⟩:∃u,Rd μ S w u y/\u=a.eval x:=⟨_,hv,rfl⟩;have hrel:Rel C (σ.put o.dst y) (a.put o.dst u) w:=⟨μ,S,hi.put o.dst hr⟩;have hk':=hk _ _ hrel;have hs:(fj r p q ops.toList).toArray.size+1=ops.size:=by simp[fj,hpl]
 obtain ⟨n,hn⟩:∃n,ops.size=n+1:=⟨ops.size-1,by omega⟩;have hsz:(fj r p q ops.toList).toArray.size=n:=by omega
 unfold xh at h2;rw[Bool.and_eq_true] at h2;have hd0:∀(m i:Nat) (d:Bool),(cy m 0).getD i d=if i<m then false else d:=λm i d=>by rw[iS];simp
 rw[hn,Nat.sub_zero];refine wpAny_first (v:=u) ho hF.sel (λc a w hc=>absurd hc (hQ c _ _)) n _ a w (λk oj hoj hkr _ hw=>?_) (mem_ready.2 ⟨?_,o,ho,λe he hb=>by have:=Array.all_eq_true'.1 h2.1 e he;rw[hb] at this;cases this⟩) (.inl ⟨by rw[Region.wanted,hg],λw'=>?_⟩) ?_
 ·have:=List.all_eq_true.1 h2.2 k (Wv.2 (Wc.1 hoj).1);rw[hoj] at this;simp only[Bool.or_eq_true,beq_iff_eq,Array.any_eq_true',Bool.and_eq_true] at this
  rcases this with h | ⟨e,he,hb,hon⟩ | h
  ·exact absurd h hkr
  ·exact absurd hon (hw e he hb)
  ·exact h
 ·rw[←hn,hd0,if_pos hrl]
 ·subst hu;simp[execOp,hop]
 ·rw[hsz,Nat.sub_zero] at hk';refine G7 hF n _ _ _ _ (by simp[cy,hn]) (by simp[cy,hn]) ?_ (λi hi=>?_) hk'
  ·rw[Z3,Array.getElem?_setIfInBounds,if_pos rfl,if_pos (by simp[cy];omega)];rfl
  ·have e2:((cy (n+1) 0).setIfInBounds r true).getD i false=(cy (n+1) 0).getD i false:=by
    rw[Z3,Array.getElem?_setIfInBounds,if_neg (λe=>hi e.symm),←Z3]
   rw[e2,hd0,hd0];split<;>split<;>rfl
end
end Go.Eng
namespace Go.Eng
variable {P:Program} {C:Ctx} {Ret:St->Prop} {k:List It}
theorem ot {ι:Type} (J:ι->Prop) (f:ι->List (Nat×AV)) (g:ι->List (Nat×Blk)) {x y:Code} {l:List AV} {H:List (Nat×Blk)}
  (h:Cw P C Ret (.code x::.back (λs=>∃j,J j/\Le C s ⟨mC l (f j),cN H (g j)⟩)::k) ⟨l,H⟩)
  (hk:∀j,J j->Cw P C Ret (.code y::k) ⟨mC l (f j),cN H (g j)⟩):Cw P C Ret (.code x::.code y::k) ⟨l,H⟩:=by
 intro a w hr;refine wp_mono (h a w hr) λe a w q=>?_
 cases e with
 | normal=>
  obtain ⟨s,⟨j,hj,hle⟩,hrs⟩:=q;exact hk j hj a w (hle a w hrs)
 | ret=>exact q
 | exit id=>exact q
 | _=>exact q
end Go.Eng
