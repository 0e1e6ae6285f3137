/- Texts of this claim, part 13: Find, Put, PEnt, ModK, Ent, OwnH, Nam, PLog, Logs, Nrm, EngAM. No condition. -/
import Derived.Test.YtmcfbfdonjllaaaGreatDoorZP12
set_option maxRecDepth 10000
set_option maxHeartbeats 4000000
set_option linter.unusedSimpArgs false
set_option linter.unusedVariables false
namespace La
open Go Go.Eng Go.Proofs Go.Proofs.Tryz
def aw:Node:=⟨0,false,[],[],0⟩
def fS (l:List Node) (f:Int):AV:=.tup [.agg (ZN ((ak l f).getD aw)),.bool (bf l f)]
theorem yZ {l:List Node} {k:Int} (h:bf l k=true):ak l k=some (l.getD (placeOf l k) default):=by unfold ak;rw[if_pos h]
theorem tH {l:List Node} {k:Int} (h:bf l k=false):ak l k=none:=by unfold ak;rw[if_neg WC]
@[go_sem,simp] theorem Li (l:List Node) (f:Int):refs (fS l f)=[]:=by unfold fS;simp[refs,aA]
theorem cK (l:List Node) (k:Int):bf l k=(ak l k).isSome:=by
 cases h:bf l k
 ·rw[tH h];rfl
 ·rw[yZ h];rfl
theorem qo {l:List Node} {k:Int} {n:Node} (h:ak l k=some n):n∈l:=by
 unfold ak at h;split at h
 ·rename_i hc;injection h with h
  subst h;unfold bf at hc;rw[Bool.and_eq_true] at hc;exact YG (of_decide_eq_true hc.1)
 ·cases h
theorem Small.find {l:List Node} (h:Small l) (k:Int):((ak l k).getD aw).Small:=by
 cases e:ak l k with
 | none=>exact ⟨by simp[aw],by simp[aw]⟩
 | some n=>exact h.each n (qo e)
theorem rM (n:Node):fo (ZN n)=ZN n:=by
 have h1:iZ (n.data.map ZY)=n.data.map ZY:=by rw[dO,Yi];rfl
 have h2:iZ (n.entries.map ZE)=n.entries.map ZE:=by rw[dO,Yi];rfl
 simp only[ZN,fo,nrm,h1,h2]
theorem FI (l:List Node) (f:Int) (hl:Small l):Fo 82 [.sl (l.map ZN),.int .i64 f] (.tup [.agg (if bf l f=true then ZN (l.getD (placeOf l f) default) else [.int .i64 0,.bool false,.nils,.nils,.int .i64 0]),.bool (bf l f)]):=by
 refine wSG func82 ntmps82 results82 λC=>?_
 refine wCg ?_ func120 (hf:=AU l f hl.len);have hple:=lN l f;have hlen:=hl.len;refine wD (λh=>?_) (λh=>?_)
 ·have hat:bf l f=false:=by simpa using h
  refine wGT ?_;simp[hat]
 ·have hat:bf l f=true:=by simpa using h
  have hpl:placeOf l f<l.length:=by
   unfold bf at hat;rw[Bool.and_eq_true] at hat;exact of_decide_eq_true hat.1
  have hn:=YG hpl;have hd:(l.take (placeOf l f+1)).drop (placeOf l f)=[l.getD (placeOf l f) default]:=by rw[List.drop_take,ck hpl,Yp];rfl
  have hw:IntKind.i64.wrap ((placeOf l f:Int)+1)=((placeOf l f+1:Nat):Int):=by rw[Eng.wrap_small z8 z8];omega
  generalize l.getD (placeOf l f) default=n at hn hd;refine wGq ?_ ?_ w4
  ·simp;exact ⟨by omega,by omega,λ_ _=>rfl⟩
  simp only[go_sem,<-List.map_take,<-List.map_drop,hd];refine wC ?_ func66 (hf:=lI [n] ⟨by simp,λx hx=>by rw[List.mem_singleton.1 hx];exact hl.each n hn⟩);refine wGq ?_ ?_ w5
  ·simp[go_sem,ZN]
  refine lk ⟨_,_,by simp only[go_sem,ZN];try exact rfl,by simp[go_sem],_,.inr (.inl rfl),?_⟩;simp[hat,ZN]
theorem dD (l:List Node) (f:Int) (hl:Small l):Fo 82 [.sl (l.map ZN),.int .i64 f] (fS l f):=by
 refine ai.iZ (FI l f hl) ?_;unfold fS;cases h:bf l f
 ·rw[tH h];rfl
 ·rw[yZ h];simp only[if_true,nrm,fo,rM,Option.getD_some]
theorem rR (l:List Node) (n:Node):(aJ l n).length<=l.length+1:=by
 unfold aJ;split
 ·simp
 ·have:=lN l n.fid;simp;omega
theorem C6 {rows:List (List AV)} (h:∀id,(rows.all λrow=>row.all λx=>!(refs x).contains id)=true):∀row,row∈rows->∀x,x∈row->refs x=[]:=λrow hr x hx=>by
 refine List.eq_nil_iff_forall_not_mem.2 λid hid=>?_
 have:=List.all_eq_true.1 (List.all_eq_true.1 (h id) row hr) x hx;rw[Yo,List.contains_eq_mem,decide_eq_false_iff_not] at this;exact this hid
theorem zo {L:List (List AV)} {i:Nat} {z:List AV} (h:∀id,(L.all λrow=>row.all λx=>!(refs x).contains id)=true) (hz:∀x,x∈z->refs x=[]):∀row,row∈L.take i++z::L.drop i->∀x,x∈row->refs x=[]:=λrow hr x hx=>by
 rcases List.mem_append.1 hr with h1 | h1
 ·exact C6 h row (YJ h1) x hx
 ·rcases List.mem_cons.1 h1 with rfl | h1
  ·exact hz x hx
  ·exact C6 h row (Yb h1) x hx
theorem pD (l:List Node):(l.map ZN).map (λrow=>row.map Aa)=l.map ZN:=by
 rw[Yi];rfl
theorem nX (l:List Entry):(l.map ZE).map (λrow=>row.map Aa)=l.map ZE:=by
 rw[Yi];rfl
theorem xS (l:List Node) (i:Nat) (hi:i<=l.length) (hlen:l.length<=100000000) :
  ai prog 229 [.osl 1000 5 0 l.length,.int .i64 i,.osl 22 5 0 1] [(22,.cells 94 5 [[.int .i64 0,.bool false,.nils,.nils,.int .i64 0]]),(1000,.cells 94 5 (l.map ZN))]
   (λr H=>r=.osl 7 5 0 (l.length+1)/\∀i' b,aa [(7,.cells 94 5 ((l.take i++aw::l.drop i).map ZN))] i'=some b->aa H i'=some b):=by
 have hL:(l.map ZN).length=l.length:=List.length_map ..;have:=ai.KS (rows':=(l.take i++aw::l.drop i).map ZN) 7 (Ab (l.map ZN) i z8 z8 (ud l) (xR l) (λid=>ob id l)) (by
  rw[List.map_append,List.map_cons,List.map_append,List.map_cons,<-List.map_take,<-List.map_drop,pD,pD];rfl) (zo (λid=>ob id l) x7)
 rw[hL] at this;exact this
theorem rL (M:List Node) (i:Nat) (n:Node):(M.map ZN).set i (ZN n)=(M.set i n).map ZN:=by rw[List.map_set]
theorem uc {M:List Node} {i:Nat} (h:i<M.length):(M.map ZN).getD i []=[.int .i64 (M.getD i default).fid,.bool (M.getD i default).dir,.sl ((M.getD i default).data.map ZY),.sl ((M.getD i default).entries.map ZE),.int .i64 (M.getD i default).version]:=by
 rw[Fam.getD h];rfl
theorem Lw (l:List Node) (n:Node) (hl:Small l) (hn:n.Small):Fo 207 [.sl (l.map ZN),.agg (ZN n)] (.sl ((aJ l n).map ZN)):=by
 have hlen:=hl.len;refine wS func207 ntmps207 results207 λC=>?_
 refine wGq ?_ ?_ w5
 ·simp
 refine ZZ 3 rfl (rfl) (wn ?_);refine wCG ?_ [] 977 func66 (hf:=sK l hl);refine wG ?_;refine wV ?_ func120 (hf:=AU l n.fid hlen);refine wG ?_;have hple:=lN l n.fid;refine wD (λh=>?_) (λh=>?_)
 ·have hat:bf l n.fid=false:=by simpa using h
  refine wG ?_;refine wCG ?_ [1000,22] 200 func229 (hf:=xS l (placeOf l n.fid) hple hlen);have hM:(l.take (placeOf l n.fid)++aw::l.drop (placeOf l n.fid)).length=l.length+1:=by simp;omega
  have hS:(l.take (placeOf l n.fid)++aw::l.drop (placeOf l n.fid)).set (placeOf l n.fid) n=aJ l n:=by
   unfold aJ;rw[hat,if_neg w8,List.set_append_right _ _ QG,YF,Yu hple,Yq];rfl
  have hpl:placeOf l n.fid<l.length+1:=by omega
  generalize l.take (placeOf l n.fid)++aw::l.drop (placeOf l n.fid)=M at *;have hlt:placeOf l n.fid<(M).length:=by omega
  have hg:=uc hlt;have hq:((M).map ZN).set (placeOf l n.fid) [.int .i64 n.fid,.bool n.dir,.sl (n.data.map ZY),.sl (n.entries.map ZE),.int .i64 n.version]=(aJ l n).map ZN:=by
   rw[<-hS,<-rL];rfl
  refine wGq ?_ ?_ w5
  ·simp[ZN]
  refine ZZ 27 rfl (rfl) (wn ?_);refine wC ?_ func66 (hf:=lI [n] ⟨by simp,λx hx=>by rw[List.mem_singleton.1 hx];exact hn⟩);refine wR ?_;refine wN 2 ?_ z6 z6 w5 QT;refine wNq 1 ?_ ?_ z6 z6 w5
  ·simp[ZN,hpl,hM]
  refine wNq 1 ?_ ?_ z6 z6 w5
  ·exact ⟨by simp,hlt⟩
  simp only[go_sem,hg,hq];refine wG ?_;refine ZZ 207 rfl (fm _) (wn ?_);refine wT ?_;rw[if_pos (by rw[<-hS,YR];omega),W4 WL]
 ·have hat:bf l n.fid=true:=by simpa using h
  have hpl:placeOf l n.fid<l.length:=by
   unfold bf at hat;rw[Bool.and_eq_true] at hat;exact of_decide_eq_true hat.1
  have hS:l.set (placeOf l n.fid) n=aJ l n:=by
   unfold aJ;rw[hat,if_pos rfl]
  have hlt:placeOf l n.fid<(l).length:=by omega
  have hg:=uc hlt;have hq:((l).map ZN).set (placeOf l n.fid) [.int .i64 n.fid,.bool n.dir,.sl (n.data.map ZY),.sl (n.entries.map ZE),.int .i64 n.version]=(aJ l n).map ZN:=by
   rw[<-hS,<-rL];rfl
  refine wGq ?_ ?_ w5
  ·simp[ZN]
  refine ZZ 27 rfl (rfl) (wn ?_);refine wC ?_ func66 (hf:=lI [n] ⟨by simp,λx hx=>by rw[List.mem_singleton.1 hx];exact hn⟩);refine wR ?_;refine wN 2 ?_ z6 z6 w5 QT;refine wNq 1 ?_ ?_ z6 z6 w5
  ·simp[ZN,hpl,hple]
  refine wNq 1 ?_ ?_ z6 z6 w5
  ·exact ⟨by simp,hlt⟩
  simp only[go_sem,hg,hq];refine wG ?_;refine ZZ 1000 rfl (fm _) (wn ?_);refine wT ?_;rw[if_pos (by rw[<-hS,YR];omega),W4 WL]
end La
namespace La
open Go
theorem eR:∀(a b:List UInt8),Op.bytesLess a b=decide (a<b)
 | [],[]=>by simp[Op.bytesLess]
 | [],_::_=>by simp[Op.bytesLess]
 | _::_,[]=>by simp[Op.bytesLess]
 | p::a,q::b=>by
  unfold Op.bytesLess;rw[eR a b,Yv];simp only[Bool.or_eq_true,decide_eq_true_eq,Bool.and_eq_true,beq_iff_eq,List.cons_lt_cons_iff]
theorem sj (a:List UInt8):¬a<a:=List.lt_irrefl a
theorem uG {a b c:List UInt8} (h:a<b) (k:b<c):a<c:=List.lt_trans h k
theorem JD {a b:List UInt8} (h:¬a<b) (k:¬b<a):a=b:=List.le_antisymm (List.not_lt.1 k) (List.not_lt.1 h)
def yN (l:List Entry) (s:List UInt8) (i:Nat):Bool:=decide ((l.getD i default).name<s)
def aM (l:List Entry) (s:List UInt8):Nat:=bsearch (yN l s) l.length 0 l.length
def isE (l:List Entry) (s:List UInt8):Bool:=decide (aM l s<l.length)&&decide ((l.getD (aM l s) default).name=s)
def ba (n:Node) (s:List UInt8):Option Int:=if isE n.entries s then some (n.entries.getD (aM n.entries s) default).fid else none
def bD (l:List Entry) (s:List UInt8) (f:Int):List Entry:=if isE l s then l.set (aM l s) ⟨s,f⟩ else l.take (aM l s)++⟨s,f⟩::l.drop (aM l s)
def dp (l:List Entry) (s:List UInt8):List Entry:=l.filter λe=>!(e.name==s)
def aB (n:Node) (s:List UInt8) (f:Int):Node:={ n with entries:=bD n.entries s f }
def aE (n:Node) (s:List UInt8):Node:={ n with entries:=dp n.entries s }
theorem qk (l:List Entry) (s:List UInt8):aM l s<=l.length:=(lf _ _ _ _ (Ys _)).2
def EUp (l:List Entry):Prop:=l.Pairwise λa b=>a.name<b.name
theorem EUp.lt {l:List Entry} (h:EUp l) {i j:Nat} (hij:i<j) (hj:j<l.length):(l.getD i default).name<(l.getD j default).name:=by
 have:=Yr.1 h i j z8 hj hij;rw[List.getD_eq_getElem?_getD,List.getD_eq_getElem?_getD,W3 z8,W3 hj];exact this
theorem EUp.place {l:List Entry} (h:EUp l) (s:List UInt8):(∀i,i<aM l s->(l.getD i default).name<s)/\∀i,aM l s<=i->i<l.length->¬(l.getD i default).name<s:=by
 have:=iU (yN l s) l.length (λi j hij hj hl=>by
  rcases Nat.lt_or_eq_of_le hij with h1 | rfl
  ·exact decide_eq_true (uG (h.lt h1 hj) (of_decide_eq_true hl))
  ·exact hl) l.length 0 l.length z8 z8 (YA _) (λi hi=>by omega) (λi h1 h2=>by omega)
 obtain ⟨_,h2,h3⟩:=this;exact ⟨λi hi=>of_decide_eq_true (h2 i hi),λi hi hl=>of_decide_eq_false (h3 i hi hl)⟩
theorem jy {l:List Entry} {x:Entry} {i:Nat} (h:l[i]? = some x):l.getD i default=x:=by rw[List.getD_eq_getElem?_getD,h];rfl
theorem pr {l:List Entry} (h:EUp l) (s:List UInt8):isE l s=true↔∃e,e∈l/\e.name=s:=by
 obtain ⟨p1,p2⟩:=h.place s;unfold isE;rw[Bool.and_eq_true,decide_eq_true_eq,decide_eq_true_eq];constructor
 ·rintro ⟨h1,h2⟩;exact ⟨_,YG h1,h2⟩
 ·rintro ⟨e,he,rfl⟩;obtain ⟨i,hi⟩:=YC he;have hil:i<l.length:=(W9.1 hi).1;have hix:=jy hi;have hpi:aM l e.name=i:=by
   rcases Nat.lt_trichotomy (aM l e.name) i with h1 | h1 | h1
   ·have:=p2 _ (YA _) z8;have h3:=h.lt h1 hil;rw[hix] at h3;exact absurd h3 this
   ·exact h1
   ·have:=p1 i h1;rw[hix] at this;exact absurd this (sj _)
  rw[hpi,hix];exact ⟨hil,rfl⟩
theorem EUp.parts {l:List Entry} (h:EUp l) {s:List UInt8} (hs:isE l s=false):(∀e,e∈l.take (aM l s)->e.name<s)/\∀e,e∈l.drop (aM l s)->s<e.name:=by
 obtain ⟨p1,p2⟩:=h.place s;refine ⟨λe he=>?_,λe he=>?_⟩
 ·obtain ⟨i,hi⟩:=YC he;rw[YW] at hi;split at hi
  ·rename_i hip;have:=p1 i hip
   rwa [jy hi] at this
  ·cases hi
 ·obtain ⟨i,hi⟩:=YC he;rw[List.getElem?_drop] at hi;have h1:=p2 (aM l s+i) z8 (W9.1 hi).1;rw[jy hi] at h1
  by_cases h2:s<e.name
  ·exact h2
  ·have h3:=JD h1 h2;have:isE l s=true:=(pr h s).2 ⟨e,W6 hi,h3⟩;rw[hs] at this;cases this
theorem kC {l:List Entry} (h:EUp l) {s:List UInt8} (hs:isE l s=false) (f:Int):EUp (bD l s f)/\(∀e,e∈bD l s f↔e=⟨s,f⟩\/e∈l)/\dp (bD l s f) s=l:=by
 obtain ⟨h1,h2⟩:=h.parts hs;unfold bD dp;rw[hs,if_neg w8];generalize aM l s=p at *;have hmem:∀x,x∈l↔x∈l.take p\/x∈l.drop p:=λx=>by
  have:=List.mem_append (a:=x) (s:=l.take p) (t:=l.drop p);rw[List.take_append_drop] at this;exact this
 refine ⟨?_,λe=>?_,?_⟩
 ·refine List.pairwise_append.2 ⟨h.sublist (List.take_sublist _ _),List.pairwise_cons.2 ⟨h2,h.sublist (List.drop_sublist _ _)⟩,λa ha b hb=>?_⟩
  rcases List.mem_cons.1 hb with rfl | hb
  ·exact h1 a ha
  ·exact uG (h1 a ha) (h2 b hb)
 ·rw[hmem,List.mem_append,List.mem_cons];constructor
  ·rintro (h | h | h)
   ·exact .inr (.inl h)
   ·exact .inl h
   ·exact .inr (.inr h)
  ·rintro (h | h | h)
   ·exact .inr (.inl h)
   ·exact .inl h
   ·exact .inr (.inr h)
 ·rw[List.filter_append,List.filter_cons,Ye.2 (λe he=>?_),Ye.2 (λe he=>?_)]
  ·simp
  ·have:e.name≠s:=by rintro rfl;exact sj _ (h2 e he)
   simpa using this
  ·have:e.name≠s:=by rintro rfl;exact sj _ (h1 e he)
   simpa using this
theorem EUp.same {l:List Entry} (h:EUp l) {a b:Entry} (ha:a∈l) (hb:b∈l) (hn:a.name=b.name):a=b:=by
 obtain ⟨i,hi⟩:=YC ha;obtain ⟨j,hj⟩:=YC hb;have hil:=(W9.1 hi).1;have hjl:=(W9.1 hj).1
 rcases Nat.lt_trichotomy i j with h1 | h1 | h1
 ·have:=h.lt h1 hjl;rw[jy hi,jy hj,hn] at this;exact absurd this (sj _)
 ·subst h1;rw[hi] at hj;injection hj
 ·have:=h.lt h1 hil;rw[jy hi,jy hj,hn] at this;exact absurd this (sj _)
theorem YE {n:Node} (h:EUp n.entries) {s:List UInt8} {f:Int}:ba n s=some f↔⟨s,f⟩∈n.entries:=by
 unfold ba;constructor
 ·intro hf;split at hf
  ·rename_i hc;unfold isE at hc;rw[Bool.and_eq_true,decide_eq_true_eq,decide_eq_true_eq] at hc;have:=YG hc.1;injection hf with hf
   have e:n.entries.getD (aM n.entries s) default=⟨s,f⟩:=by
    cases h0:n.entries.getD (aM n.entries s) default with
    | mk a b=>rw[h0] at hf hc;simp only at hf hc;rw[<-hf,<-hc.2]
   rw[<-e];exact this
  ·cases hf
 ·intro hm;have hi:=(pr h s).2 ⟨_,hm,rfl⟩;rw[if_pos hi];unfold isE at hi;rw[Bool.and_eq_true,decide_eq_true_eq,decide_eq_true_eq] at hi;have:=h.same (YG hi.1) hm hi.2;rw[this]
theorem yT {n:Node} (h:EUp n.entries) {s:List UInt8}:ba n s=none↔∀e,e∈n.entries->e.name≠s:=by
 unfold ba;constructor
 ·intro hf e he hn;rw[if_pos ((pr h s).2 ⟨e,he,hn⟩)] at hf;cases hf
 ·intro hn;rw[if_neg];intro hi;obtain ⟨e,he,h1⟩:=(pr h s).1 hi;exact hn e he h1
end La
namespace La
open Go Go.Eng
structure Kept where
 node:Node
 dirty:Bool
 worth:Int
 last:Int
deriving DecidableEq,Inhabited
structure Verdict where
 err:Int
 fid:Int
deriving DecidableEq,Inhabited
structure Past where
 client:Int
 act:Act
deriving DecidableEq,Inhabited
def ZK (k:Kept):List AV:=[.int .i64 k.node.fid,.bool k.node.dir,.sl (k.node.data.map ZY),.sl (k.node.entries.map ZE),.int .i64 k.node.version,.bool k.dirty,.int .i64 k.worth,.int .i64 k.last]
def aZ (s:List UInt8):List AV:=[.str s]
def ZV (v:Verdict):List AV:=[.int .i64 v.err,.int .i64 v.fid]
def ZP (p:Past):List AV:=[.int .i64 p.client,.int .i64 p.act.kind,.int .i64 p.act.fid,.int .i64 p.act.dir,.str p.act.name,.int .i64 p.act.to,.str p.act.toName,.sl (p.act.data.map ZY)]
theorem fQ:Fam ZK 8:=⟨λ_=>rfl,λ_=>rfl,λ_=>rfl,λ_=>rfl⟩
@[go_sem,simp] theorem tW (l:List _):Eng.rowsOf 8 (l.map ZK):=fQ.rowsOf l
@[go_sem,simp] theorem xE (l:List _):((l.map ZK).all λrow=>row.all AV.leaf)=true:=fQ.jT l
@[go_sem,simp] theorem bg (l:List _):((l.map ZK).all λrow=>row.all AV.aT)=true:=fQ.dW l
@[go_sem,simp] theorem Hr (id:Nat) (l:List _):((l.map ZK).all λrow=>row.all λx=>!(refs x).contains id)=true:=fQ.iR id l
@[go_sem,simp] theorem Hs (e s:Nat) (l:List _):av (.cells e s (l.map ZK))=[]:=fQ.av e s l
@[go_sem,simp] theorem IQ (off:Nat) (l:List _):(l.map ZK).map (gu off)=l.map ZK:=Fam.gu (λ_ _=>rfl) off l
@[go_sem,simp] theorem IP (id s:Nat) (rows:List (List AV)) (l:List _):(l.map ZK).map (db id s rows)=l.map ZK:=Fam.db (λ_ _ _ _=>rfl) id s rows l
@[go_sem,simp] theorem ko (a):aA (ZK a)=[]:=fQ.free a
theorem f_:Fam ZV 2:=⟨λ_=>rfl,λ_=>rfl,λ_=>rfl,λ_=>rfl⟩
@[go_sem,simp] theorem mf (l:List _):((l.map ZV).all λrow=>row.all AV.aT)=true:=f_.dW l
@[go_sem,simp] theorem ET (id:Nat) (l:List _):((l.map ZV).all λrow=>row.all λx=>!(refs x).contains id)=true:=f_.iR id l
@[go_sem,simp] theorem EU (e s:Nat) (l:List _):av (.cells e s (l.map ZV))=[]:=f_.av e s l
@[go_sem,simp] theorem E2 (id s:Nat) (rows:List (List AV)) (l:List _):(l.map ZV).map (db id s rows)=l.map ZV:=Fam.db (λ_ _ _ _=>rfl) id s rows l
@[go_sem,simp] theorem EV (a):aA (ZV a)=[]:=f_.free a
theorem iq:Fam ZP 8:=⟨λ_=>rfl,λ_=>rfl,λ_=>rfl,λ_=>rfl⟩
@[go_sem,simp] theorem jE (l:List _):Eng.rowsOf 8 (l.map ZP):=iq.rowsOf l
@[go_sem,simp] theorem lM (l:List _):((l.map ZP).all λrow=>row.all AV.leaf)=true:=iq.jT l
@[go_sem,simp] theorem dX (l:List _):((l.map ZP).all λrow=>row.all AV.aT)=true:=iq.dW l
@[go_sem,simp] theorem bH (id:Nat) (l:List _):((l.map ZP).all λrow=>row.all λx=>!(refs x).contains id)=true:=iq.iR id l
@[go_sem,simp] theorem Hu (e s:Nat) (l:List _):av (.cells e s (l.map ZP))=[]:=iq.av e s l
@[go_sem,simp] theorem Jj (off:Nat) (l:List _):(l.map ZP).map (gu off)=l.map ZP:=Fam.gu (λ_ _=>rfl) off l
@[go_sem,simp] theorem Ji (id s:Nat) (rows:List (List AV)) (l:List _):(l.map ZP).map (db id s rows)=l.map ZP:=Fam.db (λ_ _ _ _=>rfl) id s rows l
theorem lp:Fam aZ 1:=⟨λ_=>rfl,λ_=>rfl,λ_=>rfl,λ_=>rfl⟩
@[go_sem,simp] theorem AM (l:List _):((l.map aZ).all λrow=>row.all AV.aT)=true:=lp.dW l
@[go_sem,simp] theorem JA (id:Nat) (l:List _):((l.map aZ).all λrow=>row.all λx=>!(refs x).contains id)=true:=lp.iR id l
@[go_sem,simp] theorem JB (e s:Nat) (l:List _):av (.cells e s (l.map aZ))=[]:=lp.av e s l
@[go_sem,simp] theorem JC (a):aA (aZ a)=[]:=lp.free a
end La
namespace La
open Go Go.Eng Go.Proofs Go.Proofs.Tryz
def qf (a b:List UInt8):Int:=if a<b then -1 else if b<a then 1 else 0
theorem CC (a b:List UInt8):decide (qf a b<0)=decide (a<b):=by
 unfold qf;split
 ·rename_i h;simp[h]
 ·rename_i h;split
  ·simp[h]
  ·simp[h]
theorem Il (a b:List UInt8):decide (qf a b=0)=decide (a=b):=by
 unfold qf;split
 ·rename_i h;have:a≠b:=by rintro rfl;exact sj _ h
  simp[this]
 ·rename_i h;split
  ·rename_i h2;have:a≠b:=by rintro rfl;exact sj _ h2
   simp[this]
  ·rename_i h2;simp[JD h h2]
theorem vW (a:List UInt8):Fo 170 [.str a] (.bool false):=by
 refine wS func170 ntmps170 results170 λC=>?_
 refine wGT ?_;simp
theorem rk (a b:List UInt8):Fo 142 [.str a,.str b] (.int .i64 (qf a b)):=by
 refine wSG func142 ntmps142 results142 λC=>?_
 refine wCg ?_ func170 (hf:=vW a);refine wC ?_ func170 (hf:=vW b);refine wGD (λh=>?_) (λh=>?_)
 ·cases h
 refine wGD (λh=>?_) (λh=>?_)
 ·cases h
 refine wGD (λh=>?_) (λh=>?_)
 ·rename_i h0 h1;have hab:a<b:=by rw[eR] at h;exact of_decide_eq_true h
  refine wGT ?_;simp[qf,hab]
 have hab:¬a<b:=by rw[eR] at h;exact of_decide_eq_false h
 refine wGD (λh=>?_) (λh=>?_)
 ·have hba:b<a:=by
   rw[eR] at h
   by_cases h3:b<a
   ·exact h3
   ·have:=JD hab h3;subst this;simp at h
  refine wGT ?_;simp[qf,hab,hba]
 have hba:¬b<a:=by
  intro h3;have hne:a≠b:=by rintro rfl;exact sj _ h3
  rw[eR] at h;simp[hab,hne] at h
 refine wGT ?_;simp[qf,hab,hba]
theorem yS (e:Entry) (s:List UInt8):Fo 141 [.agg (ZE e),.str s] (.int .i64 (qf e.name s)):=by
 unfold ZE;refine wSG func141 ntmps141 results141 λC=>?_
 refine wC ?_ func142 (hf:=rk e.name s);refine wGT ?_;rfl
theorem yQ (e:Entry) (s:List UInt8):Fo 208 [.agg (ZE e),.str s] (.int .i64 (qf e.name s)):=by
 unfold ZE;refine wSG func208 ntmps208 results208 λC=>?_
 refine wC ?_ func142 (hf:=rk e.name s);refine wGT ?_;rfl
theorem pg (l:List Entry) (s:List UInt8) (hlen:l.length<=100000000) {f:FuncId} (hcal:aH prog f) (hf:∀e,ai prog f [.agg (ZE e),.str s] [] (λr _=>r=.int .i64 (qf e.name s))) :
  Fo 140 [.sl (l.map ZE),.str s,.fn f []] (.tup [.int .i64 (aM l s),.bool (isE l s)]):=by
 refine wSG func140 ntmps140 results140 λC=>?_
 refine ZL (λi:Nat×Nat=>i.1<=i.2/\i.2<=l.length/\bsearch (yN l s) (i.2-i.1) i.1 i.2=aM l s) (λi=>i.2-i.1) (λi=>(9,.int .i64 i.1)::(10,.int .i64 i.2)::(11,.any)::u0 15 20 []) (λ_=>[]) (0,l.length) ⟨by simp,by simp,rfl⟩ ?_ λi hi=>?_
 ·exact wZ
 obtain ⟨lo,hi'⟩:=i;obtain ⟨h1,h2,h3⟩:=hi;simp only at h1 h2 h3;simp only[go_sem];refine wGD (λh=>?_) (λh=>?_)
 ·have hlt:=lt1 h;have hml:(lo+hi') / 2<l.length:=by omega
  have hn:=hf (l.getD ((lo+hi') / 2) default);have hg:(l.map ZE).getD ((lo+hi') / 2) []=ZE (l.getD ((lo+hi') / 2) default):=Fam.getD hml;have hmid:IntKind.i64.wrap ((IntKind.u64.wrap (IntKind.i64.wrap ((lo:Int)+(hi':Int)))).fdiv (2 ^ min 1 64))=(((lo+hi') / 2:Nat):Int):=Gg z8;have hst:=oX (yN l s) hlt;have hlm:yN l s ((lo+hi') / 2)=decide ((l.getD ((lo+hi') / 2) default).name<s):=rfl;have hm1:lo<=(lo+hi') / 2:=by omega
  have hm2:(lo+hi') / 2<hi':=by omega
  generalize l.getD ((lo+hi') / 2) default=n at hn hg hlm;generalize (lo+hi') / 2=m at *;refine wGq ?_ ?_ (by simp only[go_sem,hmid,hg,ZE];try exact rfl)
  ·simp[hmid,hg,hml,ZE]
  refine dC rfl rfl z7 w3 hcal (by simp[go_sem,ne_eq]) (hn) w3 z6 ?_;refine wGD (λh=>?_) (λh=>?_)
  ·rw[CC,<-hlm] at h;rw[h,if_pos rfl] at hst;have hw:IntKind.i64.wrap ((m:Int)+1)=((m+1:Nat):Int):=by rw[Eng.wrap_small z8 z8];omega
   refine wG ?_ w4 y7;refine ZB ⟨(m+1,hi'),⟨by omega,h2,hst▸h3⟩,by simp;omega,ZU ?_ ?_ ?_⟩
   ·simp[go_sem]
   ·simp[go_sem]
   ·simp[go_sem]
  ·rw[CC,<-hlm] at h;rw[h,if_neg w8] at hst;refine wG ?_;refine ZB ⟨(lo,m),⟨by omega,by omega,hst▸h3⟩,by simp;omega,ZU ?_ ?_ ?_⟩
   ·simp[go_sem]
   ·simp[go_sem]
   ·simp[go_sem]
 ·have hge:¬lo<hi':=by simp at h;omega
  rw[rj _ hge] at h3;subst h3;refine wR ?_;refine wN 5 ?_;refine wNm 39 λc39 h39=>?_
  cases c39 with
  | true=>
   have hpl:aM l s<l.length:=by have:=of_decide_eq_true h39;omega
   have hn:=hf (l.getD (aM l s) default);have hg:(l.map ZE).getD (aM l s) []=ZE (l.getD (aM l s) default):=Fam.getD hpl;have hat:isE l s=decide ((l.getD (aM l s) default).name=s):=by simp[isE,hpl]
   generalize l.getD (aM l s) default=n at hn hg hat;refine wGq ?_ ?_ s6
   ·simp[hg,hpl,ZE]
   refine yH rfl z7 z7 w3 hcal w3 (λhb=>(hn)) w3 z6 ?_;refine wGT ?_;have e:(qf n.name s==0)=decide (n.name=s):=by rw[<-Il];by_cases h0:qf n.name s=0<;>simp[h0]
   simp[hat,e]
  | false=>
   have hpl:¬aM l s<l.length:=by have:=of_decide_eq_false h39;omega
   have hat:isE l s=false:=by simp[isE,hpl]
   refine wG ?_;refine fD (.int .i64 0) rfl ?_;simp only[go_sem];refine wGT ?_;simp[hat]
def eU:Option Int->AV
 | none=>.tup [.int .i64 0,.bool false]
 | some f=>.tup [.int .i64 f,.bool true]
@[go_sem,simp] theorem KO (o:Option Int):refs (eU o)=[]:=by cases o<;>simp[eU,refs,aA]
theorem kD (n:Node) (s:List UInt8) (hn:n.Small):Fo 104 [.agg (ZN n),.str s] (eU (ba n s)):=by
 have hlen:=hn.entries;unfold ZN;refine wSG func104 ntmps104 results104 λC=>?_
 refine wC ?_ func140 (hf:=pg n.entries s hlen ⟨_,Go.Proofs.Tryz.func141,by kernel_rfl,rfl⟩ (λe=>yS e s));refine wGD (λh=>?_) (λh=>?_)
 ·have hat:isE n.entries s=false:=by simpa using h
  refine wGT ?_;simp[ba,hat,eU]
 ·have hat:isE n.entries s=true:=by simpa using h
  have hpl:aM n.entries s<n.entries.length:=by
   unfold isE at hat;rw[Bool.and_eq_true] at hat;exact of_decide_eq_true hat.1
  have hg:(n.entries.map ZE).getD (aM n.entries s) []=ZE (n.entries.getD (aM n.entries s) default):=Fam.getD hpl;have hr:ba n s=some (n.entries.getD (aM n.entries s) default).fid:=by simp[ba,hat]
  rw[hr];generalize n.entries.getD (aM n.entries s) default=e at hg;refine wGq ?_ ?_ s6
  ·simp[hg,hpl,ZE]
  refine wT ?_;simp[eU]
theorem th (d:List Entry) (hd:d.length<=100000000):ai prog 101 [.sl (d.map ZE)] [] (λr H=>r=.osl 7 2 0 d.length/\∀i b,aa [(7,.cells 96 2 (d.map ZE))] i=some b->aa H i=some b):=by
 refine wSG func101 ntmps101 results101 λC=>?_
 refine mq tK rfl rfl rfl u3 u3 (λb hb=>?_);simp only[go_sem];refine wGD (λh=>?_) (λh=>?_)
 ·have hn:d.map ZE=[]:=hb h;have hd0:d=[]:=by simpa using hn
  subst hd0;refine af (le_empty 7 96 2 rfl) ?_;refine wG ?_;refine lk ⟨_,_,by simp only[go_sem];try exact rfl,by simp[go_sem],.osl 7 2 0 0,.inr (.inr ⟨rfl,.inr ⟨7,2,0,rfl⟩⟩),?_⟩;simp[go_sem]
 ·refine wGq ?_ ?_
  ·simp;omega
  refine wT ?_;simp[go_sem]
def lu (n:Node) (id:Nat):List AV:=[.int .i64 n.fid,.bool n.dir,.sl (n.data.map ZY),.osl id 2 0 n.entries.length,.int .i64 n.version]
@[go_sem,simp] theorem Ll (n:Node) (id:Nat):lu n id=[.int .i64 n.fid,.bool n.dir,.sl (n.data.map ZY),.osl id 2 0 n.entries.length,.int .i64 n.version]:=rfl
theorem Aj (n:Node) (hn:n.Small):ai prog 66 [.sl [ZN n]] [] (λr H=>r=.osl 23 5 0 1/\∀i b,aa [(23,.cells 94 5 [lu n 1000]),(1000,.cells 96 2 (n.entries.map ZE))] i=some b->aa H i=some b):=by
 refine wSG func66 ntmps66 results66 λC=>?_
 refine ZL (λ_:Bool=>True) (λi=>cond i 1 0) (λi=>match i with
   | true=>(3,.osl 23 5 0 0)::(5,.any)::(8,.int .i64 0)::u0 9 16 []
   | false=>(3,.osl 23 5 0 1)::(5,.any)::(8,.int .i64 1)::u0 9 16 [])
  (λi=>match i with
   | true=>[(23,.cells 94 5 [])]
   | false=>[(23,.cells 94 5 [lu n 1000]),(1000,.cells 96 2 (n.entries.map ZE))]) true trivial ?_ λi hi=>?_
 ·exact wY
 cases i with
 | true=>
  simp only[go_sem];refine wGD (λh=>?_) (λh=>?_)
  ·refine wGq ?_ ?_ w5
   ·simp[ZN]
   refine wO ?_;refine sG ?_;refine sC ?_ func100 (hf:=mn _ hn.data);refine sG ?_;refine g_ 993 rfl rfl z7 w3 ⟨_,func101,by kernel_rfl,rfl⟩ w3 (th _ hn.entries) w3 z7 z7 w3 z6 z6 ?_;refine sG ?_;refine sE ?_;refine dS ?_;refine ZS rfl ?_;refine sG ?_;refine sE ?_;refine dS ?_;refine wKd ?_;refine wGq ?_ ?_
   ·simp[rowsOf]
   refine ZB ⟨false,by simp,ZU ?_ ?_ ?_⟩
   ·simp[go_sem];rfl
   ·simp[go_sem,lu]
   ·simp[go_sem,lu]
  ·simp at h
 | false=>
  simp only[go_sem];refine wGD (λh=>?_) (λh=>?_)
  ·simp at h
  refine wGT ?_;simp[go_sem]
def okC (c:UInt8):Bool:=(decide (97<=c.toNat)&&decide (c.toNat<=122))||(decide (48<=c.toNat)&&decide (c.toNat<=57))
def cr (s:List UInt8):Bool:=decide (1<=s.length)&&decide (s.length<=8)&&s.all okC
theorem CT (s:List UInt8) (hs:s.length<=100000000):Fo 139 [.str s] (.bool (cr s)):=by
 refine wS func139 ntmps139 results139 λC=>?_
 refine wR ?_;refine wN 1 ?_;refine wR ?_;cases e1:decide ((s.length:Int)<1) with
 | true=>
  have hno:cr s=false:=by
   have h1:=of_decide_eq_true e1;unfold cr;rw[show decide (1<=s.length)=false from decide_eq_false z8];rfl
  refine wG ?_ (by simp only[go_sem,e1];try exact rfl) (by simp[go_sem,e1]);refine wD (λh=>?_) (λh=>?_)
  ·refine wGT ?_;rw[hno]
  ·cases h
 | false=>
  have h1:=of_decide_eq_false e1;cases e2:decide ((s.length:Int)>8) with
  | true=>
   have hno:cr s=false:=by
    have h2:=of_decide_eq_true e2;unfold cr;rw[show decide (s.length<=8)=false from decide_eq_false z8,Bool.and_false];rfl
   refine wG ?_ (by simp only[go_sem,e1,e2];try exact rfl) (by simp[go_sem,e1,e2]);refine wD (λh=>?_) (λh=>?_)
   ·refine wGT ?_;rw[hno]
   ·cases h
  | false=>
   have h2:=of_decide_eq_false e2;have hyes:cr s=s.all okC:=by
    unfold cr;rw[show decide (1<=s.length)=true from decide_eq_true z8,show decide (s.length<=8)=true from decide_eq_true z8];rfl
   rw[hyes];refine wG ?_ (by simp only[go_sem,e1,e2];try exact rfl) (by simp[go_sem,e1,e2]);refine wD (λh=>?_) (λh=>?_)
   ·cases h
   refine wG ?_;refine ZL (λi:Nat=>i<=s.length/\∀j,j<i->okC (s.getD j 0)=true) (λi=>s.length-i) (λi=>(3,.any)::(4,.any)::(15,.int .i64 i)::u0 16 20 []) (λ_=>[]) 0 ⟨by omega,by omega⟩ ?_ λi hi=>?_
   ·exact wZ
   obtain ⟨hi,hs⟩:=hi;simp only[go_sem];refine wGD (λh=>?_) (λh=>?_)
   ·have hlt:=lt1 h;have hw:=wi1 (i:=i) z8;have hno:okC (s.getD i 0)=false->s.all okC=false:=λh0=>by
     cases e:s.all okC with
     | false=>rfl
     | true=>
      have:=List.all_eq_true.1 e (s.getD i 0) (by rw[List.getD_eq_getElem?_getD,W3 hlt];exact YY hlt);rw[this] at h0;cases h0
    have hyes:okC (s.getD i 0)=true->∀j,j<i+1->okC (s.getD j 0)=true:=λh0 j hj=>by
     rcases Nat.lt_succ_iff_lt_or_eq.1 hj with h1 | rfl
     ·exact hs j h1
     ·exact h0
    refine wR ?_;refine wN 2 ?_;refine wR ?_;refine wN 2 ?_;refine wNq 1 ?_ ?_
    ·simp;omega
    refine wN 1 ?_;refine wR ?_;generalize s.getD i 0=c at hno hyes;have hc:okC c=((!(decide ((c.toNat:Int)<97))&&!(decide ((c.toNat:Int)>122)))||(!(decide ((c.toNat:Int)<48))&&!(decide ((c.toNat:Int)>57)))):=by
     unfold okC;rw[Yv];simp only[Bool.or_eq_true,Bool.and_eq_true,decide_eq_true_eq,Yo,decide_eq_false_iff_not];omega
    generalize hf1:decide ((c.toNat:Int)<97)=f1 at hc;generalize hf2:decide ((c.toNat:Int)>122)=f2 at hc;generalize hf3:decide ((c.toNat:Int)<48)=f3 at hc;generalize hf4:decide ((c.toNat:Int)>57)=f4 at hc;refine wNq 14 ?_ ?_ z6 z6 WJ
    ·cases f1<;>cases f2<;>cases f3<;>cases f4<;>simp
    have hb:(bif (bif f1 then true else f2) then (bif f3 then true else f4) else false)=!okC c:=by
     rw[hc];cases f1<;>cases f2<;>cases f3<;>cases f4<;>rfl
    simp only[go_sem,hb];refine wD (λh=>?_) (λh=>?_)
    ·have h0:okC c=false:=by simpa using h
     refine wGT ?_;rw[hno h0]
    ·have h0:okC c=true:=by simpa using h
     refine wG ?_ w4 y7;refine ZB ⟨i+1,⟨by omega,hyes h0⟩,by omega,ZU ?_ ?_ ?_⟩
     ·simp[go_sem]
     ·simp[go_sem]
     ·simp[go_sem]
   ·have e:i=s.length:=by simp at h;omega
    have:s.all okC=true:=List.all_eq_true.2 λx hx=>by
     obtain ⟨j,hj⟩:=YC hx;have:=hs j (by rw[e];exact (W9.1 hj).1)
     rwa [List.getD_eq_getElem?_getD,hj] at this
    refine wGT ?_;rw[this]
end La
namespace La
def cw (a:Act):List Int:=if a.kind=3 then [a.fid] else if a.kind=5 then [a.fid,a.dir,a.to] else [a.fid,a.dir]
def Rec.names (r:Rec) (fid:Int):Bool:=(cw r.act).contains fid
def ep (fid:Int) (r:Rec):Bool:=r.act.fid==fid&&(r.act.kind==1||r.act.kind==2)
def fF (a:Act) (dir:Int) (name:List UInt8):Bool:=
 if a.kind=1\/a.kind=2\/a.kind=4 then a.dir==dir&&a.name==name
 else if a.kind=5 then (a.dir==dir&&a.name==name)||(a.to==dir&&a.toName==name) else false
def bars (fid dir:Int) (name:List UInt8) (x:Rec):Bool:=(x.act.kind != 3&&x.names fid)||fF x.act dir name
def eE (l:List Rec) (r:Rec):Bool:=
 match l.findIdx? (ep r.act.fid) with
 | none=>false
 | some k=>r.act.kind==4&&(l.getD k default).act.dir==r.act.dir&&(l.getD k default).act.name==r.act.name&&!((l.drop (k+1)).any (bars r.act.fid (l.getD k default).act.dir (l.getD k default).act.name))
def stored (r x:Rec):Bool:=x.act.kind==3&&x.act.fid==r.act.fid
def cI (l:List Rec) (r:Rec):List Rec:=if r.act.kind=3 then l.filter λx=>!(stored r x) else l
def dm (l:List Rec) (r:Rec):Option (List Rec):=
 if eE l r then some (l.filter λx=>!(x.names r.act.fid))
 else if (cI l r).length≥20 then none else some (cI l r++[r])
theorem jb (l:List Rec) (r:Rec):(cI l r).Sublist l:=by
 unfold cI;split
 ·exact Y4
 ·exact List.Sublist.refl _
def cE (r:Rec) (s:Int) (x:Rec):Int:=
 if s=0 then (if ep r.act.fid x then (if x.act.dir=r.act.dir/\x.act.name=r.act.name then 1 else 2) else 0)
 else if s=1 then (if bars r.act.fid r.act.dir r.act.name x then 2 else 1) else s
theorem mj (r:Rec):∀l:List Rec,l.foldl (cE r) 2=2
 | []=>rfl
 | x::l=>by simp only[List.foldl_cons];rw[show cE r 2 x=2 from by simp[cE]];exact mj r l
theorem rf (r:Rec):∀l:List Rec,l.foldl (cE r) 1=if l.any (bars r.act.fid r.act.dir r.act.name) then 2 else 1
 | []=>rfl
 | x::l=>by
  simp only[List.foldl_cons,List.any_cons]
  by_cases h:bars r.act.fid r.act.dir r.act.name x=true
  ·rw[show cE r 1 x=2 from by simp[cE,h],mj];simp[h]
  ·rw[show cE r 1 x=1 from by simp[cE,h],rf];simp[h]
theorem lX (r:Rec) (hk:r.act.kind=4):∀l:List Rec,(l.foldl (cE r) 0==1)=eE l r
 | []=>rfl
 | x::l=>by
  have ih:=lX r hk l;simp only[List.foldl_cons];unfold eE at ih ⊢;rw[List.findIdx?_cons]
  by_cases h:ep r.act.fid x=true
  ·simp only[h,if_true]
   by_cases h2:x.act.dir=r.act.dir/\x.act.name=r.act.name
   ·rw[show cE r 0 x=1 from by simp[cE,h,h2],rf];simp only[List.getD_cons_zero,h2.1,h2.2,hk,List.drop_succ_cons,List.drop_zero,Yd];cases (l.any (bars r.act.fid r.act.dir r.act.name))<;>simp
   ·rw[show cE r 0 x=2 from by simp only[cE,h,if_true,if_neg h2],mj];simp only[List.getD_cons_zero]
    by_cases h3:x.act.dir=r.act.dir
    ·have h4:¬x.act.name=r.act.name:=λe=>h2 ⟨h3,e⟩
     simp[h4]
    ·simp[h3]
  ·rw[show cE r 0 x=0 from by simp[cE,h],ih];simp only[h,if_false,Bool.false_eq_true];cases e:l.findIdx? (ep r.act.fid) with
   | none=>simp
   | some k=>simp
end La
namespace La
open Go Go.Eng Go.Proofs Go.Proofs.Tryz
def Act.Small (a:Act):Prop:=a.data.length<=100000000
structure SmallL (l:List Rec):Prop where
 len:l.length<=100000000
 each:∀r,r∈l->r.act.Small
theorem mi (a:Act) (ha:a.Small):Fo 67 [.agg (ZA a)] (.agg (ZA a)):=by
 unfold ZA;refine wSG func67 ntmps67 results67 λC=>?_
 refine wC ?_ func100 (hf:=mn _ ha);refine wGT ?_;rfl
theorem qK (l:List Rec) (hl:SmallL l):ai prog 69 [.sl (l.map ZR)] [] (λr H=>r=.osl 19 9 0 (l.map ZR).length/\∀i b,aa [(19,.cells 51 9 (l.map ZR))] i=some b->aa H i=some b):=by
 have hlen:=hl.len;refine wSG func69 ntmps69 results69 λC=>?_
 refine wL l.length (λi=>(3,.osl 19 9 0 i)::(5,.any)::(8,.int .i64 i)::u0 9 12 [])
  (λi=>[(19,.cells 51 9 ((l.take i).map ZR))]) ?_ λi hi=>?_
 ·exact wY
 simp only[go_sem];refine wGD (λh=>?_) (λh=>?_)
 ·have hlt:=lt1 h;have hn:=hl.each _ (YG hlt);have hg:=Fam.getD (f:=ZR) hlt;have hs:=dA ZR hlt;generalize l.getD i default=n at hn hg hs;refine wGq ?_ ?_ u7
  ·simp[hlt,ZR]
  refine wC ?_ func67 (hf:=mi n.act hn);have ht:List.take i (List.map ZR (List.take i l))=List.map ZR (List.take i l):=W4 k6;have hw:IntKind.i64.wrap ((i:Int)+1)=(i:Int)+1:=wrap_small z8 z8;refine wGq ?_ ?_ (by simp only[go_sem,ht,hw,ZA];try exact rfl)
  ·simp[rowsOf];omega
  refine ZB ⟨i+1,by omega,by omega,ZU ?_ ?_ ?_⟩
  ·simp[go_sem]
  ·simp[go_sem,hs,ZR]
  ·simp only[go_sem]
 ·obtain rfl:=eq1 hi h;refine wGT ?_;simp[go_sem]
theorem kM (l:List Rec) (hl:SmallL l):Fo 69 [.sl (l.map ZR)] (.sl (l.map ZR)):=ai.read (qK l hl) (da _)
end La
namespace La
open Go Go.Eng
theorem xx {P:Program} {f:FuncId} {args:List AV} {H:List (Nat×Blk)} {Y:AV} (h:ai P f args H λr _=>Eng.nrm r=Y):ai P f args H λr _=>r=Y:=by
 intro R0 μ w0 vs hl ha hH hR;refine (h R0 μ w0 vs hl ha hH hR).mono ?_;rintro e' w' ⟨v,r,H',μ',S',rfl,rfl,h4,h5⟩;exact ⟨v,_,H',μ',S',rfl,rfl,h4.nrm,h5⟩
theorem Ah (l:List (List UInt8)):Eng.iZ (l.map aZ)=l.map aZ:=by
 rw[dO,Yi];exact Ym λx _=>rfl
end La
namespace Go.Eng
section
variable {P:Program} {T:Tab} {C:Ctx} {σ σ':St} {μ:Nat->Option Nat} {S:Nat->Prop} {a:Act} {w:World} {Ret:St->Prop} {k:List It}
def mv1 (p q:Nat):AV->AV
 | .osl id s o l=>if id=p then .osl q s o l else .osl id s o l
 | .ptr id s r o=>if id=p then .ptr q s r o else .ptr id s r o
 | x=>kill p x
theorem gy (p q:Nat) {e s:Nat} {rows:List (List AV)} {H':List (Nat×Blk)} {l':List AV} (hb:aa σ.hp p=some (.cells e s rows):=by simp only[go_sem];exact rfl) (hq:aa σ.hp q=none:=by simp only[go_sem];try exact rfl) (hr:av (.cells e s rows)=[]:=by simp only[go_sem];try exact rfl)
  (hH:dM σ.hp p=H':=by simp only[go_sem,dM];exact rfl) (hf:(H'.all λx=>!(av x.2).contains p)=true:=by simp only[go_sem];try exact rfl) (ht:σ.tm.map (mv1 p q)=l':=by simp only[go_sem,mv1,kill];exact rfl):Le C σ ⟨l',(q,.cells e s rows)::H'⟩:=by
 subst hH ht;intro a w ⟨μ,S,hi⟩;have hne:p≠q:=λh=>by subst h;rw[hb] at hq;cases hq
 have hmq:μ q=none:=by
  cases h:μ q with
  | none=>rfl
  | some g=>obtain ⟨⟨b,h1⟩,_⟩:=hi.dom q g h;rw[hq] at h1;cases h1
 let ν:Nat->Option Nat:=λi=>if i=q then μ p else if i=p then none else μ i
 have hνq:ν q=μ p:=by simp[ν]
 have hν:∀i,i≠p->i≠q->ν i=μ i:=λi h1 h2=>by simp[ν,h1,h2]
 have hm:∀i,i≠p->∀g,μ i=some g->ν i=some g:=λi h g hg=>by
  rw[hν i h (λe=>by subst e;rw[hmq] at hg;cases hg)];exact hg
 have hv:∀i g,ν i=some g->(i=q/\μ p=some g)\/(i≠p/\i≠q/\μ i=some g):=λi g h=>by
  simp only[ν] at h;split at h
  ·exact .inl ⟨by assumption,h⟩
  ·split at h
   ·cases h
   ·exact .inr ⟨by assumption,by assumption,h⟩
 have hkill:∀{v:Value} {y:AV},Rd μ S w v y->Rd ν S w v (kill p y):=fun {v y} h=>by
  unfold kill;split
  ·exact .any v
  ·rename_i hc;exact h.less λid hid g hg=>hm id (λe=>by subst e;exact hc (by simpa using hid)) g hg
 refine ⟨ν,S,by simpa using hi.size,hi.defers,λt x hx=>?_,λid b hb'=>?_,λid g hg=>?_,λi j g h1 h2=>?_,hi.frm,hi.sb⟩
 ·simp only[W5] at hx;obtain ⟨y,hy,rfl⟩:=YX.1 hx;have h:=hi.tm t y hy;cases y with
  | osl id s' o n=>
   simp only[mv1];split
   ·rename_i e;subst e;obtain ⟨A,cap,e1,hc,hor⟩:=h.bT;rw[e1];refine .osl q s' o n cap A hc ?_
    rcases hor with h | ⟨g,e2,m,k1,k2,k3,k4⟩
    ·exact .inl h
    ·exact .inr ⟨g,e2,m,hνq.trans k1,k2,k3,k4⟩
   ·rename_i e;exact h.less λi hid g hg=>hm i (λe'=>by simp only[refs,List.mem_singleton] at hid;exact e (hid.symm.trans e')) g hg
  | ptr id s' r o=>
   simp only[mv1];split
   ·rename_i e;subst e;obtain ⟨g,k1,e1⟩:=h.iX;rw[e1];exact .ptr q s' r o g (hνq.trans k1)
   ·rename_i e;exact h.less λi hid g hg=>hm i (λe'=>by simp only[refs,List.mem_singleton] at hid;exact e (hid.symm.trans e')) g hg
  | _=>exact hkill h
 ·simp only[aa] at hb';split at hb'
  ·rename_i e';injection hb' with hb'
   subst e' hb';have hk:=hi.hp p _ hb
   rcases hk with ⟨k1,k2⟩ | ⟨g,c,k1,k2,k3,k4,k5⟩
   ·exact .inl ⟨k1,hνq.trans k2⟩
   ·refine .inr ⟨g,c,hνq.trans k1,k2,k3,k4,λi row hi' j x hx=>(k5 i row hi' j x hx).less λid hid g' hg'=>?_⟩;have:id∈av (.cells e s rows):=List.mem_flatMap.2 ⟨row,W6 hi',aW hx hid⟩;rw[hr] at this;cases this
  ·rename_i hq';have hb2:=hb';rw[bz] at hb';split at hb'
   ·cases hb'
   ·rename_i hp';refine (hi.hp id b hb').less (hν id (λe=>hp' e.symm) (λe=>hq' e.symm)) λi hid g hg=>hm i (λe=>?_) g hg
    subst e;have:=List.all_eq_true.1 hf _ (aP hb2);simp at this;exact this hid
 ·rcases hv id g hg with ⟨rfl,h⟩ | ⟨h1,h2,h⟩
  ·exact ⟨⟨_,by simp only[aa,if_true];rfl⟩,(hi.dom p g h).2⟩
  ·obtain ⟨⟨b,hb1⟩,h3⟩:=hi.dom id g h;exact ⟨⟨b,by simp only[aa,if_neg (λe:q=id=>h2 e.symm),bz,if_neg (λe:p=id=>h1 e.symm)];exact hb1⟩,h3⟩
 ·rcases hv i g h1 with ⟨rfl,k⟩ | ⟨k1,k2,k⟩<;>rcases hv j g h2 with ⟨rfl,m⟩ | ⟨m1,m2,m⟩
  ·rfl
  ·exact absurd (hi.inj p j g k m) (λe=>m1 e.symm)
  ·exact absurd (hi.inj i p g k m) k1
  ·exact hi.inj i j g k m
theorem jV (r:Nat) (p q:List Nat) {ops ops':Array Oper} {Q:Exit->Act->World->Prop} {o:Oper} {x:Operand} (ho:ops[r]? = some o) (hop:o.op=.move x) (hg:o.guard=none)
  (hQ:∀c a w,¬Q (.panic c) a w) (h1:Ap r p q ops=true) (h2:sy r o ops=true) (he:(bJ r p q ops.toList).toArray=ops') {y:AV} (hx:evS σ x=(True,y))
  (hk:bp P C ops' Q 0 (σ.put o.dst y)):bp P C ops Q 0 σ:=by
 subst he;have hF:=qS h1;have hrl:=hF.rl;have hpl:=hF.pl;intro a w ⟨μ,S,hi⟩;have hv:=hi.evS x u9;rw[hx] at hv;obtain ⟨u,hr,hu⟩:∃u,Rd μ S w u y/\u=a.eval x:=⟨_,hv,rfl⟩;have hrel:Rel C (σ.put o.dst y) (a.put o.dst u) w:=⟨μ,S,hi.put o.dst hr⟩;have hk':=hk _ _ hrel;have hs:(bJ r p q ops.toList).toArray.size+1=ops.size:=by simp[bJ,hpl]
 obtain ⟨n,hn⟩:∃n,ops.size=n+1:=⟨ops.size-1,by omega⟩;have hsz:(bJ r p q ops.toList).toArray.size=n:=by omega
 unfold sy at h2;rw[Bool.and_eq_true] at h2;have hafter:o.after=#[]:=Array.isEmpty_iff.1 h2.1;have hd0:∀(m i:Nat) (d:Bool),(bj m 0).getD i d=if i<m then false else d:=λm i d=>by rw[fG];simp
 rw[hn,Nat.sub_zero];refine wpAny_first (v:=u) ho hF.sel (λc a w hc=>absurd hc (hQ c _ _)) n _ a w (λk oj hoj hkr _ hw=>?_) (mem_ready.2 ⟨?_,o,ho,λe he=>by rw[hafter] at he;simp at he⟩) (.inl ⟨by rw[Region.wanted,hg],λw'=>?_⟩) ?_
 ·have:=List.all_eq_true.1 h2.2 k (Ya.2 (Yg.1 hoj).1);rw[hoj] at this;simp only[Bool.or_eq_true,beq_iff_eq,Array.any_eq_true',Bool.and_eq_true] at this
  rcases this with h | ⟨e,he,hb,hon⟩ | h
  ·exact absurd h hkr
  ·exact absurd hon (hw e he hb)
  ·exact h
 ·rw[<-hn,hd0,if_pos hrl]
 ·subst hu;simp[execOp,hop]
 ·rw[hsz,Nat.sub_zero] at hk';refine x_ hF n _ _ _ _ WV WV ?_ (λi hi=>?_) hk'
  ·rw[Array.getD_eq_getD_getElem?,Yk,if_pos rfl,if_pos (by simp[bj];omega)];rfl
  ·have e2:((bj (n+1) 0).setIfInBounds r true).getD i false=(bj (n+1) 0).getD i false:=by
    rw[Array.getD_eq_getD_getElem?,Yk,if_neg (λe=>hi e.symm),<-Array.getD_eq_getD_getElem?]
   rw[e2,hd0,hd0];split<;>split<;>rfl
end
end Go.Eng
