/- Texts of this claim, part 10: PTree, EngAC, EngAD, EngAE, EngAF, EngAG, EngAH. No condition. -/
import Derived.Test.YtmcfbfdonjllaaaGreatDoorZP9
import Derived.Laws.StructEq
import Derived.Lib.SlBytesConst
set_option maxRecDepth 10000
set_option maxHeartbeats 4000000
set_option linter.unusedSimpArgs false
set_option linter.unusedVariables false
namespace La
def bsearch (lt:Nat->Bool):Nat->Nat->Nat->Nat
 | 0,lo,_=>lo
 | f+1,lo,hi=>if lo<hi then (if lt ((lo+hi) / 2) then bsearch lt f ((lo+hi) / 2+1) hi else bsearch lt f lo ((lo+hi) / 2)) else lo
theorem iT (lt:Nat->Bool):∀(f g lo hi:Nat),hi-lo<=f->hi-lo<=g->bsearch lt f lo hi=bsearch lt g lo hi
 | 0,0,_,_,_,_=>rfl
 | 0,g+1,lo,hi,h,_=>by
  unfold bsearch;rw[if_neg z8]
 | f+1,0,lo,hi,_,h=>by
  unfold bsearch;rw[if_neg z8]
 | f+1,g+1,lo,hi,h1,h2=>by
  unfold bsearch
  by_cases h:lo<hi
  ·rw[if_pos h,if_pos h]
   by_cases hl:lt ((lo+hi) / 2)=true
   ·rw[if_pos hl,if_pos hl];exact iT lt f g _ _ z8 z8
   ·rw[if_neg hl,if_neg hl];exact iT lt f g _ _ z8 z8
  ·rw[if_neg h,if_neg h]
theorem iU (lt:Nat->Bool) (n:Nat) (hmono:∀i j,i<=j->j<n->lt j=true->lt i=true):∀(f lo hi:Nat),hi-lo<=f->lo<=hi->hi<=n->(∀i,i<lo->lt i=true)->(∀i,hi<=i->i<n->lt i=false) ->
  bsearch lt f lo hi<=n/\(∀i,i<bsearch lt f lo hi->lt i=true)/\∀i,bsearch lt f lo hi<=i->i<n->lt i=false
 | 0,lo,hi,h,hle,hn,h1,h2=>by
  have:lo=hi:=by omega
  subst this;exact ⟨hn,h1,h2⟩
 | f+1,lo,hi,h,hle,hn,h1,h2=>by
  unfold bsearch
  by_cases hlt:lo<hi
  ·rw[if_pos hlt]
   by_cases hl:lt ((lo+hi) / 2)=true
   ·rw[if_pos hl];exact iU lt n hmono f _ _ z8 z8 hn (λi hi'=>hmono i ((lo+hi) / 2) z8 z8 hl) h2
   ·rw[if_neg hl];refine iU lt n hmono f _ _ z8 z8 z8 h1 λi hi1 hi2=>?_
    cases e:lt i with
    | false=>rfl
    | true=>exact absurd (hmono _ i hi1 hi2 e) hl
  ·rw[if_neg hlt];have:lo=hi:=by omega
   subst this;exact ⟨hn,h1,h2⟩
theorem lf (lt:Nat->Bool):∀(f lo hi:Nat),lo<=hi->lo<=bsearch lt f lo hi/\bsearch lt f lo hi<=hi
 | 0,lo,hi,h=>⟨YA _,h⟩
 | f+1,lo,hi,h=>by
  unfold bsearch
  by_cases hlt:lo<hi
  ·rw[if_pos hlt];split
   ·have:=lf lt f ((lo+hi) / 2+1) hi z8;omega
   ·have:=lf lt f lo ((lo+hi) / 2) z8;omega
  ·rw[if_neg hlt];omega
def placeOf (l:List Node) (fid:Int):Nat:=bsearch (λi=>decide ((l.getD i default).fid<fid)) l.length 0 l.length
def bf (l:List Node) (fid:Int):Bool:=decide (placeOf l fid<l.length)&&decide ((l.getD (placeOf l fid) default).fid=fid)
def ak (l:List Node) (fid:Int):Option Node:=if bf l fid then some (l.getD (placeOf l fid) default) else none
def aJ (l:List Node) (n:Node):List Node:=if bf l n.fid then l.set (placeOf l n.fid) n else l.take (placeOf l n.fid)++n::l.drop (placeOf l n.fid)
def eM (l:List Node) (fid:Int):List Node:=l.filter λn=>!(n.fid==fid)
theorem lN (l:List Node) (fid:Int):placeOf l fid<=l.length:=(lf _ _ _ _ (Ys _)).2
def Up (l:List Node):Prop:=l.Pairwise λa b=>a.fid<b.fid
theorem Up.lt {l:List Node} (h:Up l) {i j:Nat} (hij:i<j) (hj:j<l.length):(l.getD i default).fid<(l.getD j default).fid:=by
 have:=Yr.1 h i j z8 hj hij;rw[List.getD_eq_getElem?_getD,List.getD_eq_getElem?_getD,W3 z8,W3 hj];exact this
theorem Up.place {l:List Node} (h:Up l) (fid:Int):(∀i,i<placeOf l fid->(l.getD i default).fid<fid)/\∀i,placeOf l fid<=i->i<l.length->fid<=(l.getD i default).fid:=by
 have:=iU (λi=>decide ((l.getD i default).fid<fid)) l.length (λi j hij hj hl=>by
  rcases Nat.lt_or_eq_of_le hij with h1 | rfl
  ·have:=h.lt h1 hj;have h2:=of_decide_eq_true hl;exact decide_eq_true z8
  ·exact hl) l.length 0 l.length z8 z8 (YA _) (λi hi=>by omega) (λi h1 h2=>by omega)
 obtain ⟨_,h2,h3⟩:=this;exact ⟨λi hi=>of_decide_eq_true (h2 i hi),λi hi hl=>by have:=of_decide_eq_false (h3 i hi hl);omega⟩
theorem jW {l:List Node} {x:Node} {i:Nat} (h:l[i]? = some x):l.getD i default=x:=by rw[List.getD_eq_getElem?_getD,h];rfl
theorem ZO {l:List Node} (h:Up l) {fid:Int} {x:Node}:ak l fid=some x↔x∈l/\x.fid=fid:=by
 obtain ⟨p1,p2⟩:=h.place fid;unfold ak bf;constructor
 ·intro hf;split at hf
  ·rename_i hc;rw[Bool.and_eq_true] at hc;have h1:=of_decide_eq_true hc.1;have h2:=of_decide_eq_true hc.2;injection hf with hf
   subst hf;exact ⟨YG h1,h2⟩
  ·cases hf
 ·rintro ⟨hx,rfl⟩;obtain ⟨i,hi⟩:=YC hx;have hil:i<l.length:=(W9.1 hi).1;have hix:=jW hi;have hpi:placeOf l x.fid=i:=by
   rcases Nat.lt_trichotomy (placeOf l x.fid) i with h1 | h1 | h1
   ·have:=p2 _ (YA _) z8;have h3:=h.lt h1 hil;rw[hix] at h3;omega
   ·exact h1
   ·have:=p1 i h1;rw[hix] at this;omega
  rw[hpi,hix,if_pos (by simp[hil])]
theorem eO {l:List Node} (h:Up l) {fid:Int}:ak l fid=none↔∀x,x∈l->x.fid≠fid:=by
 constructor
 ·intro hf x hx hxf;rw[(ZO h).2 ⟨hx,hxf⟩] at hf;cases hf
 ·intro hf;cases e:ak l fid with
  | none=>rfl
  | some x=>
   obtain ⟨h1,h2⟩:=(ZO h).1 e;exact absurd h2 (hf x h1)
theorem bq {l:List Node} (h:Up l) (n:Node):Up (aJ l n)/\∀x,x∈aJ l n↔x=n\/(x∈l/\x.fid≠n.fid):=by
 obtain ⟨p1,p2⟩:=h.place n.fid;have hle:=lN l n.fid;unfold aJ;generalize hp:placeOf l n.fid=p at *;have hmem:∀x,x∈l↔x∈l.take p\/x∈l.drop p:=λx=>by
  have:=List.mem_append (a:=x) (s:=l.take p) (t:=l.drop p);rw[List.take_append_drop] at this;exact this
 have ht:∀x,x∈l.take p->x.fid<n.fid:=λx hx=>by
  obtain ⟨i,hi⟩:=YC hx;rw[YW] at hi;split at hi
  ·rename_i hip;have:=p1 i hip
   rwa [jW hi] at this
  ·cases hi
 have hd:∀x,x∈l.drop p->n.fid<=x.fid:=λx hx=>by
  obtain ⟨i,hi⟩:=YC hx;rw[List.getElem?_drop] at hi;have:=p2 (p+i) z8 (W9.1 hi).1
  rwa [jW hi] at this
 by_cases hat:bf l n.fid=true
 ·rw[if_pos hat];unfold bf at hat;rw[Bool.and_eq_true] at hat;have hpl:p<l.length:=by have:=of_decide_eq_true hat.1;omega
  have hpf:(l.getD p default).fid=n.fid:=by have:=of_decide_eq_true hat.2;rw[hp] at this;exact this
  have aF:l.set p n=l.take p++n::l.drop (p+1):=by
   rw[List.set_eq_take_append_cons_drop,if_pos hpl]
  have hdd:l.drop p=l.getD p default::l.drop (p+1):=ck hpl;have hd1:∀x,x∈l.drop (p+1)->n.fid<x.fid:=λx hx=>by
   obtain ⟨i,hi⟩:=YC hx;rw[List.getElem?_drop] at hi;have:=h.lt (i:=p) (j:=p+1+i) z8 (W9.1 hi).1;rw[jW hi,hpf] at this;exact this
  rw[aF];refine ⟨?_,λx=>?_⟩
  ·refine List.pairwise_append.2 ⟨h.sublist (List.take_sublist _ _),List.pairwise_cons.2 ⟨hd1,h.sublist (List.drop_sublist _ _)⟩,λa ha b hb=>?_⟩
   rcases List.mem_cons.1 hb with rfl | hb
   ·exact ht a ha
   ·have:=ht a ha;have:=hd1 b hb;omega
  ·rw[hmem,hdd];simp only[List.mem_append,List.mem_cons];constructor
   ·rintro (h1 | h1 | h1)
    ·exact .inr ⟨.inl h1,by have:=ht x h1;omega⟩
    ·exact .inl h1
    ·exact .inr ⟨.inr (.inr h1),by have:=hd1 x h1;omega⟩
   ·rintro (h1 | ⟨h1 | rfl | h1,h2⟩)
    ·exact .inr (.inl h1)
    ·exact .inl h1
    ·exact absurd hpf h2
    ·exact .inr (.inr h1)
 ·rw[if_neg hat];have hd1:∀x,x∈l.drop p->n.fid<x.fid:=λx hx=>by
   obtain ⟨i,hi⟩:=YC hx;rw[List.getElem?_drop] at hi;have hil:p+i<l.length:=(W9.1 hi).1;have h0:¬(l.getD p default).fid=n.fid:=by
    intro e
    apply hat
    unfold bf;rw[hp,Bool.and_eq_true];exact ⟨decide_eq_true z8,decide_eq_true e⟩
   have h1:=p2 p (YA _) z8
   by_cases hi0:i=0
   ·subst hi0;rw[Nat.add_zero] at hi;rw[jW hi] at h0 h1;omega
   ·have:=h.lt (i:=p) (j:=p+i) z8 hil;rw[jW hi] at this;omega
  refine ⟨?_,λx=>?_⟩
  ·refine List.pairwise_append.2 ⟨h.sublist (List.take_sublist _ _),List.pairwise_cons.2 ⟨hd1,h.sublist (List.drop_sublist _ _)⟩,λa ha b hb=>?_⟩
   rcases List.mem_cons.1 hb with rfl | hb
   ·exact ht a ha
   ·have:=ht a ha;have:=hd1 b hb;omega
  ·rw[hmem];simp only[List.mem_append,List.mem_cons];constructor
   ·rintro (h1 | h1 | h1)
    ·exact .inr ⟨.inl h1,by have:=ht x h1;omega⟩
    ·exact .inl h1
    ·exact .inr ⟨.inr h1,by have:=hd1 x h1;omega⟩
   ·rintro (h1 | ⟨h1 | h1,h2⟩)
    ·exact .inr (.inl h1)
    ·exact .inl h1
    ·exact .inr (.inr h1)
theorem il {l:List Node} (h:Up l) (fid:Int):Up (eM l fid)/\∀x,x∈eM l fid↔x∈l/\x.fid≠fid:=
 ⟨h.sublist Y4,λx=>by unfold eM;rw[YL];simp⟩
theorem BS {l:List Node} (h:Up l) (n:Node):ak (aJ l n) n.fid=some n:=by
 obtain ⟨h1,h2⟩:=bq h n;exact (ZO h1).2 ⟨(h2 n).2 (.inl rfl),rfl⟩
theorem BT {l:List Node} (h:Up l) (n:Node) {other:Int} (ho:other≠n.fid):ak l other=ak (aJ l n) other:=by
 obtain ⟨h1,h2⟩:=bq h n;cases e:ak l other with
 | none=>
  symm
  rw[eO h1];intro x hx
  rcases (h2 x).1 hx with rfl | ⟨hx,_⟩
  ·exact Ne.symm ho
  ·exact (eO h).1 e x hx
 | some x=>
  obtain ⟨k1,k2⟩:=(ZO h).1 e
  symm
  exact (ZO h1).2 ⟨(h2 x).2 (.inr ⟨k1,by rw[k2];exact ho⟩),k2⟩
end La
namespace Go.Eng
section
variable {P:Program} {T:Tab} {C:Ctx} {σ σ':St} {Ret:St->Prop} {k:List It}
theorem C_:∀H,sub [] H=[]
 | []=>rfl
 | p::r=>by simp[sub,C_ r]
theorem CG:∀H,del [] H=H
 | []=>rfl
 | p::r=>by simp[del,CG r]
theorem DN (l:List AV):l.map (iP [])=l:=by
 have:iP []=id:=by funext x;simp[iP]
 rw[this,List.map_id]
theorem g_ {ops:Array Oper} {Q:Exit->Act->World->Prop} {k n:Nat} {acc:dw} {o:Oper} {l:List Oper} {c:Operand} {args:Array Operand} {ats:Array TypeId} (off:Nat) (ho:o.op=.call { callee:=.value c,args,argTypes:=ats }) (hg:o.guard=none) {p:Prop} {f:FuncId} {xs:List AV}
  (h:ax σ c args.toList=some (p,f,xs)) (hp:p) (hc:aH P f) (hx:aA xs=[]) {K:List (Nat×Blk)} {r:AV} (hf:ai P f xs [] λr' H'=>r'=r/\∀id b,aa K id=some b->aa H' id=some b) (hc3:closed K (refs r)=true)
  {r2:AV} (hr:ren off r=r2) {K2:List (Nat×Blk)} (hK:sh off K=K2) (hn:(K2.all λb=>(aa σ.hp b.1).isNone)=true)
  {sk:List Loc×List Loc} (hs:((Sp.mk o.dst r2 K2 (bW ops o.guard++(fT σ c++aQ σ args.toList))).wr,bW ops o.guard++(fT σ c++aQ σ args.toList))=sk)
  (ha:St.put ⟨σ.tm,K2++σ.hp⟩ o.dst r2=σ') (hk:al P C ops Q k n (acc++[sk]) l σ'):al P C ops Q k n acc (o::l) σ:=by
 subst hr hK;refine pS (q:=⟨o.dst,ren off r,sh off K,bW ops o.guard++(fT σ c++aQ σ args.toList)⟩) ?_ (λb hb _=>?_) (by rw[<-hs]) (by rw[<-ha];rfl) hk
 ·intro s hagree hfree a w Kp Q' hr hKp;have hg':guardOf ops s o.guard=some true:=by rw[hg];rfl
  obtain ⟨μ,S,hi⟩:=hr;rw[bk hi hg'];refine .inl ?_;refine uM ho (by rw[dI (λx hx=>hagree x (YI _ hx))];exact h) hp hc [] off (H:=[]) (K:=K) (r:=r) (C_ _) (by rw[hx];rfl) rfl w8 hc3 ?_ hf ?_ a w Kp Q' ⟨μ,S,hi⟩ hKp
  ·rw[List.all_eq_true];intro q hq;have hm:(q.1+off,BW off q.2)∈sh off K:=W8.2 ⟨q,hq,rfl⟩;have h0:aa s.hp (q.1+off)=none:=by
    by_cases h:Loc.blk (q.1+off)∈bW ops o.guard++(fT σ c++aQ σ args.toList)
    ·have h1:=List.all_eq_true.1 hn _ hm;have h2:aa σ.hp (q.1+off)=none:=by simpa using h1
     exact (hagree _ h).trans h2
    ·exact hfree _ hm h
   rw[h0];rfl
  ·rw[DN,CG];rfl
 ·have:=List.all_eq_true.1 hn b hb;simpa using this
theorem le_empty (id e s:Nat) (hf:aa σ.hp id=none):Le C σ ⟨σ.tm,(id,.cells e s [])::σ.hp⟩:=by
 rintro a w ⟨μ,S,hi⟩;refine ⟨μ,S,hi.size,hi.defers,hi.tm,λi b hb=>?_,λi q hq=>?_,hi.inj,hi.frm,hi.sb⟩
 ·simp only[aa] at hb;split at hb
  ·rename_i h1;injection hb with hb
   subst h1 hb;exact .inl ⟨rfl,hi.fresh hf⟩
  ·exact hi.hp i b hb
 ·obtain ⟨⟨b,h1⟩,h2⟩:=hi.dom i q hq;refine ⟨?_,h2⟩;simp only[aa];split
  ·exact ⟨_,rfl⟩
  ·exact ⟨b,h1⟩
theorem aX (ref id:Nat) {e s:Nat} {rows rows':List (List AV)} (hb:aa σ.hp id=some (.cells e s rows)) (hr:rows.map (λrow=>row.map (kill ref))=rows'):Le C σ ⟨σ.tm,aF σ.hp id (.cells e s rows')⟩:=by
 subst hr;rintro a w ⟨μ,S,hi⟩;refine ⟨μ,S,hi.size,hi.defers,hi.tm,λi b hb'=>?_,λi q hq=>?_,hi.inj,hi.frm,hi.sb⟩
 ·simp only[aj] at hb';split at hb'
  ·rename_i h1;injection hb' with hb'
   subst h1 hb'
   rcases hi.hp id _ hb with ⟨rfl,k2⟩ | ⟨g,c,k1,k2,k3,k4,k5⟩
   ·exact .inl ⟨by simp,k2⟩
   ·refine .inr ⟨g,c,k1,k2,by rw[List.length_map];exact k3,λrow hrow=>?_,λi row hi' q x hx=>?_⟩
    ·obtain ⟨r0,h0,rfl⟩:=W8.1 hrow;rw[List.length_map];exact k4 r0 h0
    ·rw[W5] at hi';cases e0:rows[i]? with
     | none=>rw[e0] at hi';cases hi'
     | some r0=>
      rw[e0] at hi';simp only[Option.map_some,gL] at hi';subst hi';rw[W5] at hx;cases e1:r0[q]? with
      | none=>rw[e1] at hx;cases hx
      | some y=>
       rw[e1] at hx;simp only[Option.map_some,gL] at hx;subst hx;unfold kill;split
       ·exact .any _
       ·exact k5 i r0 e0 q y e1
  ·exact hi.hp i b hb'
 ·obtain ⟨⟨b,h1⟩,h2⟩:=hi.dom i q hq;refine ⟨?_,h2⟩;simp only[aj];split
  ·exact ⟨_,rfl⟩
  ·exact ⟨b,h1⟩
theorem ai.iZ {f:FuncId} {args:List AV} {H:List (Nat×Blk)} {X Y:AV} (h:ai P f args H λr _=>r=X) (hn:Eng.nrm X=Y):ai P f args H λr _=>r=Y:=by
 subst hn;intro R0 μ w0 vs hl ha hH hR;refine (h R0 μ w0 vs hl ha hH hR).mono ?_;rintro e' w' ⟨v,r,H',μ',S',rfl,rfl,h4,h5⟩;exact ⟨v,_,H',μ',S',rfl,rfl,h4.nrm,h5⟩
structure Sim (σ τ:St):Prop where
 tm:σ.tm=τ.tm
 hp:∀id,aa σ.hp id=aa τ.hp id
theorem Sim.app {σ τ:St} (h:Sim σ τ) (p:Sp):Sim (p.app σ) (p.app τ):=by
 refine ⟨?_,λid=>?_⟩
 ·unfold Sp.app St.put;cases p.dst<;>simp[h.tm]
 ·unfold Sp.app;rw[St.gY,St.gY]
  show aa (p.new++σ.hp) id=aa (p.new++τ.hp) id
  rw[az,az,h.hp id]
theorem Sim.cX {σ τ:St}:∀(ps:List Sp),Sim σ τ->Sim (Eng.cX ps σ) (Eng.cX ps τ):=λps=>by
 induction ps generalizing σ τ with
 | nil=>exact id
 | cons p r ih=>exact λh=>ih (h.app p)
theorem Sim.agree {σ τ s:St} (h:Sim σ τ) {x:Loc} (hx:bn σ s x):bn τ s x:=by
 cases x with
 | tm t=>show _=_;rw[<-h.tm];exact hx
 | blk id=>show _=_;rw[<-h.hp];exact hx
theorem Sim.rob {σ τ:St} (h:Sim σ τ) {ops:Array Oper} {o:Oper} {p:Sp} (hr:Rob P C ops o p τ):Rob P C ops o p σ:=λs ha hf=>hr s (λx hx=>h.agree (ha x hx)) hf
theorem Sim.chain {ops:Array Oper}:∀(l:List Oper) (ps:List Sp) {σ τ:St},Sim σ τ->dG P C ops l ps τ->dG P C ops l ps σ
 | [],[],_,_,_,h=>h
 | _::l,p::ps,_,_,h,hr=>⟨h.rob hr.1,Sim.chain l ps (h.app p) hr.2⟩
 | [],_::_,_,_,_,h=>h
 | _::_,[],_,_,_,h=>h
theorem Sim.fresh:∀(ps:List Sp) {σ τ:St},Sim σ τ->dq ps τ->dq ps σ
 | [],_,_,_,h=>h
 | p::ps,_,_,h,hf=>⟨λb hb hn=>by rw[h.hp];exact hf.1 b hb hn,Sim.fresh ps (h.app p) hf.2⟩
theorem bp.sim {ops:Array Oper} {Q:Exit->Act->World->Prop} {k:Nat} {σ τ:St} (h:Sim σ τ) (hd:bp P C ops Q k τ):bp P C ops Q k σ:=λa w hr=>
 hd a w (jF (by rw[h.tm]) (λt=>by rw[h.tm]) h.hp a w hr)
theorem al.sim {ops:Array Oper} {Q:Exit->Act->World->Prop} {k n:Nat} {acc:dw} {l:List Oper} {σ τ:St} (h:Sim σ τ) (hs:al P C ops Q k n acc l τ):al P C ops Q k n acc l σ:=by
 obtain ⟨l1,l2,ps,h1,h2,h3,h4,h5,h6⟩:=hs;exact ⟨l1,l2,ps,h1,h2,h.chain _ _ h3,h.fresh _ h4,h5,bp.sim (h.cX ps) h6⟩
theorem ej (hT:TabOK P T) {ops:Array Oper} {Q:Exit->Act->World->Prop} {k n:Nat} {acc:dw} {o:Oper} {l:List Oper} {t:TypeId} {x y:Operand} (ho:o.op=.store t x y) (hd:o.dst=none) (hg:guardOf ops σ o.guard=some true) {id size row off:Nat} (hx:evS σ x=(True,.ptr id size row off))
  {q:Prop} {v:AV} (hy:evS σ y=(q,v)) (hq:q) {p:Prop} {H:List (Nat×Blk)} (h:gp T σ t (.ptr id size row off) v=some (p,H)) (hp:p) {b:Blk} (hH:aa H id=some b)
  {sk:List Loc×List Loc} (hs:([Loc.blk id],bW ops o.guard++(aQ σ [x,y]++[Loc.blk id]))=sk) (ha:(⟨σ.tm,aF σ.hp id b⟩:St)=σ') (hk:al P C ops Q k n (acc++[sk]) l σ'):al P C ops Q k n acc (o::l) σ:=by
 subst hs ha;have hform:H=aF σ.hp id b:=by
  unfold gp at h;split at h
  ·rename_i id' size' row' off' xs heq1 heq2;injection heq1 with e1 e2 e3 e4
   subst e1 e2 e3 e4;split at h
   ·split at h
    ·simp only[gL,gM] at h;obtain ⟨_,rfl⟩:=h;rw[aj,if_pos rfl] at hH;injection hH with hH
     rw[hH]
    ·cases h
   ·cases h
  ·cases h
 refine pS (q:=⟨none,.any,[(id,b)],bW ops o.guard++(aQ σ [x,y]++[Loc.blk id])⟩) (σ':=Sp.app ⟨none,.any,[(id,b)],bW ops o.guard++(aQ σ [x,y]++[Loc.blk id])⟩ σ) ?_ (λc hc hn=>?_) rfl rfl ?_
 ·intro s hagree _ a w K Q' hr hK;have hg':guardOf ops s o.guard=some true:=by rw[iu (λx hx=>hagree x (YS _ hx))];exact hg
  obtain ⟨μ,S,hi⟩:=hr;rw[bk hi hg'];refine .inl ?_;have hl:∀z,z∈aQ σ [x,y]->bn σ s z:=λz hz=>hagree z (YI _ (YS _ hz))
  have hx':evS s x=(True,.ptr id size row off):=by rw[cm (λz hz=>hl z (dc w8 z hz))];exact hx
  have hy':evS s y=(q,v):=by rw[cm (λz hz=>hl z (dc w8 z hz))];exact hy
  have hb:aa s.hp id=aa σ.hp id:=hagree (.blk id) (YI _ (YI _ w8));have hst:gp T s t (.ptr id size row off) v=some (p,aF s.hp id b):=by
   unfold gp at h ⊢;split at h
   ·rename_i id' size' row' off' xs heq1 heq2;injection heq1 with e1 e2 e3 e4
    subst e1 e2 e3 e4;rw[hb];split at h
    ·split at h
     ·simp only[gL,gM] at h;obtain ⟨rfl,rfl⟩:=h;rw[aj,if_pos rfl] at hH;injection hH with hH
      subst hH;rw[if_pos (by assumption)]
     ·cases h
    ·cases h
   ·cases h
  have hstep:ey T s o.dst o.op=some ((evS s x).1/\(evS s y).1/\p,⟨s.tm,aF s.hp id b⟩):=by
   rw[ho,hd]
   show (gp T s t (evS s x).2 (evS s y).2).map _=_
   rw[hx',hy',hst];rfl
  have hnd:(St.mk s.tm (aF s.hp id b)).hp=aF s.hp id b:=rfl;refine ch hT o hstep ⟨by rw[hx'];trivial,by rw[hy'];exact hq,hp⟩ a w K Q' ⟨μ,S,hi⟩ λa' w' hr'=>hK a' w' ?_
  show Rel C ⟨s.tm,(id,b)::s.hp⟩ a' w'
  refine jF (s:=⟨s.tm,aF s.hp id b⟩) (s':=⟨s.tm,(id,b)::s.hp⟩) rfl (λt=>rfl) (λi=>?_) a' w' hr'
  show aa (aF s.hp id b) i=aa ((id,b)::s.hp) i
  rw[aj];rfl
 ·have hc':=List.mem_singleton.1 hc;subst hc';exact absurd (YI _ (YI _ w8)) hn
 ·refine al.sim (τ:=⟨σ.tm,aF σ.hp id b⟩) ⟨rfl,λi=>?_⟩ hk
  show aa ((id,b)::σ.hp) i=aa (aF σ.hp id b) i
  rw[aj];rfl
end
end Go.Eng
namespace Go.Eng
section
variable {P:Program} {T:Tab} {C:Ctx} {μ:Nat->Option Nat} {S:Nat->Prop} {σ σ':St} {a:Act} {w:World} {Ret:St->Prop} {k:List It}
def eqT (T:Tab):List TypeId->List AV->List AV->Option Bool
 | [],[],[]=>some true
 | t::ts,.int k x::a,.int k' y::b=>match T.und t with
  | .int _=>if k=k' then (eqT T ts a b).map λr=>x==y&&r else none
  | _=>none
 | t::ts,.bool x::a,.bool y::b=>match T.und t with
  | .bool=>(eqT T ts a b).map λr=>x==y&&r
  | _=>none
 | t::ts,.str x::a,.str y::b=>match T.und t with
  | .str=>(eqT T ts a b).map λr=>x==y&&r
  | _=>none
 | _,_,_=>none
def jh:List Field->Nat->List TypeId->Bool
 | [],_,[]=>true
 | f::fs,j,t::ts=>f.name != "_" && f.offset==j&&f.type==t&&jh fs (j+1) ts
 | _,_,_=>false
def tC (P:Program) (t:TypeId) (tys:List TypeId):Bool:=
 match P.underlying t with
 | some (.struct F)=>!P.stoodInHeld t&&!P.eqGuardType P.depth t&&jh F.toList 0 tys
 | _=>false
theorem yb (hT:TabOK P T) {xs ys:Array Value} {A B:List AV} (hsx:xs.size=A.length) (hsy:ys.size=B.length) (hx:∀j x,A[j]? = some x->Rd μ S w (xs.getD j undef) x) (hy:∀j x,B[j]? = some x->Rd μ S w (ys.getD j undef) x) (d:Nat) :
  ∀(fs:List Field) (j:Nat) (ts:List TypeId) (r:Bool),jh fs j ts=true->eqT T ts (A.drop j) (B.drop j)=some r->(Op.eqFields (d+1) xs ys fs).run P w=.ok r w:=by
 intro fs
 induction fs with
 | nil=>
  intro j ts r h he;cases ts with
  | nil=>
   cases hA:A.drop j<;>cases hB:B.drop j<;>rw[hA,hB] at he<;>simp only[eqT,gL,reduceCtorEq] at he;subst he;simp[Op.eqFields]
  | cons t ts=>simp[jh] at h
 | cons f fs ih=>
  intro j ts r h he;cases ts with
  | nil=>simp[jh] at h
  | cons t ts=>
   simp only[jh,Bool.and_eq_true,bne_iff_ne,ne_eq,beq_iff_eq] at h;obtain ⟨⟨⟨h1,h2⟩,h3⟩,h4⟩:=h;subst h2 h3;cases hA:A.drop f.offset with
   | nil=>rw[hA] at he;cases hB:B.drop f.offset<;>rw[hB] at he<;>simp[eqT] at he
   | cons p A'=>
    cases hB:B.drop f.offset with
    | nil=>rw[hA,hB] at he;cases p<;>simp[eqT] at he
    | cons q B'=>
     have hA1:A[f.offset]? = some p:=by have:=congrArg (λl=>l[0]?) hA;simpa using this
     have hB1:B[f.offset]? = some q:=by have:=congrArg (λl=>l[0]?) hB;simpa using this
     have hA2:A.drop (f.offset+1)=A':=by rw[<-List.drop_drop,hA];rfl
     have hB2:B.drop (f.offset+1)=B':=by rw[<-List.drop_drop,hB];rfl
     have hAl:f.offset<A.length:=(W9.1 hA1).1;have hBl:f.offset<B.length:=(W9.1 hB1).1;have hpx:∀b,(T.und f.type).isA=some b->b=false->(part f.type xs f.offset).run P w=.ok (xs.getD f.offset undef) w:=λb hb hf=>by
      subst hf;simp[part,kI hT hb,hsx,hAl,Array.getD_eq_getD_getElem?]
     have hpy:∀b,(T.und f.type).isA=some b->b=false->(part f.type ys f.offset).run P w=.ok (ys.getD f.offset undef) w:=λb hb hf=>by
      subst hf;simp[part,kI hT hb,hsy,hBl,Array.getD_eq_getD_getElem?]
     have rx:=hx _ _ hA1;have ry:=hy _ _ hB1;have hk:=hT.und f.type;have ih':=λr' he'=>ih (f.offset+1) ts r' h4 he'
     rw[hA2,hB2] at ih';rw[hA,hB] at he;cases hu:T.und f.type<;>rw[hu] at hk<;>cases p<;>cases q<;>simp only[eqT,hu,reduceCtorEq] at he
     ·obtain ⟨r0,h0,rfl⟩:=YX.1 he;have e1:=rx.eQ;have e2:=ry.eQ;simp only[Op.eqFields,h1,not_false_eq_true,if_true,ne_eq,Sem.run_bind,hpx false Wc rfl,hpy false Wc rfl,Result.andThen_ok,e1,e2,run_equalIn_bool' w d f.type _ _ hk];rename_i b1 b2;cases hb:(b1==b2)
      ·simp
      ·simp[ih' r0 h0]
     ·split at he
      ·rename_i hkk;obtain ⟨r0,h0,rfl⟩:=YX.1 he;have e1:=rx.aL;have e2:=ry.aL;subst hkk;simp only[Op.eqFields,h1,not_false_eq_true,if_true,ne_eq,Sem.run_bind,hpx false Wc rfl,hpy false Wc rfl,Result.andThen_ok,e1,e2,run_equalIn_int w d f.type _ _ _ _ hk];rename_i b1 b2;cases hb:(b1==b2)
       ·simp
       ·simp[ih' r0 h0]
      ·cases he
     ·obtain ⟨r0,h0,rfl⟩:=YX.1 he;obtain ⟨s1,e1,q1⟩:=rx.fE;obtain ⟨s2,e2,q2⟩:=ry.fE;subst q1 q2;simp only[Op.eqFields,h1,not_false_eq_true,if_true,ne_eq,Sem.run_bind,hpx false Wc rfl,hpy false Wc rfl,Result.andThen_ok,e1,e2,run_equalIn_string w d f.type _ _ hk,ByteArray.toList_eq];cases hb:(s1.data.toList==s2.data.toList)
      ·simp
      ·simp[ih' r0 h0]
theorem EG (hT:TabOK P T) {t:TypeId} {tys:List TypeId} (hc:tC P t tys=true) {ox oy:Operand} {v u:Value} {A B:List AV} {r:Bool} (h:eqT T tys A B=some r) (hv:Rd μ S w v (.agg A)) (hu:Rd μ S w u (.agg B)) {op:BinOp} {q:Bool} (hop:(op=.eql/\q=r)\/(op=.neq/\q=!r)) :
  (do eqGuard op t ox oy v u;binOp op t v u:Sem Value).run P w=.ok (.bool q) w:=by
 obtain ⟨xs,rfl,hxl,hxr⟩:=hv.nC;obtain ⟨ys,rfl,hyl,hyr⟩:=hu.nC;unfold tC at hc;split at hc
 ·rename_i F hF;simp only[Bool.and_eq_true,Yo] at hc;obtain ⟨⟨h1,h2⟩,h3⟩:=hc;have hfo:P.fieldsOf t=F:=by simp[Program.fieldsOf,hF]
  have key:=yb (P:=P) (w:=w) hT hxl hyl hxr hyr 9998 F.toList 0 tys r h3 u1;have key2:(Op.equalIn 10000 t (.agg xs) (.agg ys)).run P w=.ok r w:=by
   rw[run_equalIn_struct w 9999 t xs ys (by rw[hfo];exact hF) h1,hfo];exact key
  rcases hop with ⟨rfl,rfl⟩ | ⟨rfl,rfl⟩
  ·simp[run_eqGuard_agg w .eql t ox oy xs ys h2,run_eql_struct w t xs ys,key2]
  ·simp[run_eqGuard_agg w .neq t ox oy xs ys h2,run_neq_struct w t xs ys,key2]
 ·cases hc
theorem uO (hT:TabOK P T) {o:Oper} {op:BinOp} {t ty:TypeId} {x y:Operand} (ho:o.op=.binOp op t x y ty) {tys:List TypeId} (hc:tC P t tys=true) {A B:List AV} {r:Bool} (hx:evS σ x=(True,.agg A)) (hy:evS σ y=(True,.agg B)) (h:eqT T tys A B=some r)
  {q:Bool} (hop:(op=.eql/\q=r)\/(op=.neq/\q=!r)):eK P C o σ (σ.put o.dst (.bool q)):=by
 refine dZ λμ S a w hi=>?_
 have hv:=hi.evS x u9;have hu:=hi.evS y Qi;rw[hx] at hv;rw[hy] at hu;refine ⟨.bool q,?_,.pure (.bool _)⟩;have:=EG (ox:=x) (oy:=y) hT hc h hv hu hop;simp only[execOp,ho];have e:(do eqGuard op t x y (a.eval x) (a.eval y);binOp op t (a.eval x) (a.eval y):Sem Value).run P w=.ok (.bool q) w:=this;simp only[Sem.run_bind] at e ⊢
 revert e
 generalize (eqGuard op t x y (a.eval x) (a.eval y)).run P w=z;intro e;rw[e];rfl
attribute [go_sem] eqT
end
end Go.Eng
namespace Go.Eng
section
variable {P:Program} {T:Tab} {C:Ctx} {μ:Nat->Option Nat} {S:Nat->Prop} {σ σ':St} {a:Act} {w w':World} {Ret:St->Prop} {k:List It}
end
end Go.Eng
namespace Go.Eng
section
variable {P:Program} {T:Tab} {C:Ctx} {μ:Nat->Option Nat} {S:Nat->Prop} {σ σ':St} {Ret:St->Prop} {k:List It}
def pins (ids:List Nat) (G Y N:Nat->Nat):List (Nat×Blk):=ids.map λi=>(5000+i,.pin i (G i) (Y i) (N i))
theorem gT (G Y N:Nat->Nat) (i:Nat):∀(ids:List Nat),aa (pins ids G Y N) i=if 5000<=i/\ids.contains (i-5000)=true then some (.pin (i-5000) (G (i-5000)) (Y (i-5000)) (N (i-5000))) else none
 | []=>by simp[pins,aa]
 | j::r=>by
  have ih:=gT G Y N i r;simp only[pins,List.map_cons,aa] at ih ⊢
  by_cases e:5000+j=i
  ·subst e;rw[if_pos rfl,if_pos ⟨by omega,by rw[Yp];simp⟩,Yp]
  ·rw[if_neg e,ih]
   by_cases h:5000<=i
   ·have hne:i-5000≠j:=by omega
    simp only[h,true_and,List.contains_cons];simp[hne]
   ·rw[if_neg (λhh=>h hh.1),if_neg (λhh=>h hh.1)]
theorem cY (i:Nat):∀(K H:List (Nat×Blk)),(K.map (·.1)).Nodup->aa (bP H K) i=if (aa K i).isSome=true then aa K i else aa H i
 | [],H,_=>by simp[bP,aa]
 | (j,b)::r,H,hn=>by
  simp only[List.map_cons,List.nodup_cons] at hn;simp only[bP,aa];rw[cY i r _ hn.2,aj]
  by_cases e:j=i
  ·subst e;have h0:aa r j=none:=by
    cases h:aa r j with
    | none=>rfl
    | some c=>exact absurd (W8.2 ⟨_,aP h,rfl⟩) hn.1
   simp[h0]
  ·simp[e]
def eW:Blk->Bool
 | .cells _ s rows=>!rows.isEmpty&&s != 0
 | .map _=>true
 | _=>false
theorem BR {w:World} {id:Nat} {b:Blk} (h:cJ μ S w id b) (hp:eW b=true):∃g t n,μ id=some g/\ag w g=qO t n:=by
 cases b with
 | cells e s rows=>
  simp only[eW,Bool.and_eq_true,Yo,List.isEmpty_eq_false_iff,bne_iff_ne] at hp
  rcases h with ⟨rfl,_⟩ | ⟨g,c,h1,h2,h3,_⟩
  ·exact absurd rfl hp.1
  ·refine ⟨g,e,c.size,h1,?_⟩;have hpos:0<rows.length:=by
    rcases Nat.eq_zero_or_pos rows.length with h | h
    ·exact absurd (List.eq_nil_of_length_eq_zero h) hp.1
    ·exact h
   have:0<rows.length*s:=Nat.mul_pos hpos (Nat.pos_of_ne_zero hp.2);unfold ag qO;rw[h2,if_neg z8];rfl
 | map kvs=>
  obtain ⟨g,es,clk,vals,h1,h2,_⟩:=h;refine ⟨g,0,0,h1,?_⟩;unfold ag qO;rw[h2];rfl
 | iter kvs seen=>cases hp
 | cap id s N=>cases hp
 | pin id g t n=>cases hp
theorem dY {o:Oper} {c:Operand} {args:Array Operand} {ats:Array TypeId} (ho:o.op=.call { callee:=.value c,args,argTypes:=ats }) {p:Prop} {f:FuncId} {xs:List AV}
  (h:ax σ c args.toList=some (p,f,xs)) (hp:p) (hc:aH P f) (ids:List Nat) {H K:List (Nat×Blk)} {r:AV} (hH:sub ids σ.hp=H)
  (hck:((aA xs).all ids.contains&&(refs r).all ids.contains&&ids.all (λi=>decide (i<5000)&&(aa K i).isSome)&&K.all (λq=>ids.contains q.1))=true) (hnd:(K.map (·.1)).Nodup)
  (hpin:(ids.all λi=>match aa H i with | some b=>eW b | none=>false)=true) (hc1:(H.all λq=>(av q.2).all ids.contains)=true) (hc2:(K.all λq=>(av q.2).all ids.contains)=true)
  (hf:∀G Y N:Nat->Nat,ai P f xs (H++pins ids G Y N) λr' H'=>r'=r/\∀i b,aa (K++pins ids G Y N) i=some b->aa H' i=some b) {τ:St} (hτ:(⟨σ.tm,bP σ.hp K⟩:St).put o.dst r=τ):eK P C o σ τ:=by
 subst hH hτ;simp only[Bool.and_eq_true] at hck;obtain ⟨⟨⟨hx,hr⟩,hi1⟩,hK1⟩:=hck;have hxr:∀i,i∈aA xs->ids.contains i=true:=λi h=>List.all_eq_true.1 hx i h
 have hrr:∀i,i∈refs r->ids.contains i=true:=λi h=>List.all_eq_true.1 hr i h
 have hid:∀i,ids.contains i=true->i<5000/\∃b,aa K i=some b:=λi h=>by
  have:=List.all_eq_true.1 hi1 i u1;rw[Bool.and_eq_true,decide_eq_true_eq] at this;exact ⟨this.1,Yf.1 this.2⟩
 have hKi:∀i b,aa K i=some b->ids.contains i=true:=λi b h=>List.all_eq_true.1 hK1 _ (aP h)
 intro a w Kp Q ⟨μ,S,hi⟩ hKp;obtain ⟨vs,h1,h2,h3⟩:=jg hi ho h hp hc;unfold Oper.wp;rw[h3];have hpn:∀i,∃g t n,ids.contains i=true->μ i=some g/\ag w g=qO t n:=λi=>by
  by_cases e:ids.contains i=true
  ·have:=List.all_eq_true.1 hpin i We;cases e2:aa (sub ids σ.hp) i with
   | none=>rw[e2] at this;cases this
   | some b=>
    rw[e2] at this;have e3:aa σ.hp i=some b:=by
     rw[cx,if_pos e] at e2;exact e2
    obtain ⟨g,t,n,k1,k2⟩:=BR (hi.hp i b e3) this;exact ⟨g,t,n,λ_=>⟨k1,k2⟩⟩
  ·exact ⟨0,0,0,λh=>absurd h e⟩
 let G:Nat->Nat:=λi=>Classical.choose (hpn i)
 let Y:Nat->Nat:=λi=>Classical.choose (YV (hpn i))
 let N:Nat->Nat:=λi=>Classical.choose (YV (YV (hpn i)))
 have hg:∀i,ids.contains i=true->μ i=some (G i)/\ag w (G i)=qO (Y i) (N i):=λi=>YV (YV (YV (hpn i)))
 let μc:Nat->Option Nat:=λi=>if ids.contains i then μ i else none
 have mc:∀{i g},μc i=some g->ids.contains i=true/\μ i=some g:=fun {i g} h=>by
  simp only[μc] at h;split at h
  ·exact ⟨by assumption,h⟩
  ·cases h
 have mc':∀{i},ids.contains i=true->μc i=μ i:=fun {i} h=>by simp only[μc,h,if_true]
 have mcn:∀{i},ids.contains i=false->μc i=none:=fun {i} h=>by simp only[μc,h,Bool.false_eq_true,if_false]
 have hsubk:∀i b,aa (sub ids σ.hp) i=some b->ids.contains i=true/\aa σ.hp i=some b:=λi b h=>by
  rw[cx] at h;split at h
  ·exact ⟨by assumption,h⟩
  ·cases h
 refine (hf G Y N S μc w vs h1 (λj x hj=>(h2 j x hj).less λid hid g hg=>by rw[mc' (hxr id (aW hj hid))];exact hg) ⟨λid b hb=>?_,λid g hg'=>?_,λid id' g hg hg'=>hi.inj id id' g (mc hg).2 (mc hg').2,hi.gok.sub λi g h=>⟨i,(mc h).2⟩⟩ (λb hb=>(hi.sb b hb).1)).mono ?_
 ·rw[az] at hb;split at hb
  ·obtain ⟨q1,q2⟩:=hsubk id b hb;have hall:=List.all_eq_true.1 hc1 _ (aP hb);exact (hi.hp id b q2).less (mc' q1) (λi hi' g hg=>by rw[mc' (List.all_eq_true.1 hall i hi')];exact hg)
  ·rw[gT] at hb;split at hb
   ·rename_i hc5;injection hb with hb
    subst hb;have hno:ids.contains id=false:=by
     cases e:ids.contains id with
     | false=>rfl
     | true=>have:=(hid id e).1;omega
    exact ⟨mcn hno,by rw[mc' hc5.2];exact (hg _ hc5.2).1,(hg _ hc5.2).2⟩
   ·cases hb
 ·obtain ⟨k1,k2⟩:=mc hg';obtain ⟨⟨b,j1⟩,_,j3⟩:=hi.dom id g k2;refine ⟨⟨b,?_⟩,j3⟩;rw[az,if_pos ⟨(id,b),aP Wf,rfl⟩,cx,if_pos k1];exact j1
 rintro e w' ⟨v,r',H',μ',S',rfl,⟨rfl,hKH⟩,k1,k2,k3,k4,k5⟩;have hKget:∀i b,aa K i=some b->aa H' i=some b:=λi b hb=>hKH i b (by
  rw[az,if_pos ⟨(i,b),aP hb,rfl⟩];exact hb)
 have hPget:∀i,ids.contains i=true->aa H' (5000+i)=some (.pin i (G i) (Y i) (N i)):=λi hi'=>hKH _ _ (by
  rw[az,if_neg (by
   rintro ⟨b,hb,hb2⟩;have:ids.contains b.1=true:=List.all_eq_true.1 hK1 b hb;have:=(hid _ this).1;omega),gT,if_pos ⟨by omega,by rw[Yp];exact hi'⟩,Yp])
 have hpin':∀i,ids.contains i=true->μ' i=some (G i)/\ag w' (G i)=qO (Y i) (N i):=λi hi'=>(k2.blk _ _ (hPget i hi')).2
 have hfr:Frm (λg=>∃id,μc id=some g) w w':=k3;have hS:aI S w w':=λb hb=>hfr.block b (hi.sb b hb).1 QH
 have hO:∀i g,μ i=some g->ids.contains i=false->w'.heap[g]? = w.heap[g]?:=λi g hg hn=>hfr.block g (hi.dom i g hg).2.2.2 (by
  rintro ⟨id,h⟩;obtain ⟨q1,q2⟩:=mc h;have:=hi.inj _ _ _ hg q2;subst this;rw[q1] at hn;cases hn)
 have hz:∀i g,μ i=some g->ag w' g=ag w g:=λi g hg'=>by
  cases e:ids.contains i with
  | false=>exact aN (hO i g hg' e)
  | true=>
   obtain ⟨q1,q2⟩:=hg i e;rw[hg'] at q1;injection q1 with q1
   rw[q1,(hpin' i e).2,q2]
 let S2:Nat->Prop:=λb=>S b\/S' b
 have hrd:∀{v x},Rd μ S w v x->Rd μ S2 w' v x:=λhv=>hv.mono hS (λ_ h=>.inl h) (λ_ _ h=>h) hz
 have inv:Inv C μ S2 ⟨σ.tm,bP σ.hp K⟩ a w':=by
  refine ⟨hi.size,hi.defers,λt x hx=>hrd (hi.tm t x hx),λi b hb=>?_,λi g hg'=>?_,hi.inj,hi.frm.step _ hfr (λg ⟨id,h⟩=>(hi.dom id g (mc h).2).2.1),λb hb=>?_⟩
  ·rw[cY i K σ.hp hnd] at hb;split at hb
   ·have hib:=hKi i b hb;have hB:=k2.blk i b (hKget i b hb);have hall:=List.all_eq_true.1 hc2 _ (aP hb);have h1:cJ μ S' w' i b:=hB.less (by rw[(hg i hib).1,(hpin' i hib).1]) (λj hj q hq=>by
     have hjb:=List.all_eq_true.1 hall j hj;rw[(hpin' j hjb).1] at hq;rw[(hg j hjb).1];exact hq)
    exact h1.mono (aI.refl _ _) (λ_ h=>.inr h) (λ_ _ h=>h) (λ_ _ _=>rfl) (λh=>h) (λ_ _=>rfl)
   ·rename_i hno;have hib:ids.contains i=false:=by
     cases e:ids.contains i with
     | false=>rfl
     | true=>
      obtain ⟨_,c,hc'⟩:=hid i e;rw[hc'] at hno;exact absurd rfl hno
    exact (hi.hp i b hb).mono hS (λ_ h=>.inl h) (λ_ _ h=>h) hz (λh=>h) (λg hg'=>hO i g hg' hib)
  ·obtain ⟨⟨b,j1⟩,j2,j3,j4⟩:=hi.dom i g hg';refine ⟨?_,j2,?_,Yc j4 hfr.size⟩
   ·rw[cY i K σ.hp hnd];split
    ·rename_i hs;exact Yf.1 hs
    ·exact ⟨b,j1⟩
   ·rintro (h | h)
    ·exact j3 h
    ·cases e:ids.contains i with
     | true=>
      have:=(hg i e).1;rw[hg'] at this;injection this with this
      subst this;exact (k2.dom i _ (hpin' i e).1).2.1 h
     | false=>
      rcases (k5 g h).2 with q | ⟨id,q⟩ | q
      ·exact j3 q
      ·obtain ⟨q1,q2⟩:=mc q;have:=hi.inj _ _ _ hg' q2;subst this;rw[q1] at e;cases e
      ·omega
  ·rcases hb with h | h
   ·exact ⟨Yc (hi.sb b h).1 hfr.size,(hi.sb b h).2⟩
   ·refine ⟨(k5 b h).1,?_⟩
    rcases (k5 b h).2 with q | ⟨id,q⟩ | q
    ·exact (hi.sb b q).2
    ·rcases (hi.dom id b (mc q).2).2.1 with z | z
     ·exact .inr (.inl z)
     ·exact .inr (.inr z)
    ·have:=hi.frm.size;exact .inr (.inr z8)
 refine hKp _ _ ⟨μ,S2,inv.put o.dst ?_⟩;have h1:Rd μ S' w' v r':=k1.less λi hi' g hg'=>by
  have hib:=hrr i hi';rw[(hpin' i hib).1] at hg';rw[(hg i hib).1];exact hg'
 exact h1.mono (aI.refl _ _) (λ_ h=>.inr h) (λ_ _ h=>h) (λ_ _ _=>rfl)
theorem lL {s:St} {t:TypeId}:∀{parts:List (Nat×Operand)},(∀q,q∈parts->evS s q.2=evS σ q.2)->lK T s t parts=lK T σ t parts
 | [],_=>rfl
 | (j,o)::r,h=>by
  simp only[lK];rw[h (j,o) w8,lL (λq hq=>h q (by simp[hq]))]
theorem Ex (hT:TabOK P T) {ops:Array Oper} {Q:Exit->Act->World->Prop} {k n:Nat} {acc:dw} {o:Oper} {l:List Oper} {t:TypeId} {parts:Array (Nat×Operand)} (ho:o.op=.build t parts) {b:Bool} (hg:guardOf ops σ o.guard=some b)
  {p:Prop} {x:AV} (h:fC T σ t parts.toList=some (p,x)) (hp:b=true->p) {y:AV} (hy:(bif b then x else .cnd false x)=y)
  {sk:List Loc×List Loc} (hs:((Sp.mk o.dst y [] (bW ops o.guard++aQ σ (parts.toList.map (·.2)))).wr,bW ops o.guard++aQ σ (parts.toList.map (·.2)))=sk) (ha:σ.put o.dst y=σ') (hk:al P C ops Q k n (acc++[sk]) l σ'):al P C ops Q k n acc (o::l) σ:=by
 refine ke (iB (x:=y) (rd:=aQ σ (parts.toList.map (·.2))) hg (by
  cases b
  ·exact .inr ⟨x,hy.symm⟩
  ·exact .inl rfl) (λhb s hag=>?_)) rfl (by rw[<-hs]) Zd hk
 subst hb;have hyx:x=y:=hy;subst hyx;have hb2:fC T s t parts.toList=some (p,x):=by
  rw[<-h];unfold fC;rw[lL (λq hq=>cm λz hz=>hag z (dc (W8.2 ⟨q,hq,rfl⟩) z hz))]
 refine ch hT o (p:=p) ?_ (hp rfl);rw[ho];simp only[ey,hb2,Option.map_some]
attribute [go_sem] pins eW
end
end Go.Eng
namespace Go.Eng
section
variable {P:Program} {T:Tab} {C:Ctx} {σ σ':St} {Ret:St->Prop} {k:List It} {μ:Nat->Option Nat} {S:Nat->Prop} {a:Act} {w:World}
theorem Rd.sA {v:Value} {id size off len cap:Nat} (h:Rd μ S w v (.exs id size off len cap)):∃g e n,v=.slice (some ⟨g,off*size,none⟩) len cap/\len<=cap/\μ id=some g/\ag w g=some (e,n)/\(off+cap)*size=n:=by
 cases h with
 | pure h=>cases h
 | exs _ _ _ _ _ g e n hc hg hr hn=>exact ⟨g,e,n,rfl,hc,hg,hr,hn⟩
theorem AR (hT:TabOK P T) {o:Oper} {x hi:Operand} {t e:TypeId} (ho:o.op=.slice t x none (some hi) none) (ht:T.und t=.sl e) {id s len h j N:Nat} (hx:evS σ x=(True,.osl id s 0 len)) (hh:evS σ hi=(True,.int .i64 (h:Nat)))
  (hcap:aa σ.hp j=some (.cap id s N)) (hN:h<=N) (h0:0<len) (hs:T.siz e=s) (hs0:s≠0):eK P C o σ (σ.put o.dst (.exs id s 0 h N)):=by
 refine dZ λμ S a w hi'=>?_
 have hv:=hi'.evS x u9;have hu:=hi'.evS hi Ww;rw[hx] at hv;rw[hh] at hu;obtain ⟨A,cap,hv',hc,hor⟩:=hv.bT;have hu':=hu.aL;have hty:P.underlying t=some (.slice e):=by have:=hT.und t;rw[ht] at this;exact this
 rcases hor with ⟨h1,_⟩ | ⟨g,n,m,h1,hA,h3,h4⟩
 ·omega
 ·obtain ⟨_,g',e',k1,k2⟩:=hi'.hp j _ hcap;rw[k1] at h1;injection h1 with h1;subst h1
  rw[h3] at k2;simp only[gL,gM] at k2;have hNc:0+cap=N:=Nat.eq_of_mul_eq_mul_right (Nat.pos_of_ne_zero hs0) (h4.trans k2.2);rw[Yd] at hNc;subst hNc;subst hA;have hrun:(Instr.sliceAt t (.slice (some ⟨g',0*s,none⟩) len cap) none (some (.int .i64 (h:Nat))) none).run P w=.ok (.slice (some ⟨g',0*s,none⟩) h cap) w:=by
   have hb:=fL (P:=P) (w:=w) true len cap 0 h none (some (.int .i64 (h:Nat))) (show fX none 0 0 from rfl) (show fX (some (.int .i64 (h:Nat))) len h from ⟨.i64,rfl⟩) (Ys _) z8
   by_cases hc0:cap=0
   ·subst hc0;simp[Instr.sliceAt,Instr.slice,run_underlying hty,hb,bB hT (t:=e) Q0]
   ·simp[Instr.sliceAt,Instr.slice,run_underlying hty,hb,bB hT (t:=e) Q0,hc0,Addr.add]
  refine ⟨.slice (some ⟨g',0*s,none⟩) h cap,?_,.exs id s 0 h cap g' n m z8 k1 h3 h4⟩;have e1:a.eval x=.slice (some ⟨g',0*s,none⟩) len cap:=hv';have e2:a.eval hi=.int .i64 (h:Nat):=hu';simp only[execOp,ho,e1,Option.map_none,Option.map_some,e2,Sem.run_bind,hrun];rfl
theorem vr (hT:TabOK P T) {o:Oper} {x y:Operand} {t e:TypeId} (ho:o.op=.call { callee:=.builtin .append,args:=#[x,y],argTypes:=#[t,t] }) (ht:T.und t=.sl e)
  {id s i j m N e':Nat} {R:List (List AV)} (hx:evS σ x=(True,.exs id s 0 i N)) (hy:evS σ y=(True,.osl id s j m)) (hb:aa σ.hp id=some (.cells e' s R)) (hj:j+m<=R.length) (hij:i+m<=R.length) (hN:i+m<=N)
  (hs:T.siz e=s) (hs0:s≠0) (hrl:rowsOf s R) (hlf':ec ((R.drop j).take m)=true) :
  eK P C o σ (St.put ⟨σ.tm,aF σ.hp id (.cells e' s (aY R i ((R.drop j).take m)))⟩ o.dst (.exs id s 0 (i+m) N)):=by
 subst hs;intro a w K Q ⟨μ,S,hi⟩ hK;have hv:=hi.evS x u9;have hvy:=hi.evS y Qi;rw[hx] at hv;rw[hy] at hvy;have hty:P.underlying t=some (.slice e):=by have:=hT.und t;rw[ht] at this;exact this
 obtain ⟨g,e2,n,hv',hc,hg,h3,h4⟩:=hv.sA;have hrows:((R.drop j).take m).length=m:=by simp;omega
 have hrl':rowsOf (T.siz e) ((R.drop j).take m):=λrow hr=>hrl row (Yb (YJ hr))
 obtain ⟨vs,hvs⟩:=lU hi (x:=.osl id (T.siz e) j m) (rows:=(R.drop j).take m) (size:=T.siz e) (by simp[cP,hb]) hvy hrl' (λ_ _ _ _ h=>by injection h with _ _ _ h;rw[hrows,h]);have hr:=ie (ty:=o.type) (A:=some ⟨g,0*T.siz e,none⟩) (len:=i) (cap:=N) hT hty hs0 hvs (by rw[hrows];exact hN);rw[hrows] at hr;obtain ⟨w',r1,r2⟩:=lV (P:=P) hi (off:=i) (new:=(R.drop j).take m) (vs:=vs) hb hg (by rw[hrows];exact hij) hvs.len hrl' (ra hvs hlf') (λi row hi j x hx=>hvs.rd i row hi j x hx);have hfr:(execOp a.eval o).run P w=.ok (.value (.slice (some ⟨g,0*T.siz e,none⟩) (i+m) N)) w':=by
  have e1:a.eval x=.slice (some ⟨g,0*T.siz e,none⟩) i N:=hv';simp only[Nat.zero_mul,add_plain,Yd,r1,Result.andThen_ok] at hr;simp only[Nat.zero_mul] at e1 ⊢;simp[execOp,ho,e1,resolve,invoke,builtin,hr]
 have he:evS ⟨σ.tm,aF σ.hp id (.cells e' (T.siz e) (aY R i ((R.drop j).take m)))⟩ x=evS σ x:=by cases x<;>rfl
 have hv2:=r2.evS x (by rw[he,hx];trivial);rw[he,hx] at hv2;obtain ⟨g2,e3,n2,hv3,_,hg2,h5,h6⟩:=hv2.sA;unfold Oper.wp;rw[hfr]
 show K (a.put o.dst _) _
 rw[hg] at hg2;injection hg2 with hg2;subst hg2
 exact hK _ _ ⟨μ,S,Inv.put r2 o.dst (.exs id _ 0 (i+m) N g e3 n2 hN hg h5 h6)⟩
theorem Iu (d:Nat) {id s off len e':Nat} {rows:List (List AV)} {t:Nat} (hx:σ.tm.getD t .any=.osl id s off len) (hb:aa σ.hp id=some (.cells e' s rows)) (h0:0<len) (hs:s≠0) (hf:aa σ.hp d=none)
  (h:∀N:Nat,off+len<=N->rows.length<=N->Cw P C Ret k ⟨σ.tm,(d,.cap id s N)::σ.hp⟩):Cw P C Ret k σ:=by
 intro a w ⟨μ,S,hi⟩;have hlt:t<σ.tm.length:=by
  by_cases h:t<σ.tm.length
  ·exact h
  ·rw[List.getD_eq_getElem?_getD,List.getElem?_eq_none z8] at hx;cases hx
 have hv:=hi.tm t (σ.tm.getD t .any) (by rw[List.getD_eq_getElem?_getD,W3 hlt];rfl);rw[hx] at hv;obtain ⟨A,cap,hv',hc,hor⟩:=hv.bT
 rcases hor with ⟨h1,_⟩ | ⟨g,n,m,h1,_,h3,h4⟩
 ·omega
 ·have hle:rows.length<=off+cap:=by
   rcases hi.hp id _ hb with ⟨rfl,_⟩ | ⟨g',c,k1,k2,k3,_⟩
   ·simp
   ·rw[k1] at h1;injection h1 with h1;subst h1
    rw[ag,k2] at h3;simp only[gL,gM] at h3;exact Nat.le_of_mul_le_mul_right (by rw[h4,<-h3.2];exact k3) (Nat.pos_of_ne_zero hs)
  refine h (off+cap) z8 hle a w ⟨μ,S,hi.size,hi.defers,hi.tm,λi b hb'=>?_,λi q hq=>?_,hi.inj,hi.frm,hi.sb⟩
  ·simp only[aa] at hb';split at hb'
   ·rename_i hd;injection hb' with hb'
    subst hd hb';exact ⟨hi.fresh hf,g,n,h1,by rw[h3,h4]⟩
   ·exact hi.hp i b hb'
  ·obtain ⟨⟨b,h1⟩,h2⟩:=hi.dom i q hq;refine ⟨?_,h2⟩;simp only[aa];split
   ·exact ⟨_,rfl⟩
   ·exact ⟨b,h1⟩
theorem AQ (hT:TabOK P T) {o:Oper} {x lo hi mx:Operand} {t e:TypeId} (ho:o.op=.slice t x (some lo) (some hi) (some mx)) (ht:T.und t=.sl e) {id s off len l h m:Nat} (hx:evS σ x=(True,.osl id s off len))
  (hl:evS σ lo=(True,.int .i64 (l:Nat))) (hh:evS σ hi=(True,.int .i64 (h:Nat))) (hm:evS σ mx=(True,.int .i64 (m:Nat))) (h1:l<=h) (h2:h<=m) (h3:m<=len) (h0:0<len) (hs:T.siz e=s) (hs0:s≠0):eK P C o σ (σ.put o.dst .any):=by
 refine dZ λμ S a w hi'=>?_
 have hv:=hi'.evS x u9;have hu1:=hi'.evS lo (by rw[hl];trivial);have hu2:=hi'.evS hi Ww;have hu3:=hi'.evS mx (by rw[hm];trivial);rw[hx] at hv;rw[hl] at hu1;rw[hh] at hu2;rw[hm] at hu3;obtain ⟨A,cap,hv',hc,hor⟩:=hv.bT;have hty:P.underlying t=some (.slice e):=by have:=hT.und t;rw[ht] at this;exact this
 rcases hor with ⟨h1,_⟩ | ⟨g,n,m',k1,hA,k3,k4⟩
 ·omega
 ·subst hA;have hb:(Instr.sliceBounds true len cap (some (.int .i64 (l:Nat))) (some (.int .i64 (h:Nat))) (some (.int .i64 (m:Nat)))).run P w=.ok (l,h,m) w:=by
   simp[Instr.sliceBounds,Instr.sliceBound,asIntOf,h1,h2,show m<=cap by omega]
  have e1:a.eval x=.slice (some ⟨g,off*s,none⟩) len cap:=hv';have e2:a.eval lo=.int .i64 (l:Nat):=hu1.aL;have e3:a.eval hi=.int .i64 (h:Nat):=hu2.aL;have e4:a.eval mx=.int .i64 (m:Nat):=hu3.aL
  by_cases hml:m=l
  ·subst hml;exact ⟨.slice (some ⟨g,off*s,none⟩) (h-m) (m-m),by simp[execOp,ho,e1,e2,e3,e4,Instr.sliceAt,Instr.slice,run_underlying hty,hb,bB hT (t:=e) Q0],.any _⟩
  ·exact ⟨.slice (some (Addr.add ⟨g,off*s,none⟩ (l*T.siz e))) (h-l) (m-l),by simp[execOp,ho,e1,e2,e3,e4,Instr.sliceAt,Instr.slice,run_underlying hty,hb,bB hT (t:=e) Q0,hml],.any _⟩
theorem B9 (hT:TabOK P T) {ops:Array Oper} {Q:Exit->Act->World->Prop} {k n:Nat} {acc:dw} {o:Oper} {L:List Oper} {x hi:Operand} {t e:TypeId} (ho:o.op=.slice t x none (some hi) none) (hgd:o.guard=none) (ht:T.und t=.sl e) {id s len h j N:Nat}
  (hx:evS σ x=(True,.osl id s 0 len)) (hh:evS σ hi=(True,.int .i64 (h:Nat))) (hcap:aa σ.hp j=some (.cap id s N)) (hN:h<=N) (h0:0<len) (hs:T.siz e=s) (hs0:s≠0)
  {sk:List Loc×List Loc} (hsk:((Sp.mk o.dst (.exs id s 0 h N) [] (aQ σ [x,hi]++[Loc.blk j])).wr,aQ σ [x,hi]++[Loc.blk j])=sk) (ha:σ.put o.dst (.exs id s 0 h N)=σ') (hk:al P C ops Q k n (acc++[sk]) L σ'):al P C ops Q k n acc (o::L) σ:=by
 have hgd':guardOf ops σ o.guard=some true:=by rw[hgd];rfl
 have key:=iB (P:=P) (C:=C) (o:=o) (ops:=ops) (x:=.exs id s 0 h N) (rd:=aQ σ [x,hi]++[Loc.blk j]) hgd' (.inl rfl) (λ_ s' hag=>by
  have h1:evS s' x=evS σ x:=cm λz hz=>hag z (by simp[aQ,hz])
  have h2:evS s' hi=evS σ hi:=cm λz hz=>hag z (by simp[aQ,hz])
  have h3:aa s'.hp j=aa σ.hp j:=hag (Loc.blk j) w8;exact AR hT ho ht (h1.trans hx) (h2.trans hh) (h3.trans hcap) hN h0 hs hs0)
 have e0:bW ops o.guard=[]:=by rw[hgd];rfl
 rw[e0,List.nil_append] at key;exact ke key rfl (by rw[<-hsk]) Zd hk
theorem yl (hT:TabOK P T) {o:Oper} {x lo hi:Operand} {t e:TypeId} (ho:o.op=.slice t x (some lo) (some hi) none) (ht:T.und t=.sl e) {id s len cap l h:Nat} (hx:evS σ x=(True,.exs id s 0 len cap)) (hl:evS σ lo=(True,.int .i64 (l:Nat))) (hh:evS σ hi=(True,.int .i64 (h:Nat)))
  (h1:l<h) (h2:h<=cap) (hs:T.siz e=s) (hs0:s≠0):eK P C o σ (σ.put o.dst (.osl id s l (h-l))):=by
 refine dZ λμ S a w hi'=>?_
 have hv:=hi'.evS x u9;have hu1:=hi'.evS lo (by rw[hl];trivial);have hu2:=hi'.evS hi Ww;rw[hx] at hv;rw[hl] at hu1;rw[hh] at hu2;obtain ⟨g,n,m,hv',hc,k1,k3,k4⟩:=hv.sA;have hty:P.underlying t=some (.slice e):=by have:=hT.und t;rw[ht] at this;exact this
 have hb:=fL (P:=P) (w:=w) true len cap l h (some (.int .i64 (l:Nat))) (some (.int .i64 (h:Nat))) (show fX (some (.int .i64 (l:Nat))) 0 l from ⟨.i64,rfl⟩) (show fX (some (.int .i64 (h:Nat))) len h from ⟨.i64,rfl⟩) z8 h2;have e1:a.eval x=.slice (some ⟨g,0*s,none⟩) len cap:=hv';have e2:a.eval lo=.int .i64 (l:Nat):=hu1.aL;have e3:a.eval hi=.int .i64 (h:Nat):=hu2.aL;have hcl:cap≠l:=by omega
 refine ⟨.slice (some (Addr.add ⟨g,0*s,none⟩ (l*s))) (h-l) (cap-l),by simp[execOp,ho,e1,e2,e3,Instr.sliceAt,Instr.slice,run_underlying hty,hb,bB hT (t:=e) Q0,hs,hcl],?_⟩;refine .osl id s l (h-l) (cap-l) _ z8 (.inr ⟨g,n,m,k1,by rw[add_plain,Nat.zero_mul,Yd],k3,?_⟩);rw[<-k4]
 congr 1;omega
theorem G4 {o:Oper} {x y:Operand} {ts:Array TypeId} (ho:o.op=.call { callee:=.builtin .max,args:=#[x,y],argTypes:=ts }) {k k':IntKind} {n m:Int} (hx:evS σ x=(True,.int k n)) (hy:evS σ y=(True,.int k' m)) :
  eK P C o σ (σ.put o.dst (.int k (if m>n then m else n))):=by
 refine dZ λμ S a w hi'=>?_
 have hv:=hi'.evS x u9;have hu:=hi'.evS y Qi;rw[hx] at hv;rw[hy] at hu;have e1:a.eval x=.int k n:=hv.aL;have e2:a.eval y=.int k' m:=hu.aL;exact ⟨_,by simp[execOp,ho,e1,e2,resolve,invoke,builtin,run_max_int2],.pure (.int _ _)⟩
theorem yd {ops:Array Oper} {Q:Exit->Act->World->Prop} {k n:Nat} {acc:dw} {o:Oper} {L:List Oper} {x y:Operand} {ts:Array TypeId} (ho:o.op=.call { callee:=.builtin .max,args:=#[x,y],argTypes:=ts }) (hgd:o.guard=none) {q q':IntKind} {u v:Int}
  (hx:evS σ x=(True,.int q u)) (hy:evS σ y=(True,.int q' v))
  {sk:List Loc×List Loc} (hsk:((Sp.mk o.dst (.int q (if v>u then v else u)) [] (aQ σ [x,y])).wr,aQ σ [x,y])=sk) (ha:σ.put o.dst (.int q (if v>u then v else u))=σ') (hk:al P C ops Q k n (acc++[sk]) L σ'):al P C ops Q k n acc (o::L) σ:=by
 have hgd':guardOf ops σ o.guard=some true:=by rw[hgd];rfl
 have key:=iB (P:=P) (C:=C) (o:=o) (ops:=ops) (x:=.int q (if v>u then v else u)) (rd:=aQ σ [x,y]) hgd' (.inl rfl) (λ_ s' hag=>by
  have h1:evS s' x=evS σ x:=cm λz hz=>hag z (by simp[aQ,hz])
  have h2:evS s' y=evS σ y:=cm λz hz=>hag z (by simp[aQ,hz])
  exact G4 ho (h1.trans hx) (h2.trans hy))
 have e0:bW ops o.guard=[]:=by rw[hgd];rfl
 rw[e0,List.nil_append] at key;exact ke key rfl (by rw[<-hsk]) Zd hk
theorem F6 (t:Nat) {id s off len cap:Nat} (h:σ.tm.getD t .any=.exs id s off len cap):Le C σ ⟨σ.tm.set t (.osl id s off len),σ.hp⟩:=by
 intro a w ⟨μ,S,hi⟩;refine ⟨μ,S,by simpa using hi.size,hi.defers,λu x hx=>?_,hi.hp,hi.dom,hi.inj,hi.frm,hi.sb⟩;rw[YP] at hx;split at hx
 ·rename_i e;subst e;split at hx
  ·rename_i hlt;injection hx with hx
   subst hx;have:=hi.tm t (σ.tm.getD t .any) (by rw[List.getD_eq_getElem?_getD,W3 hlt];rfl);rw[h] at this;obtain ⟨g,e,n,h1,h2,h3,h4,h5⟩:=this.sA;rw[h1];exact .osl id s off len cap _ h2 (.inr ⟨g,e,n,h3,rfl,h4,h5⟩)
  ·cases hx
 ·exact hi.tm u x hx
end
end Go.Eng
namespace Go.Eng
def pM (f:Nat->Nat) (e:Edge):Edge:=⟨f e.on,e.ground⟩
section
variable {P:Program} {C:Ctx} {σ σ':St}
def xc (id s:Nat):AV->AV
 | .nils=>.osl id s 0 0
 | x=>x
theorem Cu (id s:Nat) (x:AV):wk x (xc id s x):=by
 cases x
 case nils=>exact .inr (.inr ⟨rfl,.inr ⟨id,s,0,rfl⟩⟩)
 all_goals exact .inr (.inl rfl)
theorem CR (id' s' id:Nat) {e s:Nat} {rows rows':List (List AV)} (hb:aa σ.hp id=some (.cells e s rows)) (hr:rows.map (λrow=>row.map (xc id' s'))=rows'):Le C σ ⟨σ.tm,aF σ.hp id (.cells e s rows')⟩:=by
 subst hr;rintro a w ⟨μ,S,hi⟩;refine ⟨μ,S,hi.size,hi.defers,hi.tm,λi b hb'=>?_,λi q hq=>?_,hi.inj,hi.frm,hi.sb⟩
 ·simp only[aj] at hb';split at hb'
  ·rename_i h1;injection hb' with hb'
   subst h1 hb'
   rcases hi.hp id _ hb with ⟨rfl,k2⟩ | ⟨g,c,k1,k2,k3,k4,k5⟩
   ·exact .inl ⟨by simp,k2⟩
   ·refine .inr ⟨g,c,k1,k2,by rw[List.length_map];exact k3,λrow hrow=>?_,λi row hi' q x hx=>?_⟩
    ·obtain ⟨r0,h0,rfl⟩:=W8.1 hrow;rw[List.length_map];exact k4 r0 h0
    ·rw[W5] at hi';cases e0:rows[i]? with
     | none=>rw[e0] at hi';cases hi'
     | some r0=>
      rw[e0] at hi';simp only[Option.map_some,gL] at hi';subst hi';rw[W5] at hx;cases e1:r0[q]? with
      | none=>rw[e1] at hx;cases hx
      | some y=>
       rw[e1] at hx;simp only[Option.map_some,gL] at hx;subst hx;exact (k5 i r0 e0 q y e1).wk (Cu id' s' y)
  ·exact hi.hp i b hb'
 ·obtain ⟨⟨b,h1⟩,h2⟩:=hi.dom i q hq;refine ⟨?_,h2⟩;simp only[aj];split
  ·exact ⟨_,rfl⟩
  ·exact ⟨b,h1⟩
theorem iV {ops:Array Oper} {Q:Exit->Act->World->Prop} {k:Nat} (h:Le C σ σ') (hk:bp P C ops Q k σ'):bp P C ops Q k σ:=λa w hr=>hk a w (h a w hr)
end
attribute [go_sem] xc
end Go.Eng
