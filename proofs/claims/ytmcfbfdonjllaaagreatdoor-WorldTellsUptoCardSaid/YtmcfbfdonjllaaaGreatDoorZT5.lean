/- Texts of this claim, part 5: EngM, EngO, EngP, EngR. No condition. -/
import Derived.Test.YtmcfbfdonjllaaaGreatDoorZT4
set_option maxRecDepth 10000
set_option maxHeartbeats 4000000
set_option linter.unusedSimpArgs false
set_option linter.unusedVariables false
namespace Go.Eng
section
variable {P:Program} {T:Tab} {C:Ctx} {σ σ':St}
inductive Loc where
 | tm (t:Nat)
 | blk (id:Nat)
 deriving DecidableEq
structure Sp where
 dst:Option Tmp
 val:AV
 new:List (Nat×Blk)
 rd:List Loc
def Sp.app (p:Sp) (σ:St):St:=St.put ⟨σ.tm,p.new++σ.hp⟩ p.dst p.val
def Sp.wr (p:Sp):List Loc:=(match p.dst with | some t=>[Loc.tm t] | none=>[])++p.new.map λb=>Loc.blk b.1
def aP (σ s:St):Loc->Prop
 | .tm t=>s.tm.getD t .any=σ.tm.getD t .any
 | .blk id=>aa s.hp id=aa σ.hp id
def nD (P:Program) (C:Ctx) (ops:Array Oper) (o:Oper) (σ σ':St):Prop:=
 ∀a w (K:Act->World->Prop) (Q:Exit->Act->World->Prop),Rel C σ a w->(∀a' w',Rel C σ' a' w'->K a' w') ->
  if Region.wanted o (yielded ops a.tmps) then o.wp P a w K Q\/(o.asks P a w/\LetsOut Q) else K (a.put o.dst undef) w
def Rob (P:Program) (C:Ctx) (ops:Array Oper) (o:Oper) (p:Sp) (σ:St):Prop:=
 ∀s,(∀x,x∈p.rd->aP σ s x)->(∀b,b∈p.new->Loc.blk b.1∉p.rd->aa s.hp b.1=none)->nD P C ops o s (p.app s)
def dt (P:Program) (C:Ctx) (ops:Array Oper):List Oper->List Sp->St->Prop
 | [],[],_=>True
 | o::l,p::ps,σ=>Rob P C ops o p σ/\dt P C ops l ps (p.app σ)
 | _,_,_=>False
def cn:List Sp->St->St
 | [],σ=>σ
 | p::ps,σ=>cn ps (p.app σ)
def uO (D:Nat->Bool):Nat->List Sp->Nat->AV->AV
 | _,[],_,d=>d
 | i,p::r,t,d=>uO D (i+1) r t (if D i=true/\p.dst=some t then p.val else d)
def uN (D:Nat->Bool):Nat->List Sp->Nat->Option Blk->Option Blk
 | _,[],_,d=>d
 | i,p::r,id,d=>uN D (i+1) r id (if D i=true/\(∃b,b∈p.new/\b.1=id) then aa p.new id else d)
theorem kl {D E:Nat->Bool} {t:Nat}:∀(ps:List Sp) (i:Nat) {d:AV},(∀j p,ps[j]? = some p->p.dst=some t->D (i+j)=E (i+j))->uO D i ps t d=uO E i ps t d
 | [],_,_,_=>rfl
 | p::r,i,d,h=>by
  simp only[uO];have h0:(D i=true/\p.dst=some t)↔(E i=true/\p.dst=some t):=by
   constructor<;>rintro ⟨h1,h2⟩
   ·exact ⟨(h 0 p rfl h2).symm.trans h1,h2⟩
   ·exact ⟨(h 0 p rfl h2).trans h1,h2⟩
  rw[kl (D:=D) (E:=E) (t:=t) r (i+1) (λj q hq hd=>by
   have:=h (j+1) q Q5 hd
   rwa [show i+(j+1)=i+1+j from by omega] at this)]
  congr 1
  by_cases hc:D i=true/\p.dst=some t
  ·rw[if_pos hc,if_pos (h0.1 hc)]
  ·rw[if_neg hc,if_neg (λh=>hc (h0.2 h))]
theorem iE {D E:Nat->Bool} {id:Nat}:∀(ps:List Sp) (i:Nat) {d:Option Blk},(∀j p,ps[j]? = some p->(∃b,b∈p.new/\b.1=id)->D (i+j)=E (i+j))->uN D i ps id d=uN E i ps id d
 | [],_,_,_=>rfl
 | p::r,i,d,h=>by
  simp only[uN];have h0:(D i=true/\(∃b,b∈p.new/\b.1=id))↔(E i=true/\(∃b,b∈p.new/\b.1=id)):=by
   constructor<;>rintro ⟨h1,h2⟩
   ·exact ⟨(h 0 p rfl h2).symm.trans h1,h2⟩
   ·exact ⟨(h 0 p rfl h2).trans h1,h2⟩
  rw[iE (D:=D) (E:=E) (id:=id) r (i+1) (λj q hq hd=>by
   have:=h (j+1) q Q5 hd
   rwa [show i+(j+1)=i+1+j from by omega] at this)]
  congr 1
  by_cases hc:D i=true/\(∃b,b∈p.new/\b.1=id)
  ·rw[if_pos hc,if_pos (h0.1 hc)]
  ·rw[if_neg hc,if_neg (λh=>hc (h0.2 h))]
theorem oL {D:Nat->Bool} {t:Nat}:∀(ps:List Sp) (i:Nat) {d:AV},(∀j p,ps[j]? = some p->p.dst=some t->D (i+j)=false)->uO D i ps t d=d
 | [],_,_,_=>rfl
 | p::r,i,d,h=>by
  simp only[uO];rw[if_neg (λhc=>by have:=h 0 p rfl hc.2;rw[Nat.add_zero,hc.1] at this;cases this)];exact oL r (i+1) (λj q hq hd=>by
   have:=h (j+1) q Q5 hd
   rwa [show i+(j+1)=i+1+j from by omega] at this)
theorem oK {D:Nat->Bool} {id:Nat}:∀(ps:List Sp) (i:Nat) {d:Option Blk},(∀j p,ps[j]? = some p->(∃b,b∈p.new/\b.1=id)->D (i+j)=false)->uN D i ps id d=d
 | [],_,_,_=>rfl
 | p::r,i,d,h=>by
  simp only[uN];rw[if_neg (λhc=>by have:=h 0 p rfl hc.2;rw[Nat.add_zero,hc.1] at this;cases this)];exact oK r (i+1) (λj q hq hd=>by
   have:=h (j+1) q Q5 hd
   rwa [show i+(j+1)=i+1+j from by omega] at this)
theorem wm {E:Nat->Bool} {t:Nat} {q:Sp}:∀(ps:List Sp) (i m:Nat) {d:AV},ps[m]? = some q->q.dst=some t->E (i+m)=true->(∀j p,ps[j]? = some p->p.dst=some t->m<j->E (i+j)=false)->uO E i ps t d=q.val
 | [],_,_,_,h,_,_,_=>by simp at h
 | p::r,i,m,d,h,hd,hE,hu=>by
  simp only[uO];cases m with
  | zero=>
   simp only[List.getElem?_cons_zero,Option.some.injEq] at h;subst h;rw[if_pos ⟨hE,hd⟩];exact oL r (i+1) (λj p' hj hd'=>by
    have:=hu (j+1) p' QC hd' z8
    rwa [show i+(j+1)=i+1+j from by omega] at this)
  | succ m=>
   exact wm r (i+1) m v8 hd Z6 (λj p' hj hd' hlt=>by
    have:=hu (j+1) p' QC hd' z8
    rwa [show i+(j+1)=i+1+j from by omega] at this)
theorem wj {E:Nat->Bool} {id:Nat} {q:Sp}:∀(ps:List Sp) (i m:Nat) {d:Option Blk},ps[m]? = some q->(∃b,b∈q.new/\b.1=id)->E (i+m)=true->(∀j p,ps[j]? = some p->(∃b,b∈p.new/\b.1=id)->m<j->E (i+j)=false)->uN E i ps id d=aa q.new id
 | [],_,_,_,h,_,_,_=>by simp at h
 | p::r,i,m,d,h,hd,hE,hu=>by
  simp only[uN];cases m with
  | zero=>
   simp only[List.getElem?_cons_zero,Option.some.injEq] at h;subst h;rw[if_pos ⟨hE,hd⟩];exact oK r (i+1) (λj p' hj hd'=>by
    have:=hu (j+1) p' QC hd' z8
    rwa [show i+(j+1)=i+1+j from by omega] at this)
  | succ m=>
   exact wj r (i+1) m v8 hd Z6 (λj p' hj hd' hlt=>by
    have:=hu (j+1) p' QC hd' z8
    rwa [show i+(j+1)=i+1+j from by omega] at this)
structure Desc (σ:St) (ps:List Sp) (D:Nat->Bool) (s:St):Prop where
 len:s.tm.length=σ.tm.length
 tm:∀t,s.tm.getD t .any=uO D 0 ps t (σ.tm.getD t .any)
 hp:∀id,aa s.hp id=uN D 0 ps id (aa σ.hp id)
theorem aF (h k:List (Nat×Blk)) (id:Nat):aa (h++k) id=if (∃b,b∈h/\b.1=id) then aa h id else aa k id:=by
 induction h with
 | nil=>simp
 | cons p r ih=>
  obtain ⟨i,c⟩:=p;simp only[List.cons_append,aa]
  by_cases e:i=id
  ·subst e;simp
  ·rw[if_neg e,if_neg e,ih]
   by_cases h2:∃b,b∈r/\b.1=id
   ·rw[if_pos h2];obtain ⟨b,h3,h4⟩:=h2;rw[if_pos ⟨b,List.mem_cons_of_mem _ h3,h4⟩]
   ·rw[if_neg h2,if_neg];rintro ⟨b,h3,h4⟩
    rcases List.mem_cons.1 h3 with h5 | h5
    ·subst h5;exact e h4
    ·exact h2 ⟨b,h5,h4⟩
structure Apart (ps:List Sp) (n:Nat):Prop where
 lt:∀(i:Nat) (p:Sp) t,ps[i]? = some p->p.dst=some t->t<n
theorem yU {p:Sp} {t:Nat} (h:p.dst=some t):Loc.tm t∈p.wr:=by simp[Sp.wr,h]
theorem nC {p:Sp} {id:Nat} (h:∃b,b∈p.new/\b.1=id):Loc.blk id∈p.wr:=by
 obtain ⟨b,hb,rfl⟩:=h;exact Ww _ (Wq.2 ⟨b,hb,rfl⟩)
theorem Desc.add {ps:List Sp} {D:Nat->Bool} {s:St} (h:Desc σ ps D s) (ha:Apart ps σ.tm.length) {m:Nat} {q:Sp} (hq:ps[m]? = some q)
  (hlate:∀j p x,ps[j]? = some p->x∈p.wr->x∈q.wr->m<j->D j=false):Desc σ ps (λj=>D j||j==m) (q.app s):=by
 refine ⟨?_,λt=>?_,λid=>?_⟩
 ·unfold Sp.app St.put;cases q.dst<;>simp[h.len]
 ·by_cases hd:q.dst=some t
  ·rw[wm ps 0 m hq hd y7 (λj p hj hd' hlt=>by
    rw[W8,hlate j p _ hj (yU hd') (yU hd) hlt];simp;omega)]
   have hlt:=ha.lt m q t hq hd;simp only[Sp.app,hd,St.put,Wi];rw[List.getElem?_set_self (by rw[h.len];exact hlt)];rfl
  ·have:(q.app s).tm.getD t .any=s.tm.getD t .any:=by
    unfold Sp.app St.put;cases e:q.dst with
    | none=>rfl
    | some u=>
     simp only[Wi];rw[List.getElem?_set_ne (by rintro rfl;exact hd e)]
   rw[this,h.tm t];refine kl ps 0 (λj p hj hd'=>?_);have:j≠m:=by rintro rfl;rw[hq] at hj;injection hj with hj;subst hj;exact hd hd'
   simp[this]
 ·have e:aa (q.app s).hp id=aa (q.new++s.hp) id:=by
   unfold Sp.app;rw[St.fR]
  rw[e,aF]
  by_cases hd:∃b,b∈q.new/\b.1=id
  ·rw[if_pos hd,wj ps 0 m hq hd y7 (λj p hj hd' hlt=>by
    rw[W8,hlate j p _ hj (nC hd') (nC hd) hlt];simp;omega)]
  ·rw[if_neg hd,h.hp id];refine iE ps 0 (λj p hj hd'=>?_);have:j≠m:=by rintro rfl;rw[hq] at hj;injection hj with hj;subst hj;exact hd hd'
   simp[this]
theorem Desc.start (σ:St) (ps:List Sp):Desc σ ps (λ_=>false) σ:=by
 exact ⟨rfl,λt=>(oL _ _ (λ_ _ _ _=>rfl)).symm,λid=>(oK _ _ (λ_ _ _ _=>rfl)).symm⟩
theorem iR {s s':St} (hl:s.tm.length=s'.tm.length) (ht:∀t,s.tm.getD t .any=s'.tm.getD t .any) (hh:∀id,aa s.hp id=aa s'.hp id):Le C s s':=by
 intro a w ⟨μ,S,hi⟩;refine ⟨μ,S,by rw[hi.size,hl],hi.defers,λt x hx=>?_,λid b hb=>hi.hp id b (by rw[hh];exact hb),λid g hg=>?_,hi.inj,hi.frm,hi.sb⟩
 ·have hlt:t<s'.tm.length:=by
   by_cases h:t<s'.tm.length
   ·exact h
   ·rw[List.getElem?_eq_none z8] at hx;cases hx
  have e:=ht t;rw[Wi,Wi,hx,Wj z8] at e;simp only[Option.getD_some] at e;exact hi.tm t x (by rw[Wj z8,e])
 ·obtain ⟨⟨b,h1⟩,h2⟩:=hi.dom id g hg;exact ⟨⟨b,by rw[←hh];exact h1⟩,h2⟩
def upto (ps:List Sp) (i:Nat) (σ:St):St:=cn (ps.take i) σ
theorem uJ:∀(ps:List Sp) (i:Nat) (σ:St) {p:Sp},ps[i]? = some p->upto ps (i+1) σ=p.app (upto ps i σ)
 | [],i,σ,p,h=>by simp at h
 | q::r,0,σ,p,h=>by
  simp only[List.getElem?_cons_zero,Option.some.injEq] at h;subst h;simp[upto,cn]
 | q::r,i+1,σ,p,h=>by
  have:=uJ r i (q.app σ) (p:=p) v8;simpa[upto,cn] using this
theorem oR {ps:List Sp} (ha:Apart ps σ.tm.length):∀i,i≤ps.length->Desc σ ps (λj=>decide (j<i)) (upto ps i σ)
 | 0,_=>by simpa[upto,cn] using Desc.start σ ps
 | i+1,h=>by
  have hp:ps[i]? = some ps[i]:=Wj z8;rw[uJ ps i σ hp];have:=(oR ha i z8).add ha hp (λj p x _ _ _ hlt=>by simp;omega);have e:(λj=>decide (j<i)||j==i)=λj=>decide (j<i+1):=by
   funext j
   rw[YZ];simp only[Bool.or_eq_true,decide_eq_true_eq,beq_iff_eq];omega
  rwa [e] at this
theorem tE {ops:Array Oper}:∀(l:List Oper) (ps:List Sp) (σ:St),dt P C ops l ps σ->∀i o p,l[i]? = some o->ps[i]? = some p->Rob P C ops o p (upto ps i σ)
 | [],[],_,_,i,o,p,h,_=>by simp at h
 | o'::l,p'::ps,σ,h,i,o,p,ho,hp=>by
  cases i with
  | zero=>
   simp only[List.getElem?_cons_zero,Option.some.injEq] at ho hp;subst ho hp;simpa[upto,cn] using h.1
  | succ i=>
   have:=tE l ps (p'.app σ) h.2 i o p (by simpa using ho) (by simpa using hp);simpa[upto,cn] using this
 | [],_::_,_,h,_,_,_,_,_=>h.elim
 | _::_,[],_,h,_,_,_,_,_=>h.elim
def gO (ops:Array Oper) (i:Nat):List Nat:=
 match ops[i]? with
 | some o=>(o.after.toList.filter λe=>Region.binds .any e).map (·.on)
 | none=>[]
def reach (ops:Array Oper):Nat->Nat->Nat->Bool
 | 0,_,_=>false
 | f+1,i,j=>(gO ops j).any λe=>e==i||reach ops f i e
theorem dN {ops:Array Oper} {listed:Array Bool} (hc:∀j,listed.getD j false=true->∀e,e∈gO ops j->listed.getD e false=true) :
  ∀(f i j:Nat),reach ops f i j=true->(∀e,e∈gO ops j->listed.getD e false=true)->listed.getD i false=true
 | 0,_,_,h,_=>by cases h
 | f+1,i,j,h,hj=>by
  simp only[reach,List.any_eq_true,Bool.or_eq_true,beq_iff_eq] at h;obtain ⟨e,he,h1⟩:=h
  rcases h1 with rfl | h1
  ·exact hj _ he
  ·exact dN hc f i e h1 (hc e (hj e he))
abbrev du:=List (List Loc×List Loc)
def gu (ps:List Sp):du:=ps.map λp=>(p.wr,p.rd)
def CW (ops:Array Oper) (j:Nat) (t:List Nat):Nat:=(gO ops j).foldl (λm e=>m ||| ((1 <<< e) ||| (if e<j then t.getD (j-1-e) 0 else 0))) 0
def rk (ops:Array Oper):Nat->List Nat
 | 0=>[]
 | j+1=>CW ops j (rk ops j)::rk ops j
def hit (n:Nat) (t:List Nat) (i j:Nat):Bool:=(t.getD (n-1-j) 0).testBit i
theorem nv {ops:Array Oper}:∀(f g:Nat) {i j:Nat},f≤g->reach ops f i j=true->reach ops g i j=true
 | 0,_,i,j,_,h=>by cases h
 | f+1,0,i,j,hfg,_=>by omega
 | f+1,g+1,i,j,hfg,h=>by
  simp only[reach,List.any_eq_true,Bool.or_eq_true,beq_iff_eq] at h ⊢;obtain ⟨e,he,h1⟩:=h;refine ⟨e,he,?_⟩
  rcases h1 with h1 | h1
  ·exact .inl h1
  ·exact .inr (nv f g z8 h1)
theorem we {F:Nat->Nat} {i:Nat}:∀(l:List Nat) (m:Nat),(l.foldl (λm e=>m ||| F e) m).testBit i=true->m.testBit i=true\/∃e,e∈l/\(F e).testBit i=true
 | [],m,h=>.inl h
 | e::l,m,h=>by
  simp only[List.foldl_cons] at h
  rcases we l _ h with h | ⟨e',he,h⟩
  ·rw[Nat.testBit_or,Bool.or_eq_true] at h
   rcases h with h | h
   ·exact .inl h
   ·exact .inr ⟨e,by simp,h⟩
  ·exact .inr ⟨e',by simp[he],h⟩
theorem Fx {i e:Nat} (h:(1 <<< e).testBit i=true):i=e:=by
 simp only[Nat.testBit_shiftLeft,Bool.and_eq_true,decide_eq_true_eq] at h;obtain ⟨h1,h2⟩:=h;have:i-e=0:=by
  by_cases h3:i-e=0
  ·exact h3
  ·rw[show i-e=(i-e-1)+1 from by omega,Nat.testBit_succ] at h2;simp at h2
 omega
theorem lz (ops:Array Oper):∀(n j i:Nat),j<n->((rk ops n).getD (n-1-j) 0).testBit i=true->reach ops (j+1) i j=true
 | 0,j,i,h,_=>by omega
 | n+1,j,i,h,hb=>by
  by_cases e:j=n
  ·subst e;simp only[rk,Nat.add_sub_cancel,YY,List.getD_cons_zero] at hb;unfold CW at hb
   rcases we _ _ hb with h1 | ⟨e,he,h1⟩
   ·simp at h1
   ·simp only[reach,List.any_eq_true,Bool.or_eq_true,beq_iff_eq];refine ⟨e,he,?_⟩;rw[Nat.testBit_or,Bool.or_eq_true] at h1
    rcases h1 with h1 | h1
    ·exact .inl (Fx h1).symm
    ·split at h1
     ·rename_i hlt;exact .inr (nv (e+1) j z8 (lz ops j e i hlt h1))
     ·simp at h1
  ·have e1:n+1-1-j=(n-1-j)+1:=by omega
   rw[e1] at hb;simp only[rk,List.getD_cons_succ] at hb;exact lz ops n j i z8 hb
theorem iw {ops:Array Oper} {i j:Nat} (hj:j<ops.size) (h:hit ops.size (rk ops ops.size) i j=true):reach ops ops.size i j=true:=
 nv (j+1) ops.size z8 (lz ops ops.size j i hj h)
def Ac (ops:Array Oper) (k:Nat) (sk:du) (n:Nat) (t:List Nat):Bool:=
 ((List.range ops.size).all λi=>(gO ops i).all λe=>decide (e<i)) &&
 ((List.range ops.size).all λi=>decide (i<k+sk.length)||(List.range sk.length).all λs=>hit n t (k+s) i) &&
 ((List.range sk.length).all λi=>(List.range sk.length).all λj=>
  match sk[i]?,sk[j]? with
  | some p,some q=>i==j||(!(q.1.any λx=>p.1.contains x||p.2.contains x)||(if j<i then hit n t (k+j) (k+i) else hit n t (k+i) (k+j)))
  | _,_=>true)&&decide (k+sk.length≤ops.size)
def mg (ops:Array Oper) (k:Nat) (sk:du):Bool:=Ac ops k sk ops.size (rk ops ops.size)
structure SegFacts (ops:Array Oper) (k:Nat) (ps:List Sp):Prop where
 lt:∀i,i<ops.size->∀e,e∈gO ops i->e<i
 late:∀i,i<ops.size->k+ps.length≤i->∀s,s<ps.length->reach ops ops.size (k+s) i=true
 od:∀(i j:Nat) p q x,ps[i]? = some p->ps[j]? = some q->x∈q.wr->(x∈p.rd\/x∈p.wr)->i≠j->(j<i/\reach ops ops.size (k+j) (k+i)=true)\/(i<j/\reach ops ops.size (k+i) (k+j)=true)
 size:k+ps.length≤ops.size
theorem Cm {ops:Array Oper} {k:Nat} {ps:List Sp} (h:mg ops k (gu ps)=true):SegFacts ops k ps:=by
 unfold mg Ac at h;simp only[Bool.and_eq_true,decide_eq_true_eq] at h;obtain ⟨⟨⟨h1,h2⟩,h3⟩,h4⟩:=h;have hl:(gu ps).length=ps.length:=by simp[gu]
 rw[hl] at h2 h3 h4;have key:∀(i j:Nat) (p q:Sp),ps[i]? = some p->ps[j]? = some q->i=j\/((∀x,x∈q.wr->x∉p.wr/\x∉p.rd)\/(if j<i then reach ops ops.size (k+j) (k+i) else reach ops ops.size (k+i) (k+j))=true):=by
  intro i j p q hp hq;have hi:i<ps.length:=(Wp.1 hp).1;have hj:j<ps.length:=(Wp.1 hq).1;have:=List.all_eq_true.1 (List.all_eq_true.1 h3 i (YK.2 hi)) j (YK.2 hj);simp only[gu,Wm,hp,hq,Option.map_some,Bool.or_eq_true,beq_iff_eq,YU,List.any_eq_false,List.contains_iff_mem] at this
  rcases this with h | h6
  ·exact .inl h
  ·refine .inr ?_
   rcases h6 with h6 | h6
   ·exact .inl (λx hx=>⟨λhx'=>h6 x hx (.inl hx'),λhx'=>h6 x hx (.inr hx')⟩)
   ·refine .inr ?_;split at h6
    ·rw[if_pos WL];exact iw z8 h6
    ·rw[if_neg WL];exact iw z8 h6
 refine ⟨λi hi e he=>?_,λi hi hle s hs=>?_,λi j p q x hp hq hx hx' hne=>?_,h4⟩
 ·have:=List.all_eq_true.1 (List.all_eq_true.1 h1 i (YK.2 hi)) e he;simpa using this
 ·have:=List.all_eq_true.1 h2 i (YK.2 hi);simp only[Bool.or_eq_true,decide_eq_true_eq] at this
  rcases this with h | h
  ·omega
  ·exact iw hi (List.all_eq_true.1 h s (YK.2 hs))
 ·rcases key i j p q hp hq with h | h
  ·exact absurd h hne
  ·rcases h with h | h
   ·rcases hx' with hx' | hx'
    ·exact absurd hx' (h x hx).2
    ·exact absurd hx' (h x hx).1
   ·split at h
    ·exact .inl ⟨by assumption,h⟩
    ·exact .inr ⟨by omega,h⟩
def aV (n k:Nat):Array Bool:=(Array.range n).map λi=>decide (i<k)
theorem df (n k j:Nat) (d:Bool):(aV n k).getD j d=if j<n then decide (j<k) else d:=by
 unfold aV;rw[Wk,Array.getElem?_map,Array.getElem?_range];split<;>rfl
def bp (P:Program) (C:Ctx) (ops:Array Oper) (Q:Exit->Act->World->Prop) (k:Nat) (σ:St):Prop:=
 ∀a w,Rel C σ a w->wpAny P .any ops Q (ops.size-k) (aV ops.size k) a w
theorem Df {ops:Array Oper} {Q:Exit->Act->World->Prop} {k:Nat} (hk:k=ops.size) (h:∀a w,Rel C σ a w->Q .normal a w):bp P C ops Q k σ:=by
 intro a w hr;subst hk;have:Region.ready .any ops (aV ops.size ops.size)=[]:=by
  rw[List.eq_nil_iff_forall_not_mem];intro j hj;obtain ⟨h1,o,ho,_⟩:=mem_ready.1 hj;have hlt:j<ops.size:=(YC.1 ho).1;rw[df,if_pos hlt] at h1;simp[hlt] at h1
 rw[YY];exact ⟨this,h a w hr⟩
theorem jF {ops:Array Oper} {Q:Exit->Act->World->Prop} {i:Nat} {o:Oper} (ho:ops[i]? = some o) {s s':St} (ht:nD P C ops o s s') {K:Act->World->Prop} {a:Act} {w:World} (hr:Rel C s a w)
  (hK:∀a' w',Rel C s' a' w'->K a' w'):wpOp P ops Q i K a w:=by
 unfold wpOp;simp only[ho];exact ht a w K Q hr hK
theorem wB {ops:Array Oper} {Q:Exit->Act->World->Prop} {k:Nat} {o:Oper} (ho:ops[k]? = some o) (hc:Region.ready .any ops (aV ops.size k)=[k]) (ht:nD P C ops o σ σ') (h:bp P C ops Q (k+1) σ') :
  bp P C ops Q k σ:=by
 intro a w hr;have hlt:k<ops.size:=(YC.1 ho).1;rw[show ops.size-k=(ops.size-(k+1))+1 from by omega];refine ⟨λh0=>(by rw[hc] at h0;cases h0),λi hi=>?_⟩;rw[hc,List.mem_singleton] at hi;subst hi;refine jF ho ht hr λa' w' hr'=>?_
 have e:(aV ops.size i).setIfInBounds i true=aV ops.size (i+1):=by
  apply Array.ext
  ·simp[aV]
  ·intro j h1 h2;simp only[aV,Array.size_setIfInBounds,Array.size_map,Array.size_range] at h1;rw[Array.getElem_setIfInBounds (by simpa[aV] using h1)];split
   ·rename_i e;subst e;simp[aV]
   ·rename_i e;simp[aV];omega
 rw[e];exact h a' w' hr'
theorem lK {D:Nat->Bool} {m:Nat} (hm:D m=false):∀(l:List Nat),l.Nodup->m∈l->(l.filter λj=>!(D j||j==m)).length+1=(l.filter λj=>!D j).length
 | [],_,h=>by cases h
 | x::r,hn,h=>by
  rw[List.nodup_cons] at hn
  rcases List.mem_cons.1 h with rfl | h'
  ·have e:(r.filter λj=>!(D j||j==m))=r.filter λj=>!D j:=by
    refine List.filter_congr λj hj=>?_
    have:j≠m:=by rintro rfl;exact hn.1 hj
    simp[this]
   simp only[List.filter_cons,hm,beq_self_eq_true,Bool.or_true,Bool.not_true,Bool.false_eq_true,if_false,Bool.not_false,if_true,List.length_cons];rw[e]
  ·have hx:x≠m:=by rintro rfl;exact hn.1 h'
   have ih:=lK hm r hn.2 h';simp only[List.filter_cons];have e:(x==m)=false:=by simpa using hx
   rw[e];simp only[Ym];split
   ·simp only[List.length_cons];omega
   ·exact ih
theorem Dg {ops:Array Oper} {Q:Exit->Act->World->Prop} {k:Nat} {l:List Oper} {ps:List Sp} (hck:mg ops k (gu ps)=true) (hlen:l.length=ps.length)
  (hl:∀i,i<ps.length->ops[k+i]? = l[i]?) (hlt:∀(i:Nat) p t,ps[i]? = some p->p.dst=some t->t<σ.tm.length) (hfr:∀(i:Nat) p,ps[i]? = some p->∀b,b∈p.new->Loc.blk b.1∉p.rd->aa (upto ps i σ).hp b.1=none)
  (hch:dt P C ops l ps σ) (h:bp P C ops Q (k+ps.length) (cn ps σ)):bp P C ops Q k σ:=by
 have hF:=Cm hck;have ha:Apart ps σ.tm.length:=⟨hlt⟩;have main:∀(r:Nat) (D:Nat->Bool) (listed:Array Bool) (s:St),((List.range ps.length).filter λj=>!D j).length=r->listed.size=ops.size ->
   (∀j,j<ops.size->listed.getD j false=(decide (j<k)||(decide (j<k+ps.length)&&D (j-k)))) ->
   (∀j,listed.getD j false=true->∀e,e∈gO ops j->listed.getD e false=true)->Desc σ ps D s->∀a w,Rel C s a w->wpAny P .any ops Q (ops.size-(k+ps.length)+r) listed a w:=by
  intro r
  induction r with
  | zero=>
   intro D listed s hr hsz hlist _ hd a w hrel;have hall:∀j,j<ps.length->D j=true:=λj hj=>by
    have h0:(List.range ps.length).filter (λj=>!D j)=[]:=List.eq_nil_of_length_eq_zero hr;have:=List.filter_eq_nil_iff.1 h0 j (YK.2 hj);simpa using this
   have e:listed=aV ops.size (k+ps.length):=by
    apply Array.ext
    ·simp[aV,hsz]
    ·intro j h1 h2;have hj:j<ops.size:=by omega
     have h3:=hlist j hj;rw[Wk,Ws h1,Option.getD_some] at h3;rw[h3];have h4:=df ops.size (k+ps.length) j false;rw[Wk,Ws h2,Option.getD_some,if_pos hj] at h4;rw[h4]
     by_cases hk:j<k
     ·simp[hk];omega
     ·by_cases hk2:j<k+ps.length
      ·simp[hk,hk2,hall (j-k) z8]
      ·simp[hk,hk2]
   rw[Nat.add_zero,e];have hu:=oR ha ps.length (Wt _);have hsame:Le C s (cn ps σ):=by
    have e2:upto ps ps.length σ=cn ps σ:=by simp[upto]
    rw[←e2];refine iR (hd.len.trans hu.len.symm) (λt=>?_) (λid=>?_)
    ·rw[hd.tm,hu.tm];exact kl ps 0 (λj p hj _=>by
      have hj':j<ps.length:=(Wp.1 hj).1;simp[hall j hj',hj'])
    ·rw[hd.hp,hu.hp];exact iE ps 0 (λj p hj _=>by
      have hj':j<ps.length:=(Wp.1 hj).1;simp[hall j hj',hj'])
   exact h a w (hsame a w hrel)
  | succ r ih=>
   intro D listed s hr hsz hlist hclosed hd a w hrel;have hex:∃m,m<ps.length/\D m=false:=by
    have hne:(List.range ps.length).filter (λj=>!D j)≠[]:=by intro e;rw[e] at hr;simp at hr
    obtain ⟨m,hm⟩:=List.exists_mem_of_ne_nil _ hne;rw[Wy,YK] at hm;exact ⟨m,hm.1,by simpa using hm.2⟩
   obtain ⟨m0,⟨hm0,hD0⟩,hmin⟩:=least (p:=λm=>m<ps.length/\D m=false) hex;have hun:listed.getD (k+m0) false=false:=by
    rw[hlist _ WC];simp[show ¬k+m0<k by omega,hD0]
   refine ⟨λh0=>?_,λi hi=>?_⟩
   ·exfalso
    have:k+m0∈Region.ready .any ops listed:=by
     rw[mem_ready];have hlt':k+m0<ops.size:=by have:=hF.size;omega
     refine ⟨?_,ops[k+m0],Ws hlt',λe he hb=>?_⟩
     ·rw[Wk,Ws z8] at hun ⊢;exact hun
     ·have hmem:e.on∈gO ops (k+m0):=by
       unfold gO;rw[Ws hlt'];exact Wq.2 ⟨e,Wy.2 ⟨by simpa using he,hb⟩,rfl⟩
      have hl':=hF.lt _ hlt' _ hmem;rw[hlist _ z8]
      by_cases h1:e.on<k
      ·simp[h1]
      ·have h2:D (e.on-k)=true:=by
        cases h3:D (e.on-k) with
        | true=>rfl
        | false=>exact absurd ⟨by omega,h3⟩ (hmin (e.on-k) z8)
       simp[h1,h2,show e.on<k+ps.length by omega]
    rw[h0] at this;cases this
   ·obtain ⟨h1,o,ho,hall⟩:=mem_ready.1 hi;have hilt:i<ops.size:=(YC.1 ho).1;have hil:listed.getD i false=false:=by
     rw[Wk,Ws z8] at h1 ⊢;exact h1
    have hpl:∀e,e∈gO ops i->listed.getD e false=true:=λe he=>by
     unfold gO at he;rw[ho] at he;obtain ⟨ed,hed,rfl⟩:=Wq.1 he;rw[Wy] at hed;exact hall ed (by simpa using hed.1) hed.2
    have hik:k≤i:=by
     rw[hlist i hilt] at hil;simp at hil;omega
    have hiu:i<k+ps.length:=by
     rcases Nat.lt_or_ge i (k+ps.length) with h2 | h2
     ·exact h2
     ·have:=dN hclosed _ _ _ (hF.late i hilt h2 m0 hm0) hpl;rw[hun] at this;cases this
    obtain ⟨m,rfl⟩:∃m,i=k+m:=⟨i-k,by omega⟩;have hm:m<ps.length:=by omega
    have hDm:D m=false:=by
     rw[hlist _ hilt] at hil;simpa[show ¬k+m<k by omega,hiu] using hil
    have hpm:ps[m]? = some ps[m]:=Wj hm;have hom:l[m]? = some o:=by rw[←hl m hm];exact ho
    have hrob:=tE l ps σ hch m o ps[m] hom hpm;have hu:=oR ha m z8;have key:∀x,(x∈ps[m].rd\/x∈ps[m].wr)->∀(j:Nat) q,ps[j]? = some q->x∈q.wr->D j=decide (j<m):=λx hx j q hq hxq=>by
     have hj:j<ps.length:=(Wp.1 hq).1
     by_cases e:m=j
     ·subst e;simp[hDm]
     ·rcases hF.od m j _ q x hpm hq hxq hx e with ⟨h3,h4⟩ | ⟨h3,h4⟩
      ·have h5:=dN hclosed _ _ _ h4 hpl;rw[hlist _ z8] at h5;simp[show ¬k+j<k by omega] at h5;simp[h3,h5.2]
      ·cases h6:D j with
       | false=>simp;omega
       | true=>
        have h7:listed.getD (k+j) false=true:=by
         rw[hlist _ WC];simp[h6,hj]
        have h8:=dN hclosed _ _ _ h4 (hclosed _ h7);rw[hil] at h8;cases h8
    have hag:∀x,x∈ps[m].rd->aP (upto ps m σ) s x:=λx hx=>by
     have key:=key x (.inl hx);cases x with
     | tm t=>
      show s.tm.getD t .any=(upto ps m σ).tm.getD t .any
      rw[hd.tm,hu.tm];exact kl ps 0 (λj q hq hdq=>by rw[W8];exact key j q hq (yU hdq))
     | blk id=>
      show aa s.hp id=aa (upto ps m σ).hp id
      rw[hd.hp,hu.hp];exact iE ps 0 (λj q hq hdq=>by rw[W8];exact key j q hq (nC hdq))
    have hfresh:∀b,b∈ps[m].new->Loc.blk b.1∉ps[m].rd->aa s.hp b.1=none:=λb hb hnr=>by
     rw[←hfr m _ hpm b hb hnr,hd.hp,hu.hp];exact iE ps 0 (λj q hq hdq=>by rw[W8];exact key (.blk b.1) (.inr (nC ⟨b,hb,rfl⟩)) j q hq (nC hdq))
    have ht:=hrob s hag hfresh;refine jF ho ht hrel λa' w' hr'=>?_
    refine ih (λj=>D j||j==m) (listed.setIfInBounds (k+m) true) (ps[m].app s) ?_ (by simp[hsz]) (λj hj=>?_) (λj hj e he=>?_) (hd.add ha hpm λj p x hj hx hx' hlt=>by rw[key x (.inr hx') j p hj hx];simp;omega) a' w' hr'
    ·have:=lK hDm (List.range ps.length) List.nodup_range (YK.2 hm);omega
    ·by_cases e:k+m=j
     ·subst e;rw[Wk,Array.getElem?_setIfInBounds_self_of_lt z8];simp[hiu]
     ·rw[getD_set_ne false e,hlist j hj];have:(j-k==m)=false\/j<k:=by
       by_cases h2:j<k
       ·exact .inr h2
       ·left;simp;omega
      rcases this with h2 | h2
      ·rw[h2];simp
      ·simp[h2]
    ·by_cases e':k+m=j
     ·subst e';exact getD_set_true (hpl e he)
     ·rw[getD_set_ne false e'] at hj;exact getD_set_true (hclosed j hj e he)
 intro a w hr;have h0:=main ps.length (λ_=>false) (aV ops.size k) σ (by show ((List.range ps.length).filter λ_=>true).length=ps.length;rw[W9.2 (λ_ _=>rfl)];simp) (by simp[aV]) (λj hj=>by rw[df,if_pos hj];simp) (λj hj e he=>by
  rw[df] at hj ⊢;split at hj
  ·rename_i hjn;have hlt':=hF.lt j hjn e he;rw[if_pos z8];simp at hj ⊢;omega
  ·cases hj) (Desc.start σ ps) a w hr
 rw[show ops.size-k=ops.size-(k+ps.length)+ps.length from by have:=hF.size;omega];exact h0
theorem ZW {Ret:St->Prop} {k:List It} {id:Nat} {ops:Array Oper} (hm:P.follows .mixedOrders=true) (h:bp P C ops (aft (la C Ret) (sem P C (la C Ret) k)) 0 σ):Cw P C Ret (.code (.region id ops true)::k) σ:=λa w hr=>by
 obtain ⟨μ,S,hi⟩:=hr;refine wp_region_any hm ?_;have:=h a w.drew ⟨μ,S,hi.drew⟩;have e:aV ops.size 0=Array.replicate ops.size false:=by
  apply Array.ext<;>simp[aV]
 rw[e] at this;exact this
theorem zc {Ret:St->Prop} {k:List It} {ops:Array Oper} {n:Nat} (hn:n=ops.size) (h:Cw P C Ret k σ):bp P C ops (aft (la C Ret) (sem P C (la C Ret) k)) n σ:=
 Df hn λa w hr=>h a w hr
end
end Go.Eng
namespace Go.Eng
section
variable {P:Program} {T:Tab} {C:Ctx} {σ σ' s:St}
def fB (σ:St):Operand->List Loc
 | .tmp t=>.tm t::(refs (σ.tm.getD t .any)).map .blk
 | _=>[]
def aS (σ:St):List Operand->List Loc
 | []=>[]
 | o::r=>fB σ o++aS σ r
def bN (ops:Array Oper) (g:Option (Nat×Bool)):List Loc:=
 match g with
 | none=>[]
 | some (j,_)=>
  match (ops[j]?).bind (·.dst) with
  | some d=>[.tm d]
  | none=>[]
theorem wS {o:Operand} (h:∀x,x∈fB σ o->aP σ s x):ev s o=ev σ o:=by
 cases o with
 | tmp t=>exact h (.tm t) (by simp[fB])
 | _=>rfl
theorem cC {o:Operand} (h:∀x,x∈fB σ o->aP σ s x):evS s o=evS σ o:=by unfold evS;rw[wS h]
theorem sM (x:AV):∀id,id∈refs (strip x).2->id∈refs x:=by
 intro id h;cases x<;>first | exact h | simpa[strip,refs] using h
theorem Bn {o:Operand} (h:∀x,x∈fB σ o->aP σ s x) {id:Nat} (hid:id∈refs (evS σ o).2):aa s.hp id=aa σ.hp id:=by
 have h1:=sM _ id hid;cases o with
 | tmp t=>
  refine h (.blk id) ?_;simp only[ev] at h1;exact List.mem_cons_of_mem _ (Wq.2 ⟨id,h1,rfl⟩)
 | const v=>
  simp only[ev] at h1
  exfalso
  revert h1
  unfold ofValue;split<;>simp[refs]
 | func f=>simp[ev,refs,aC] at h1
 | global g=>simp[ev,refs] at h1
theorem dx {os:List Operand} {o:Operand} (ho:o∈os):∀x,x∈fB σ o->x∈aS σ os:=by
 intro x hx
 induction os with
 | nil=>cases ho
 | cons y r ih=>
  simp only[aS,List.mem_append]
  rcases List.mem_cons.1 ho with rfl | h
  ·exact .inl hx
  ·exact .inr (ih h)
theorem ng:∀{os:List Operand},(∀x,x∈aS σ os->aP σ s x)->ew s os=ew σ os
 | [],_=>rfl
 | o::r,h=>by
  simp only[ew];rw[cC (λx hx=>h x (by simp[aS,hx])),ng (λx hx=>h x (by simp[aS,hx]))]
theorem vn {t:TypeId} {x:AV} (h:∀id,id∈refs x->aa s.hp id=aa σ.hp id):kD T s t x=kD T σ t x:=by
 unfold kD;split
 ·rfl
 ·rename_i id size row off;rw[h id p6]
 ·rfl
theorem xH {t:TypeId} {x:AV} (h:∀id,id∈refs x->aa s.hp id=aa σ.hp id):pU T s t x=pU T σ t x:=by
 unfold pU;split<;>try rfl
 rename_i id hu;rw[h id p6]
theorem xJ {x:AV} (h:∀id,id∈refs x->aa s.hp id=aa σ.hp id):mapOf s x=mapOf σ x:=by
 unfold mapOf;split
 ·rfl
 ·rfl
 ·rw[h _ p6]
 ·rfl
theorem oh {op:Op} (h:∀x,x∈aS σ op.operands.toList->aP σ s x):eH T s op=eH T σ op:=by
 have he:∀o,o∈op.operands.toList->evS s o=evS σ o:=λo ho=>cC λx hx=>h x (dx ho x hx)
 have hv:∀o,o∈op.operands.toList->ev s o=ev σ o:=λo ho=>wS λx hx=>h x (dx ho x hx)
 have hb:∀o,o∈op.operands.toList->∀id,id∈refs (evS σ o).2->aa s.hp id=aa σ.hp id:=λo ho id hid=>Bn (λx hx=>h x (dx ho x hx)) hid
 unfold eH;split
 ·rw[hv _ x7]
 ·rw[hv _ x7]
 ·rename_i c x y;rw[hv c x7,hv x x7,hv y x7]
 ·rename_i t x;rw[he x x7,vn (hb x x7)]
 ·rename_i x;rw[he x x7]
 ·rename_i op t x y ty;rw[he x x7,he y x7]
 ·rename_i op t x;rw[he x x7]
 ·rename_i t x j;rw[he x x7]
 ·rename_i t x j;rw[he x x7]
 ·rename_i t x y;rw[he x x7,he y x7]
 ·rename_i t x y;rw[he x x7,he y x7]
 ·rename_i t x lo hi;rw[he x x7];have e1:(lo.map λo=>(evS s o).2)=lo.map λo=>(evS σ o).2:=by
   cases lo with
   | none=>rfl
   | some o=>simp only[Option.map_some];rw[he o x7]
  have e2:(hi.map λo=>(evS s o).2)=hi.map λo=>(evS σ o).2:=by
   cases hi with
   | none=>rfl
   | some o=>simp only[Option.map_some];rw[he o x7]
  have e3:ew s lo.toList=ew σ lo.toList:=by
   cases lo with
   | none=>rfl
   | some o=>simp only[Option.toList,ew];rw[he o x7]
  have e4:ew s hi.toList=ew σ hi.toList:=by
   cases hi with
   | none=>rfl
   | some o=>simp only[Option.toList,ew];rw[he o x7]
  rw[e1,e2,e3,e4]
 ·rename_i x j;rw[he x x7]
 ·rename_i f first captured
  have:ew s captured.toList=ew σ captured.toList:=ng λx hx=>h x (by
   have hm:∀(l:List Operand),(∀o,o∈l->o∈(Op.makeFunc (.func f) first captured).operands.toList)->∀x,x∈aS σ l->x∈aS σ (Op.makeFunc (.func f) first captured).operands.toList:=by
    intro l
    induction l with
    | nil=>intro _ x hx;cases hx
    | cons o r ih=>
     intro ho x hx;simp only[aS,List.mem_append] at hx
     rcases hx with hx | hx
     ·exact dx (ho o (List.mem_cons_self ..)) x hx
     ·exact ih (λo' ho'=>ho o' (List.mem_cons_of_mem _ ho')) x hx
   exact hm _ (λo ho=>by simp[Op.operands] at ho ⊢;exact .inr ho) x hx)
  rw[this]
 ·rename_i args ats;split
  ·rename_i x t hx ht;have hm:x∈(Op.call { callee:=.builtin .len,args,argTypes:=ats }).operands.toList:=by simp[Op.operands,Call.operands,hx]
   rw[he x hm,xH (hb x hm)]
  ·rfl
 ·rename_i s t x;rw[he x x7]
 ·rename_i t x i ok;unfold pq;rw[he x x7,he i x7,xJ (hb x x7)]
 ·rfl
theorem gL {ops:Array Oper} {g:Option (Nat×Bool)} (h:∀x,x∈bN ops g->aP σ s x):guardOf ops s g=guardOf ops σ g:=by
 unfold guardOf;split
 ·rfl
 ·rename_i j want;split
  ·rename_i d hd;have:=h (.tm d) (by simp[bN,hd]);simp only[aP] at this;rw[this]
  ·rfl
def mj (ops:Array Oper) (σ:St) (o:Oper) (x:AV):Sp:=⟨o.dst,x,[],bN ops o.guard++aS σ o.op.operands.toList⟩
theorem Ed (hT:TabOK P T) {ops:Array Oper} {o:Oper} {c:Bool} {p:Prop} {x:AV} (hg:guardOf ops σ o.guard=some c) (h:eH T σ o.op=some (p,x)) (hp:c=true->p) (hc:c=true\/∃y,x=.cnd c y\/True) :
  Rob P C ops o (mj ops σ o (mkc c x)) σ:=by
 intro s ha _ a w K Q hr hK;have hg':guardOf ops s o.guard=some c:=by rw[gL (λx hx=>ha x (W2 _ hx))];exact hg
 have h':eH T s o.op=some (p,x):=by rw[oh (λx hx=>ha x (Ww _ hx))];exact h
 obtain ⟨μ,S,hi⟩:=hr;rw[bk hi hg'];cases c with
 | false=>exact hK _ _ ⟨μ,S,hi.put o.dst (vI (.cndF x))⟩
 | true=>
  refine .inl ?_;obtain ⟨u,h1,h2⟩:=kV hT hi o h' (hp rfl);unfold Oper.wp;rw[h1];exact hK _ _ ⟨μ,S,hi.put o.dst (vI (.cndT u x h2))⟩
theorem Ca (hT:TabOK P T) {ops:Array Oper} {o:Oper} {p:Prop} {x:AV} (hg:o.guard=none) (h:eH T σ o.op=some (p,x)) (hp:p):Rob P C ops o (mj ops σ o x) σ:=by
 intro s ha _ a w K Q hr hK;have h':eH T s o.op=some (p,x):=by rw[oh (λx hx=>ha x (Ww _ hx))];exact h
 obtain ⟨μ,S,hi⟩:=hr;have hw:Region.wanted o (yielded ops a.tmps)=true:=bk hi Qt;rw[hw];refine .inl ?_;obtain ⟨u,h1,h2⟩:=kV hT hi o h' hp;unfold Oper.wp;rw[h1];exact hK _ _ ⟨μ,S,hi.put o.dst h2⟩
def kP (T:Tab) (ops:Array Oper):List Oper->St->Option (Prop×List Sp×List Oper×St)
 | [],σ=>some (True,[],[],σ)
 | o::l,σ=>
  match eH T σ o.op with
  | some (p,x)=>
   match o.guard with
   | none=>(kP T ops l (σ.put o.dst x)).map λr=>(p/\r.1,mj ops σ o x::r.2.1,r.2.2)
   | some g=>
    match guardOf ops σ (some g) with
    | some c=>(kP T ops l (σ.put o.dst (mkc c x))).map λr=>((c=true->p)/\r.1,mj ops σ o (mkc c x)::r.2.1,r.2.2)
    | none=>none
  | none=>some (True,[],o::l,σ)
theorem nz (ops:Array Oper) (σ:St) (o:Oper) (x:AV):(mj ops σ o x).app σ=σ.put o.dst x:=by
 simp[Sp.app,mj]
theorem iT (hT:TabOK P T) (ops:Array Oper):∀(l:List Oper) (σ:St) {p:Prop} {ps:List Sp} {l':List Oper} {σ':St},kP T ops l σ=some (p,ps,l',σ')->p ->
  ∀{l2:List Oper} {ps2:List Sp},dt P C ops l2 ps2 σ'->l'=l2++(l'.drop l2.length)->∃l1,l=l1++l'/\dt P C ops (l1++l2) (ps++ps2) σ
 | [],σ,p,ps,l',σ',h,_,l2,ps2,hc,_=>by
  simp only[kP,Option.some.injEq,Prod.mk.injEq] at h;obtain ⟨_,rfl,rfl,rfl⟩:=h;exact ⟨[],rfl,hc⟩
 | o::l,σ,p,ps,l',σ',h,hp,l2,ps2,hc,he=>by
  unfold kP at h;split at h
  ·rename_i q x hpo;split at h
   ·rename_i hg;cases e:kP T ops l (σ.put o.dst x) with
    | none=>rw[e] at h;cases h
    | some r=>
     obtain ⟨r1,r2,r3,r4⟩:=r;simp only[e,Option.map_some,Option.some.injEq,Prod.mk.injEq] at h;obtain ⟨rfl,rfl,rfl,rfl⟩:=h;obtain ⟨l1,h1,h2⟩:=iT hT ops l _ e hp.2 hc he;exact ⟨o::l1,by rw[h1];rfl,Ca hT hg hpo hp.1,by rw[nz];exact h2⟩
   ·rename_i g hg;split at h
    ·rename_i c hc';cases e:kP T ops l (σ.put o.dst (mkc c x)) with
     | none=>rw[e] at h;cases h
     | some r=>
      obtain ⟨r1,r2,r3,r4⟩:=r;simp only[e,Option.map_some,Option.some.injEq,Prod.mk.injEq] at h;obtain ⟨rfl,rfl,rfl,rfl⟩:=h;obtain ⟨l1,h1,h2⟩:=iT hT ops l _ e hp.2 hc he;exact ⟨o::l1,by rw[h1];rfl,Ed hT (by rw[hg];exact hc') hpo hp.1 (.inr ⟨x,.inr trivial⟩),by rw[nz];exact h2⟩
    ·cases h
  ·simp only[Option.some.injEq,Prod.mk.injEq] at h;obtain ⟨_,rfl,rfl,rfl⟩:=h;exact ⟨[],rfl,hc⟩
end
end Go.Eng
namespace Go.Eng
section
variable {P:Program} {T:Tab} {C:Ctx} {σ σ' s:St} {Ret:St->Prop} {k:List It}
theorem ow:∀{ops:Array Oper} {l:List Oper} {σ:St} {p:Prop} {ps:List Sp} {l':List Oper} {σ':St},kP T ops l σ=some (p,ps,l',σ')->l.length=ps.length+l'.length/\cn ps σ=σ'/\∀(i:Nat) q,ps[i]? = some q->q.new=[]
 | ops,[],σ,p,ps,l',σ',h=>by
  simp only[kP,Option.some.injEq,Prod.mk.injEq] at h;obtain ⟨_,rfl,rfl,rfl⟩:=h;exact ⟨rfl,rfl,λi q h=>by simp at h⟩
 | ops,o::l,σ,p,ps,l',σ',h=>by
  unfold kP at h;split at h
  ·rename_i q x hpo;have fin:∀(y:AV) {f:Prop->Prop},(kP T ops l (σ.put o.dst y)).map (λr=>(f r.1,mj ops σ o y::r.2.1,r.2.2))=some (p,ps,l',σ') ->
     (o::l).length=ps.length+l'.length/\cn ps σ=σ'/\∀(i:Nat) q,ps[i]? = some q->q.new=[]:=by
    intro y f h;cases e:kP T ops l (σ.put o.dst y) with
    | none=>rw[e] at h;cases h
    | some r=>
     obtain ⟨r1,r2,r3,r4⟩:=r;simp only[e,Option.map_some,Option.some.injEq,Prod.mk.injEq] at h;obtain ⟨_,rfl,rfl,rfl⟩:=h;obtain ⟨h1,h2,h3⟩:=ow e;refine ⟨by simp[h1];omega,by simp only[cn,nz];exact h2,λi q hq=>?_⟩;cases i with
     | zero=>simp only[List.getElem?_cons_zero,Option.some.injEq] at hq;subst hq;rfl
     | succ i=>exact h3 i q Q5
   split at h
   ·exact fin x (f:=λr=>q/\r) h
   ·split at h
    ·rename_i c _;exact fin (mkc c x) (f:=λr=>(c=true->q)/\r) h
    ·cases h
  ·simp only[Option.some.injEq,Prod.mk.injEq] at h;obtain ⟨_,rfl,rfl,rfl⟩:=h;exact ⟨by simp,rfl,λi q h=>by simp at h⟩
def Dh (n:Nat) (sk:du):Bool:=sk.all λp=>p.1.all λ| .tm t=>decide (t<n) | .blk _=>true
def xE:List AV->List AV->Prop
 | [],[]=>True
 | x::l,y::m=>(y=.any\/x=y)/\xE l m
 | _,_=>False
theorem ud:∀{l m:List AV},xE l m->l.length=m.length/\∀(t:Nat) y,m[t]? = some y->y=.any\/l[t]? = some y
 | [],[],_=>⟨rfl,λt y h=>by simp at h⟩
 | x::l,y::m,h=>by
  obtain ⟨h1,h2⟩:=ud h.2;refine ⟨by simp[h1],λt z hz=>?_⟩;cases t with
  | zero=>
   simp only[List.getElem?_cons_zero,Option.some.injEq] at hz ⊢;subst hz;exact h.1
  | succ t=>simpa using h2 t z Q4
 | [],_::_,h=>h.elim
 | _::_,[],h=>h.elim
theorem Ig {l m:List AV} {H:List (Nat×Blk)} (h:xE l m):Le C ⟨l,H⟩ ⟨m,H⟩:=by
 intro a w ⟨μ,S,hi⟩;obtain ⟨h1,h2⟩:=ud h;refine ⟨μ,S,by rw[hi.size];exact h1,hi.defers,λt y hy=>?_,hi.hp,hi.dom,hi.inj,hi.frm,hi.sb⟩
 rcases h2 t y hy with rfl | h
 ·exact .any _
 ·exact hi.tm t y h
theorem wrap_small {n:Int} (h:-9223372036854775808≤n) (h2:n≤9223372036854775807):IntKind.i64.wrap n=n:=by
 simp[IntKind.wrap,IntKind.signed,IntKind.bits];omega
def kT (l:List AV):List (Nat×AV)->List AV
 | []=>l
 | (t,x)::r=>kT (l.set t x) r
def cD (h:List (Nat×Blk)):List (Nat×Blk)->List (Nat×Blk)
 | []=>h
 | (t,x)::r=>cD (aQ h t x) r
theorem ZL {ι:Type} (J:ι->Prop) (m:ι->Nat) (f:ι->List (Nat×AV)) (g:ι->List (Nat×Blk)) (i0:ι) {c:Code} {l:List AV} {H:List (Nat×Blk)} (hJ:J i0) (h0:Le C ⟨l,H⟩ ⟨kT l (f i0),cD H (g i0)⟩)
  (round:∀i,J i->Cw P C Ret (.code c::.back (λs=>∃j,J j/\m j<m i/\Le C s ⟨kT l (f j),cD H (g j)⟩)::k) ⟨kT l (f i),cD H (g i)⟩):Cw P C Ret (.code (.loop c)::k) ⟨l,H⟩:=by
 refine FH (ι:={ i // J i }) (λi=>⟨kT l (f i.1),cD H (g i.1)⟩) (λi=>m i.1) ⟨i0,hJ⟩ h0 λi=>?_
 intro a w hr;have:=round i.1 i.2 a w hr;refine wp_mono this λe a w q=>?_
 cases e with
 | normal=>
  obtain ⟨s,⟨j,hj,hm,hle⟩,hrs⟩:=q;exact ⟨s,⟨⟨j,hj⟩,hm,hle⟩,hrs⟩
 | _=>exact q
theorem wi {f:FuncId} {args:List AV} {r:AV} (h:ae P f args [] λr' _=>r'=r) {w:World} {vs:List Value} (hl:vs.length=args.length) {S:Nat->Prop}
  (hargs:∀(j:Nat) x,args[j]? = some x->RdP S w (vs.getD j undef) x) (hS:∀b,S b->b<w.heap.size) (hg:GOK (λ_=>none) w) :
  Calls P f vs.toArray w λe w'=>∃v μ S',e=.returned v/\Rd μ S' w' v r/\Frm (λ_=>False) w w':=by
 refine (h S (λ_=>none) w vs hl (λj x hx=>.pure (hargs j x hx)) ⟨λid b h=>by simp[aa] at h,λid g h=>Qp,λid id' g h=>Qp,hg⟩ hS).mono ?_;rintro e w' ⟨v,r',H',μ',S',rfl,rfl,k1,_,k3,_,_⟩;exact ⟨v,μ',S',rfl,k1,⟨k3.os,k3.tape,k3.output,k3.size,λb hb _=>k3.block b hb WN⟩⟩
end
end Go.Eng
namespace Go.Eng
section
variable {P:Program} {T:Tab} {C:Ctx} {σ σ':St}
mutual
def ren (off:Nat):AV->AV
 | .ptr id s r o=>.ptr (id+off) s r o
 | .osl id s o n=>.osl (id+off) s o n
 | .mp id=>.mp (id+off)
 | .exs id s o n c=>.exs (id+off) s o n c
 | .agg cells=>.agg (f_ off cells)
 | .tup vs=>.tup (f_ off vs)
 | .fn f caps=>.fn f (f_ off caps)
 | .cnd c v=>.cnd c (ren off v)
 | x=>x
def f_ (off:Nat):List AV->List AV
 | []=>[]
 | x::r=>ren off x::f_ off r
end
theorem kc (off:Nat):∀l,f_ off l=l.map (ren off)
 | []=>rfl
 | x::r=>by simp[f_,kc off r]
theorem RdP.Iz {S:Nat->Prop} {w:World} {v:Value} {x:AV} (h:RdP S w v x) (off:Nat):ren off x=x:=by
 have key:∀(l:List AV),(∀(j:Nat) x,l[j]? = some x->ren off x=x)->f_ off l=l:=by
  intro l
  induction l with
  | nil=>intro _;rfl
  | cons y r ih=>
   intro h;simp only[f_];rw[h 0 y rfl,ih (λj x hj=>h (j+1) x QC)]
 induction h with
 | fn f vals caps hl hr ih=>simp only[ren];rw[key caps ih]
 | agg cs cells hl hr ih=>simp only[ren];rw[key cells ih]
 | _=>rfl
theorem Rd.ren {μ μ':Nat->Option Nat} {S:Nat->Prop} {w:World} {v:Value} {x:AV} (off:Nat) (h:Rd μ S w v x) (hm:∀id,id∈refs x->∀g,μ id=some g->μ' (id+off)=some g):Rd μ' S w v (ren off x):=by
 induction h with
 | any v=>exact .any v
 | pure h=>rw[h.Iz];exact .pure h
 | agg cs cells hl hr ih=>
  simp only[Eng.ren,kc];refine .agg cs _ Qj (λj x hx=>?_);rw[Wm] at hx;cases e:cells[j]? with
  | none=>rw[e] at hx;cases hx
  | some y=>
   rw[e] at hx;simp only[Option.map_some,Option.some.injEq] at hx;subst hx;exact ih j y e (λid hid=>hm id Zz)
 | tup cs cells hl hr ih=>
  simp only[Eng.ren,kc];refine .tup cs _ Qj (λj x hx=>?_);rw[Wm] at hx;cases e:cells[j]? with
  | none=>rw[e] at hx;cases hx
  | some y=>
   rw[e] at hx;simp only[Option.map_some,Option.some.injEq] at hx;subst hx;exact ih j y e (λid hid=>hm id Zz)
 | fn f vals cells hl hr ih=>
  simp only[Eng.ren,kc];refine .fn f vals _ Qj (λj x hx=>?_);rw[Wm] at hx;cases e:cells[j]? with
  | none=>rw[e] at hx;cases hx
  | some y=>
   rw[e] at hx;simp only[Option.map_some,Option.some.injEq] at hx;subst hx;exact ih j y e (λid hid=>hm id Zz)
 | ptr i size row o g hg=>exact .ptr _ size row o g (hm i p6 g hg)
 | osl i size o len cap A hc h=>
  refine .osl _ size o len cap A hc ?_
  rcases h with h | ⟨g,e,n,h1,h2,h3,h4⟩
  ·exact .inl h
  ·exact .inr ⟨g,e,n,hm i p6 g h1,h2,h3,h4⟩
 | mp i g hg=>exact .mp _ g (hm i p6 g hg)
 | exs i size o len cap g e n hc hg hr hn=>exact .exs _ size o len cap g e n hc (hm i p6 g hg) hr hn
 | cndT v x h ih=>exact .cndT v _ (ih (λid hid=>hm id Z1))
 | cndF x=>exact .cndF _
theorem Rd.less {μ μ':Nat->Option Nat} {S:Nat->Prop} {w:World} {v:Value} {x:AV} (h:Rd μ S w v x) (hm:∀id,id∈refs x->∀g,μ id=some g->μ' id=some g):Rd μ' S w v x:=by
 induction h with
 | any v=>exact .any v
 | pure h=>exact .pure h
 | agg cs cells hl hr ih=>exact .agg cs cells hl (λj x hx=>ih j x hx (λid hid=>hm id Zv))
 | tup cs cells hl hr ih=>exact .tup cs cells hl (λj x hx=>ih j x hx (λid hid=>hm id Zv))
 | fn f vals cells hl hr ih=>exact .fn f vals cells hl (λj x hx=>ih j x hx (λid hid=>hm id Zv))
 | ptr i size row o g hg=>exact .ptr _ size row o g (hm i p6 g hg)
 | osl i size o len cap A hc h=>
  refine .osl _ size o len cap A hc ?_
  rcases h with h | ⟨g,e,n,h1,h2,h3,h4⟩
  ·exact .inl h
  ·exact .inr ⟨g,e,n,hm i p6 g h1,h2,h3,h4⟩
 | mp i g hg=>exact .mp _ g (hm i p6 g hg)
 | exs i size o len cap g e n hc hg hr hn=>exact .exs _ size o len cap g e n hc (hm i p6 g hg) hr hn
 | cndT v x h ih=>exact .cndT v _ (ih (λid hid=>hm id Z1))
 | cndF x=>exact .cndF _
def aB:Blk->List Nat
 | .cells _ _ rows=>rows.flatMap aC
 | .map _=>[]
 | .iter ..=>[]
 | .cap id _ _=>[id]
 | .pin id _ _ _=>[id]
@[go_sem,simp] theorem IW (e s:Nat):aB (.cells e s [])=[]:=rfl
@[go_sem,simp] theorem Ix (e s:Nat) (r:List AV) (l:List (List AV)):aB (.cells e s (r::l))=aC r++aB (.cells e s l):=rfl
@[go_sem,simp] theorem IV (kvs:List (Int×AV)):aB (.map kvs)=[]:=rfl
@[go_sem,simp] theorem IU (id s N:Nat):aB (.cap id s N)=[id]:=rfl
@[go_sem,simp] theorem IX (id g t n:Nat):aB (.pin id g t n)=[id]:=rfl
@[go_sem,simp] theorem Iy (kvs:List (Int×AV)) (seen:List Int):aB (.iter kvs seen)=[]:=rfl
def zQ (off:Nat):Blk->Blk
 | .cells e s rows=>.cells e s (rows.map (f_ off))
 | .map kvs=>.map kvs
 | .iter kvs seen=>.iter kvs seen
 | .cap id s N=>.cap (id+off) s N
 | .pin id g t n=>.pin (id+off) g t n
def qB (off:Nat) (H:List (Nat×Blk)):List (Nat×Blk):=H.map λp=>(p.1+off,zQ off p.2)
theorem cQ.ren {μ μ':Nat->Option Nat} {S:Nat->Prop} {w:World} {id:Nat} {b:Blk} (off:Nat) (h:cQ μ S w id b) (hn:μ id=none->μ' (id+off)=none) (hs:∀g,μ id=some g->μ' (id+off)=some g)
  (hm:∀i,i∈aB b->∀g,μ i=some g->μ' (i+off)=some g):cQ μ' S w (id+off) (zQ off b):=by
 cases b with
 | cells e s rows=>
  rcases h with ⟨rfl,h2⟩ | ⟨g,c,h1,h2,h3,h4,h5⟩
  ·exact .inl ⟨rfl,hn h2⟩
  ·refine .inr ⟨g,c,hs g h1,h2,by simpa using h3,λrow hrow=>?_,λi row hi j x hx=>?_⟩
   ·obtain ⟨r,hr,rfl⟩:=Wq.1 hrow;rw[kc,List.length_map];exact h4 r hr
   ·rw[Wm] at hi;cases e1:rows[i]? with
    | none=>rw[e1] at hi;cases hi
    | some r=>
     rw[e1] at hi;simp only[Option.map_some,Option.some.injEq] at hi;subst hi;rw[kc,Wm] at hx;cases e2:r[j]? with
     | none=>rw[e2] at hx;cases hx
     | some y=>
      rw[e2] at hx;simp only[Option.map_some,Option.some.injEq] at hx;subst hx;exact (h5 i r e1 j y e2).ren off (λi hi=>hm i (List.mem_flatMap.2 ⟨r,Wn e1,a_ e2 hi⟩))
 | map kvs=>
  obtain ⟨g,es,clk,vals,h1,h2,h3,h4⟩:=h;exact ⟨g,es,clk,vals,hs g h1,h2,h3,h4⟩
 | iter kvs seen=>
  obtain ⟨g,es,clk,vals,had,h1,h2,h4⟩:=h;exact ⟨g,es,clk,vals,had,hs g h1,h2,h4⟩
 | cap id' s N=>
  obtain ⟨h1,g,e,h2,h3⟩:=h;exact ⟨hn h1,g,e,hm id' y7 g h2,h3⟩
 | pin id' g t n=>
  obtain ⟨h1,h2,h3⟩:=h;exact ⟨hn h1,hm id' y7 g h2,h3⟩
theorem cQ.less {μ μ':Nat->Option Nat} {S:Nat->Prop} {w:World} {id:Nat} {b:Blk} (h:cQ μ S w id b) (he:μ' id=μ id) (hm:∀i,i∈aB b->∀g,μ i=some g->μ' i=some g):cQ μ' S w id b:=by
 cases b with
 | cells e s rows=>
  rcases h with ⟨rfl,h2⟩ | ⟨g,c,h1,h2,h3,h4,h5⟩
  ·exact .inl ⟨rfl,he.trans h2⟩
  ·exact .inr ⟨g,c,he.trans h1,h2,h3,h4,λi row hi j x hx=>(h5 i row hi j x hx).less (λk hk=>hm k (List.mem_flatMap.2 ⟨row,Wn hi,a_ hx hk⟩))⟩
 | map kvs=>
  obtain ⟨g,es,clk,vals,h1,h2,h3,h4⟩:=h;exact ⟨g,es,clk,vals,he.trans h1,h2,h3,h4⟩
 | iter kvs seen=>
  obtain ⟨g,es,clk,vals,had,h1,h2,h4⟩:=h;exact ⟨g,es,clk,vals,had,he.trans h1,h2,h4⟩
 | cap id' s N=>
  obtain ⟨h1,g,e,h2,h3⟩:=h;exact ⟨he.trans h1,g,e,hm id' y7 g h2,h3⟩
 | pin id' g t n=>
  obtain ⟨h1,h2,h3⟩:=h;exact ⟨he.trans h1,hm id' y7 g h2,h3⟩
def sub (ids:List Nat):List (Nat×Blk)->List (Nat×Blk)
 | []=>[]
 | p::r=>if ids.contains p.1 then p::sub ids r else sub ids r
def del (ids:List Nat):List (Nat×Blk)->List (Nat×Blk)
 | []=>[]
 | p::r=>if ids.contains p.1 then del ids r else p::del ids r
theorem dc (ids:List Nat) (id:Nat):∀H,aa (sub ids H) id=if ids.contains id=true then aa H id else none
 | []=>by simp[sub,aa]
 | (i,b)::r=>by
  have ih:=dc ids id r;unfold sub
  by_cases e:i=id
  ·subst e
   by_cases h:ids.contains i=true
   ·rw[if_pos h,if_pos h];simp only[aa,if_true]
   ·rw[if_neg h,if_neg h,ih,if_neg h]
  ·by_cases h:ids.contains i=true
   ·rw[if_pos h];simp only[aa,if_neg e];exact ih
   ·rw[if_neg h];simp only[aa,if_neg e];exact ih
theorem fM (ids:List Nat) (id:Nat):∀H,aa (del ids H) id=if ids.contains id=true then none else aa H id
 | []=>by simp[del,aa]
 | (i,b)::r=>by
  have ih:=fM ids id r;unfold del
  by_cases e:i=id
  ·subst e
   by_cases h:ids.contains i=true
   ·rw[if_pos h,ih,if_pos h,if_pos h]
   ·rw[if_neg h,if_neg h];simp only[aa,if_true]
  ·by_cases h:ids.contains i=true
   ·rw[if_pos h];simp only[aa,if_neg e];exact ih
   ·rw[if_neg h];simp only[aa,if_neg e];exact ih
theorem pd (off id:Nat):∀H,aa (qB off H) id=if off≤id then (aa H (id-off)).map (zQ off) else none
 | []=>by simp[qB,aa]
 | (i,b)::r=>by
  have ih:=pd off id r;simp only[qB,List.map_cons,aa] at ih ⊢
  by_cases h:i+off=id
  ·subst h;simp
  ·rw[if_neg h,ih]
   by_cases h2:off≤id
   ·rw[if_pos h2,if_pos h2,if_neg z8]
   ·rw[if_neg h2,if_neg h2]
def jQ (ids:List Nat) (x:AV):AV:=if (refs x).any ids.contains then .any else x
def closed (K:List (Nat×Blk)) (xs:List Nat):Bool:=xs.all (λi=>(aa K i).isSome)&&K.all λp=>(aB p.2).all λi=>(aa K i).isSome
theorem bf:∀{H:List (Nat×Blk)} {id:Nat} {b:Blk},aa H id=some b->(id,b)∈H
 | (i,c)::r,id,b,h=>by
  simp only[aa] at h;split at h
  ·rename_i e;subst e;injection h with h;subst h;simp
  ·exact List.mem_cons_of_mem _ (bf h)
theorem sQ {o:Oper} {c:Operand} {args:Array Operand} {ats:Array TypeId} (ho:o.op=.call { callee:=.value c,args,argTypes:=ats }) {p:Prop} {f:FuncId} {xs:List AV}
  (h:ax σ c args.toList=some (p,f,xs)) (hp:p) (hc:aJ P f) (ids:List Nat) (off:Nat) {H K:List (Nat×Blk)} {r:AV} (hH:sub ids σ.hp=H)
  (hck:(aC xs).all ids.contains=true) (hc1:(H.all λp=>(aB p.2).all ids.contains)=true) (hc2:((del ids σ.hp).all λp=>(aB p.2).all λi=>!ids.contains i)=true)
  (hc3:closed K (refs r)=true) (hc4:(K.all λp=>(aa σ.hp (p.1+off)).isNone)=true)
  (hf:ae P f xs H λr' H'=>r'=r/\∀id b,aa K id=some b->aa H' id=some b) {τ:St} (hτ:(⟨σ.tm.map (jQ ids),qB off K++del ids σ.hp⟩:St).put o.dst (ren off r)=τ):eZ P C o σ τ:=by
 subst hH hτ;intro a w Kp Q ⟨μ,S,hi⟩ hKp;obtain ⟨vs,h1,h2,h3⟩:=jJ hi ho h hp hc;unfold Oper.wp;rw[h3]
 let μc:Nat->Option Nat:=λi=>if ids.contains i then μ i else none
 have mc:∀{i g},μc i=some g->ids.contains i=true/\μ i=some g:=fun {i g} h=>by
  simp only[μc] at h;split at h
  ·exact ⟨by assumption,h⟩
  ·cases h
 have mc':∀{i},ids.contains i=true->μc i=μ i:=fun {i} h=>by simp only[μc,h,if_true]
 rw[YZ] at hck;have hck:=λi hi=>List.all_eq_true.1 (hck.2 rfl) i hi
 refine (hf S μc w vs h1 (λj x hj=>(h2 j x hj).less λid hid g hg=>by rw[mc' (hck id (a_ hj hid))];exact hg) ⟨λid b hb=>?_,λid g hg=>?_,λid id' g hg hg'=>hi.inj id id' g (mc hg).2 (mc hg').2,hi.gok.sub λi g h=>⟨i,(mc h).2⟩⟩ (λb hb=>(hi.sb b hb).1)).mono ?_
 ·have hb':=hb;rw[dc] at hb;split at hb
  ·rename_i hid;have hall:=List.all_eq_true.1 hc1 _ (bf hb');exact (hi.hp id b hb).less (mc' hid) (λi hi' g hg=>by rw[mc' (List.all_eq_true.1 hall i hi')];exact hg)
  ·cases hb
 ·obtain ⟨k1,k2⟩:=mc hg;obtain ⟨⟨b,j1⟩,_,j3⟩:=hi.dom id g k2;exact ⟨⟨b,by rw[dc,if_pos k1];exact j1⟩,j3⟩
 rintro e w' ⟨v,r',H',μ',S',rfl,⟨rfl,hKH⟩,k1,k2,k3,k4,k5⟩;simp only[closed,Bool.and_eq_true] at hc3;obtain ⟨hr,hcl⟩:=hc3;have hr:∀i,i∈refs r'->∃b,aa K i=some b:=λi hi=>YR.1 (List.all_eq_true.1 hr i hi)
 have hcl:∀i b,aa K i=some b->∀j,j∈aB b->∃c,aa K j=some c:=λi b hb j hj=>YR.1 (List.all_eq_true.1 (List.all_eq_true.1 hcl _ (bf hb)) j hj)
 have hfree:∀i b,aa K i=some b->aa σ.hp (i+off)=none:=λi b hb=>by
  have:=List.all_eq_true.1 hc4 _ (bf hb);simpa using this
 let μ2:Nat->Option Nat:=λi=>if off≤i/\(aa K (i-off)).isSome=true then μ' (i-off) else if ids.contains i then none else μ i
 have m2K:∀{i b},aa K i=some b->μ2 (i+off)=μ' i:=fun {i b} hb=>by
  simp only[μ2];rw[if_pos ⟨by omega,by rw[Nat.add_sub_cancel,hb];rfl⟩,Nat.add_sub_cancel]
 have m2o:∀{i b},aa σ.hp i=some b->ids.contains i=false->μ2 i=μ i:=fun {i b} hb hn=>by
  simp only[μ2];rw[if_neg (by
   rintro ⟨q1,q2⟩;obtain ⟨b',q3⟩:=YR.1 q2;have:=hfree _ _ q3;rw[Nat.sub_add_cancel q1,hb] at this;cases this),hn]
  rfl
 have m2:∀{i g},μ2 i=some g->(∃j b,i=j+off/\aa K j=some b/\μ' j=some g)\/(ids.contains i=false/\μ i=some g/\∃b,aa σ.hp i=some b):=fun {i g} hg=>by
  simp only[μ2] at hg;split at hg
  ·rename_i q;obtain ⟨b,q3⟩:=YR.1 q.2;exact .inl ⟨i-off,b,by omega,q3,hg⟩
  ·split at hg
   ·cases hg
   ·rename_i q;exact .inr ⟨by simpa using q,hg,(hi.dom i g hg).1⟩
 have hfr:Frm (λg=>∃id,μc id=some g) w w':=k3;have hS:aK S w w':=λb hb=>hfr.block b (hi.sb b hb).1 Qc
 have hO:∀i g,μ i=some g->ids.contains i=false->w'.heap[g]? = w.heap[g]?:=λi g hg hn=>hfr.block g (hi.dom i g hg).2.2.2 (by
  rintro ⟨id,h⟩;obtain ⟨q1,q2⟩:=mc h;have:=hi.inj _ _ _ hg q2;subst this;rw[q1] at hn;cases hn)
 let S2:Nat->Prop:=λb=>S b\/S' b
 -- a value of ours that names nothing of 'ids'
 have rdO:∀{v x},Rd μ S w v x->(∀i,i∈refs x->ids.contains i=false)->Rd μ2 S2 w' v x:=fun {v x} hv hn=>by
  have h1:Rd (λi=>if ids.contains i then none else μ i) S w v x:=hv.less (λi hi g hg=>by rw[hn i hi];exact hg);refine h1.mono hS (λ_ h=>.inl h) (λi g hg=>?_) (λi g hg=>?_)
  ·split at hg
   ·cases hg
   ·rename_i q;have q:ids.contains i=false:=by simpa using q
    obtain ⟨⟨b,hb⟩,_⟩:=hi.dom i g hg;rw[m2o hb q];exact hg
  ·split at hg
   ·cases hg
   ·rename_i q;exact aO (hO i g hg (by simpa using q))
 have inv:Inv C μ2 S2 ⟨σ.tm.map (jQ ids),qB off K++del ids σ.hp⟩ a w':=by
  refine ⟨by simp[hi.size],hi.defers,λt x hx=>?_,λid b hb=>?_,λi g hg=>?_,λi j g hg hg'=>?_,hi.frm.step _ hfr (λg ⟨id,h⟩=>(hi.dom id g (mc h).2).2.1),λb hb=>?_⟩
  ·simp only[Wm] at hx;cases e:σ.tm[t]? with
   | none=>rw[e] at hx;cases hx
   | some y=>
    rw[e] at hx;simp only[Option.map_some,Option.some.injEq] at hx;subst hx;unfold jQ;split
    ·exact .any _
    ·rename_i q;refine rdO (hi.tm t y e) (λi hi'=>?_);simp only[List.any_eq_true,not_exists,not_and] at q;simpa using q i hi'
  ·simp only at hb;rw[aF] at hb;split at hb
   ·rw[pd] at hb;split at hb
    ·rename_i q;cases e:aa K (id-off) with
     | none=>rw[e] at hb;cases hb
     | some b0=>
      rw[e] at hb;simp only[Option.map_some,Option.some.injEq] at hb;subst hb;obtain ⟨j,rfl⟩:∃j,id=j+off:=⟨id-off,by omega⟩;rw[Nat.add_sub_cancel] at e;have:=(k2.blk j b0 (hKH j b0 e)).ren off (μ':=μ2) (λh=>by rw[m2K e];exact h) (λg h=>by rw[m2K e];exact h) (λi hi' g hg=>by
       obtain ⟨c,hc'⟩:=hcl j b0 e i hi';rw[m2K hc'];exact hg)
      exact this.mono (aK.refl _ _) (λ_ h=>.inr h) (λ_ _ h=>h) (λ_ _ _=>rfl) (λh=>h) (λ_ _=>rfl)
    ·cases hb
   ·rename_i hnK;rw[fM] at hb;split at hb
    ·cases hb
    ·rename_i q;have q:ids.contains id=false:=by simpa using q
     have hall:=List.all_eq_true.1 hc2 (id,b) (bf (by rw[fM,if_neg (by rw[q];simp)];exact hb));have h1:=(hi.hp id b hb).less (μ':=λi=>if ids.contains i then none else μ i) (by rw[q];rfl) (λi hi' g hg=>by
      have:=List.all_eq_true.1 hall i hi';rw[if_neg (by simpa using this)];exact hg)
     refine h1.mono hS (λ_ h=>.inl h) (λi g hg=>?_) (λi g hg=>?_) (λhn=>?_) (λg hg=>?_)
     ·split at hg
      ·cases hg
      ·rename_i q';obtain ⟨⟨b',hb'⟩,_⟩:=hi.dom i g hg;rw[m2o hb' (by simpa using q')];exact hg
     ·split at hg
      ·cases hg
      ·rename_i q';exact aO (hO i g hg (by simpa using q'))
     ·rw[m2o hb q];rw[q] at hn;exact hn
     ·rw[q] at hg;exact hO id g hg q
  ·rcases m2 hg with ⟨j,b,rfl,q1,q2⟩ | ⟨q1,q2,b,q3⟩
   ·obtain ⟨_,q4,q5⟩:=k2.dom j g q2;refine ⟨⟨zQ off b,?_⟩,?_,?_,q5⟩
    ·have e:aa (qB off K) (j+off)=some (zQ off b):=by rw[pd,if_pos z8,Nat.add_sub_cancel,q1];rfl
     rw[aF,if_pos ⟨_,bf e,rfl⟩,e]
    ·rcases k4 j g q2 with ⟨i,hi'⟩ | h
     ·exact (hi.dom i g (mc hi').2).2.1
     ·have:=hi.frm.size;exact .inr z8
    ·rintro (h | h)
     ·rcases k4 j g q2 with ⟨i,hi'⟩ | h'
      ·exact (hi.dom i g (mc hi').2).2.2.1 h
      ·have:=(hi.sb g h).1;omega
     ·exact q4 h
   ·obtain ⟨_,q4,q5,q6⟩:=hi.dom i g q2;refine ⟨⟨b,?_⟩,q4,?_,YN q6 hfr.size⟩
    ·rw[aF,if_neg,fM,if_neg (by rw[q1];simp)]
     ·exact q3
     ·rintro ⟨⟨i',b'⟩,hm,rfl⟩;obtain ⟨⟨j,c'⟩,hm',e⟩:=Wq.1 hm;simp only[Prod.mk.injEq] at e;have:=List.all_eq_true.1 hc4 _ hm';simp only at this;rw[e.1] at this;simp only at q3;rw[q3] at this;cases this
    ·rintro (h | h)
     ·exact q5 h
     ·rcases (k5 g h).2 with h | ⟨i',h⟩ | h
      ·exact q5 h
      ·obtain ⟨q7,q8⟩:=mc h;have:=hi.inj _ _ _ q2 q8;subst this;rw[q7] at q1;cases q1
      ·omega
  ·rcases m2 hg with ⟨i1,b1,rfl,p1,p2⟩ | ⟨p1,p2,b1,p3⟩<;>rcases m2 hg' with ⟨j1,c1,rfl,q1,q2⟩ | ⟨q1,q2,c1,q3⟩
   ·rw[k2.inj _ _ _ p2 q2]
   ·rcases k4 i1 g p2 with ⟨i',h⟩ | h
    ·obtain ⟨q7,q8⟩:=mc h;have:=hi.inj _ _ _ q2 q8;subst this;rw[q7] at q1;cases q1
    ·have:=(hi.dom _ _ q2).2.2.2;omega
   ·rcases k4 j1 g q2 with ⟨i',h⟩ | h
    ·obtain ⟨q7,q8⟩:=mc h;have:=hi.inj _ _ _ p2 q8;subst this;rw[q7] at p1;cases p1
    ·have:=(hi.dom _ _ p2).2.2.2;omega
   ·exact hi.inj _ _ _ p2 q2
  ·rcases hb with h | h
   ·exact ⟨YN (hi.sb b h).1 hfr.size,(hi.sb b h).2⟩
   ·refine ⟨(k5 b h).1,?_⟩
    rcases (k5 b h).2 with h | ⟨i',h⟩ | h
    ·exact (hi.sb b h).2
    ·rcases (hi.dom _ _ (mc h).2).2.1 with h | h
     ·exact .inr (.inl h)
     ·exact .inr (.inr h)
    ·have:=hi.frm.size;exact .inr (.inr z8)
 exact hKp _ _ ⟨μ2,S2,inv.put o.dst ((k1.ren off (λi hi' g hg=>by
  obtain ⟨b,hb⟩:=hr i hi';rw[m2K hb];exact hg)).mono (aK.refl _ _) (λ_ h=>.inr h) (λ_ _ h=>h) (λ_ _ _=>rfl))⟩
end
end Go.Eng
