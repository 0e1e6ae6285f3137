/- Texts of this claim, part 2: EngM, EngO, EngP, EngR, EngT, EngU, EngV, EngW, EngZ, EngS, EngAA, EngAB, Tab, Mod, EngQ, Bas, PTree, EngAC, EngAD, EngAE, EngAF. No condition. -/
import Derived.Test.YtmcfbfdonjllaaaGreatDoorZR1
import Derived.WalkSpells
import Derived.Lib.Overlaps
import Derived.Test.YtmcfbfdonjllaaaGreatDoorProg
import Derived.KernelRfl
import Derived.ReadAgain
import Derived.ChangeSame
import Derived.ChangeBears
import Derived.OpenShut
import Derived.RowKit
import Derived.WalkKit
import Derived.ProofKit
import Derived.Test.YtmcfbfdonjllaaaGreatDoorRows
import Derived.JoinedCond
import Derived.Laws.StructEq
import Derived.Lib.SlBytesConst
set_option maxRecDepth 10000
set_option maxHeartbeats 4000000
set_option linter.unusedSimpArgs false
set_option linter.unusedVariables false
namespace Go.Eng
section
variable {P:Program} {T:Tab} {C:Ctx} {σ σ':St}
inductive Loc where
 | tm (t:Nat)
 | blk (id:Nat)
 deriving DecidableEq
structure Sp where
 dst:Option Tmp
 val:AV
 new:List (Nat×Blk)
 rd:List Loc
def Sp.app (p:Sp) (σ:St):St:=St.put ⟨σ.tm,p.new++σ.hp⟩ p.dst p.val
def Sp.wr (p:Sp):List Loc:=(match p.dst with | some t=>[Loc.tm t] | none=>[])++p.new.map λb=>Loc.blk b.1
def bn (σ s:St):Loc->Prop
 | .tm t=>s.tm.getD t .any=σ.tm.getD t .any
 | .blk id=>aa s.hp id=aa σ.hp id
def rb (P:Program) (C:Ctx) (ops:Array Oper) (o:Oper) (σ σ':St):Prop:=
 ∀a w (K:Act->World->Prop) (Q:Exit->Act->World->Prop),Rel C σ a w->(∀a' w',Rel C σ' a' w'->K a' w') ->
  if Region.wanted o (yielded ops a.tmps) then o.wp P a w K Q\/(o.asks P a w/\LetsOut Q) else K (a.put o.dst undef) w
def Rob (P:Program) (C:Ctx) (ops:Array Oper) (o:Oper) (p:Sp) (σ:St):Prop:=
 ∀s,(∀x,x∈p.rd->bn σ s x)->(∀b,b∈p.new->Loc.blk b.1∉p.rd->aa s.hp b.1=none)->rb P C ops o s (p.app s)
def dP (P:Program) (C:Ctx) (ops:Array Oper):List Oper->List Sp->St->Prop
 | [],[],_=>True
 | o::l,p::ps,σ=>Rob P C ops o p σ/\dP P C ops l ps (p.app σ)
 | _,_,_=>False
def db:List Sp->St->St
 | [],σ=>σ
 | p::ps,σ=>db ps (p.app σ)
theorem aA (h k:List (Nat×Blk)) (id:Nat):aa (h++k) id=if (∃b,b∈h/\b.1=id) then aa h id else aa k id:=by
 induction h with
 | nil=>simp
 | cons p r ih=>
  obtain ⟨i,c⟩:=p;simp only[List.cons_append,aa]
  by_cases e:i=id
  ·subst e;simp
  ·rw[if_neg e,if_neg e,ih]
   by_cases h2:∃b,b∈r/\b.1=id
   ·rw[if_pos h2];obtain ⟨b,h3,h4⟩:=h2;rw[if_pos ⟨b,List.mem_cons_of_mem _ h3,h4⟩]
   ·rw[if_neg h2,if_neg];rintro ⟨b,h3,h4⟩
    rcases List.mem_cons.1 h3 with h5 | h5
    ·subst h5;exact e h4
    ·exact h2 ⟨b,h5,h4⟩
theorem My {p:Sp} {t:Nat} (h:p.dst=some t):Loc.tm t∈p.wr:=by simp[Sp.wr,h]
theorem CK {p:Sp} {id:Nat} (h:∃b,b∈p.new/\b.1=id):Loc.blk id∈p.wr:=by
 obtain ⟨b,hb,rfl⟩:=h;exact YB _ (W5.2 ⟨b,hb,rfl⟩)
theorem jO {s s':St} (hl:s.tm.length=s'.tm.length) (ht:∀t,s.tm.getD t .any=s'.tm.getD t .any) (hh:∀id,aa s.hp id=aa s'.hp id):Le C s s':=by
 intro a w ⟨μ,S,hi⟩;refine ⟨μ,S,by rw[hi.size,hl],hi.defers,λt x hx=>?_,λid b hb=>hi.hp id b (by rw[hh];exact hb),λid g hg=>?_,hi.inj,hi.frm,hi.sb⟩
 ·have hlt:t<s'.tm.length:=by
   by_cases h:t<s'.tm.length
   ·exact h
   ·rw[List.getElem?_eq_none z8] at hx;cases hx
  have e:=ht t;rw[List.getD_eq_getElem?_getD,List.getD_eq_getElem?_getD,hx,Wz z8] at e;simp only[Option.getD_some] at e;exact hi.tm t x (by rw[Wz z8,e])
 ·obtain ⟨⟨b,h1⟩,h2⟩:=hi.dom id g hg;exact ⟨⟨b,by rw[<-hh];exact h1⟩,h2⟩
def upto (ps:List Sp) (i:Nat) (σ:St):St:=db (ps.take i) σ
theorem E8:∀(ps:List Sp) (i:Nat) (σ:St) {p:Sp},ps[i]? = some p->upto ps (i+1) σ=p.app (upto ps i σ)
 | [],i,σ,p,h=>by simp at h
 | q::r,0,σ,p,h=>by
  simp only[List.getElem?_cons_zero,gL] at h;subst h;simp[upto,db]
 | q::r,i+1,σ,p,h=>by
  have:=E8 r i (q.app σ) (p:=p) x7;simpa[upto,db] using this
theorem vE {ops:Array Oper}:∀(l:List Oper) (ps:List Sp) (σ:St),dP P C ops l ps σ->∀i o p,l[i]? = some o->ps[i]? = some p->Rob P C ops o p (upto ps i σ)
 | [],[],_,_,i,o,p,h,_=>by simp at h
 | o'::l,p'::ps,σ,h,i,o,p,ho,hp=>by
  cases i with
  | zero=>
   simp only[List.getElem?_cons_zero,gL] at ho hp;subst ho hp;simpa[upto,db] using h.1
  | succ i=>
   have:=vE l ps (p'.app σ) h.2 i o p (by simpa using ho) (by simpa using hp);simpa[upto,db] using this
 | [],_::_,_,h,_,_,_,_,_=>h.elim
 | _::_,[],_,h,_,_,_,_,_=>h.elim
def mX (ops:Array Oper) (i:Nat):List Nat:=
 match ops[i]? with
 | some o=>(o.after.toList.filter λe=>Region.binds .any e).map (·.on)
 | none=>[]
def reach (ops:Array Oper):Nat->Nat->Nat->Bool
 | 0,_,_=>false
 | f+1,i,j=>(mX ops j).any λe=>e==i||reach ops f i e
theorem jc {ops:Array Oper} {listed:Array Bool} (hc:∀j,listed.getD j false=true->∀e,e∈mX ops j->listed.getD e false=true) :
  ∀(f i j:Nat),reach ops f i j=true->(∀e,e∈mX ops j->listed.getD e false=true)->listed.getD i false=true
 | 0,_,_,h,_=>by cases h
 | f+1,i,j,h,hj=>by
  simp only[reach,List.any_eq_true,Bool.or_eq_true,beq_iff_eq] at h;obtain ⟨e,he,h1⟩:=h
  rcases h1 with rfl | h1
  ·exact hj _ he
  ·exact jc hc f i e h1 (hc e (hj e he))
abbrev dA:=List (List Loc×List Loc)
def iO (ps:List Sp):dA:=ps.map λp=>(p.wr,p.rd)
def Fs (ops:Array Oper) (j:Nat) (t:List Nat):Nat:=(mX ops j).foldl (λm e=>m ||| ((1 <<< e) ||| (if e<j then t.getD (j-1-e) 0 else 0))) 0
def sZ (ops:Array Oper):Nat->List Nat
 | 0=>[]
 | j+1=>Fs ops j (sZ ops j)::sZ ops j
def hit (n:Nat) (t:List Nat) (i j:Nat):Bool:=(t.getD (n-1-j) 0).testBit i
theorem oH {ops:Array Oper}:∀(f g:Nat) {i j:Nat},f<=g->reach ops f i j=true->reach ops g i j=true
 | 0,_,i,j,_,h=>by cases h
 | f+1,0,i,j,hfg,_=>by omega
 | f+1,g+1,i,j,hfg,h=>by
  simp only[reach,List.any_eq_true,Bool.or_eq_true,beq_iff_eq] at h ⊢;obtain ⟨e,he,h1⟩:=h;refine ⟨e,he,?_⟩
  rcases h1 with h1 | h1
  ·exact .inl h1
  ·exact .inr (oH f g z8 h1)
theorem yJ {F:Nat->Nat} {i:Nat}:∀(l:List Nat) (m:Nat),(l.foldl (λm e=>m ||| F e) m).testBit i=true->m.testBit i=true\/∃e,e∈l/\(F e).testBit i=true
 | [],m,h=>.inl h
 | e::l,m,h=>by
  simp only[List.foldl_cons] at h
  rcases yJ l _ h with h | ⟨e',he,h⟩
  ·rw[Nat.testBit_or,Bool.or_eq_true] at h
   rcases h with h | h
   ·exact .inl h
   ·exact .inr ⟨e,by simp,h⟩
  ·exact .inr ⟨e',by simp[he],h⟩
theorem Iv {i e:Nat} (h:(1 <<< e).testBit i=true):i=e:=by
 simp only[Nat.testBit_shiftLeft,Bool.and_eq_true,decide_eq_true_eq] at h;obtain ⟨h1,h2⟩:=h;have:i-e=0:=by
  by_cases h3:i-e=0
  ·exact h3
  ·rw[show i-e=(i-e-1)+1 from by omega,Nat.testBit_succ] at h2;simp at h2
 omega
theorem mn (ops:Array Oper):∀(n j i:Nat),j<n->((sZ ops n).getD (n-1-j) 0).testBit i=true->reach ops (j+1) i j=true
 | 0,j,i,h,_=>by omega
 | n+1,j,i,h,hb=>by
  by_cases e:j=n
  ·subst e;simp only[sZ,Nat.add_sub_cancel,Ym,List.getD_cons_zero] at hb;unfold Fs at hb
   rcases yJ _ _ hb with h1 | ⟨e,he,h1⟩
   ·simp at h1
   ·simp only[reach,List.any_eq_true,Bool.or_eq_true,beq_iff_eq];refine ⟨e,he,?_⟩;rw[Nat.testBit_or,Bool.or_eq_true] at h1
    rcases h1 with h1 | h1
    ·exact .inl (Iv h1).symm
    ·split at h1
     ·rename_i hlt;exact .inr (oH (e+1) j z8 (mn ops j e i hlt h1))
     ·simp at h1
  ·have e1:n+1-1-j=(n-1-j)+1:=by omega
   rw[e1] at hb;simp only[sZ,List.getD_cons_succ] at hb;exact mn ops n j i z8 hb
theorem qA {ops:Array Oper} {i j:Nat} (hj:j<ops.size) (h:hit ops.size (sZ ops ops.size) i j=true):reach ops ops.size i j=true:=
 oH (j+1) ops.size z8 (mn ops ops.size j i hj h)
def Hb (ops:Array Oper) (k:Nat) (sk:dA) (n:Nat) (t:List Nat):Bool:=
 ((List.range ops.size).all λi=>(mX ops i).all λe=>decide (e<i)) &&
 ((List.range ops.size).all λi=>decide (i<k+sk.length)||(List.range sk.length).all λs=>hit n t (k+s) i) &&
 ((List.range sk.length).all λi=>(List.range sk.length).all λj=>
  match sk[i]?,sk[j]? with
  | some p,some q=>i==j||(!(q.1.any λx=>p.1.contains x||p.2.contains x)||(if j<i then hit n t (k+j) (k+i) else hit n t (k+i) (k+j)))
  | _,_=>true)&&decide (k+sk.length<=ops.size)
def nj (ops:Array Oper) (k:Nat) (sk:dA):Bool:=Hb ops k sk ops.size (sZ ops ops.size)
def bj (n k:Nat):Array Bool:=(Array.range n).map λi=>decide (i<k)
theorem fI (n k j:Nat) (d:Bool):(bj n k).getD j d=if j<n then decide (j<k) else d:=by
 unfold bj;rw[Array.getD_eq_getD_getElem?,Array.getElem?_map,Array.getElem?_range];split<;>rfl
def bp (P:Program) (C:Ctx) (ops:Array Oper) (Q:Exit->Act->World->Prop) (k:Nat) (σ:St):Prop:=
 ∀a w,Rel C σ a w->wpAny P .any ops Q (ops.size-k) (bj ops.size k) a w
theorem FR {ops:Array Oper} {Q:Exit->Act->World->Prop} {k:Nat} (hk:k=ops.size) (h:∀a w,Rel C σ a w->Q .normal a w):bp P C ops Q k σ:=by
 intro a w hr;subst hk;have:Region.ready .any ops (bj ops.size ops.size)=[]:=by
  rw[List.eq_nil_iff_forall_not_mem];intro j hj;obtain ⟨h1,o,ho,_⟩:=mem_ready.1 hj;have hlt:j<ops.size:=(Ye.1 ho).1;rw[fI,if_pos hlt] at h1;simp[hlt] at h1
 rw[Ym];exact ⟨this,h a w hr⟩
theorem tx {ops:Array Oper} {Q:Exit->Act->World->Prop} {i:Nat} {o:Oper} (ho:ops[i]? = some o) {s s':St} (ht:rb P C ops o s s') {K:Act->World->Prop} {a:Act} {w:World} (hr:Rel C s a w)
  (hK:∀a' w',Rel C s' a' w'->K a' w'):wpOp P ops Q i K a w:=by
 unfold wpOp;simp only[ho];exact ht a w K Q hr hK
theorem yX {ops:Array Oper} {Q:Exit->Act->World->Prop} {k:Nat} {o:Oper} (ho:ops[k]? = some o) (hc:Region.ready .any ops (bj ops.size k)=[k]) (ht:rb P C ops o σ σ') (h:bp P C ops Q (k+1) σ') :
  bp P C ops Q k σ:=by
 intro a w hr;have hlt:k<ops.size:=(Ye.1 ho).1;rw[show ops.size-k=(ops.size-(k+1))+1 from by omega];refine ⟨λh0=>(by rw[hc] at h0;cases h0),λi hi=>?_⟩;rw[hc,List.mem_singleton] at hi;subst hi;refine tx ho ht hr λa' w' hr'=>?_
 have e:(bj ops.size i).setIfInBounds i true=bj ops.size (i+1):=by
  apply Array.ext
  ·simp[bj]
  ·intro j h1 h2;simp only[bj,Array.size_setIfInBounds,Array.size_map,Array.size_range] at h1;rw[Array.getElem_setIfInBounds (by simpa[bj] using h1)];split
   ·rename_i e;subst e;simp[bj]
   ·rename_i e;simp[bj];omega
 rw[e];exact h a' w' hr'
theorem rv {D:Nat->Bool} {m:Nat} (hm:D m=false):∀(l:List Nat),l.Nodup->m∈l->(l.filter λj=>!(D j||j==m)).length+1=(l.filter λj=>!D j).length
 | [],_,h=>by cases h
 | x::r,hn,h=>by
  rw[List.nodup_cons] at hn
  rcases List.mem_cons.1 h with rfl | h'
  ·have e:(r.filter λj=>!(D j||j==m))=r.filter λj=>!D j:=by
    refine List.filter_congr λj hj=>?_
    have:j≠m:=by rintro rfl;exact hn.1 hj
    simp[this]
   simp only[List.filter_cons,hm,beq_self_eq_true,Bool.or_true,Bool.not_true,Bool.false_eq_true,if_false,Bool.not_false,if_true,List.length_cons];rw[e]
  ·have hx:x≠m:=by rintro rfl;exact hn.1 h'
   have ih:=rv hm r hn.2 h';simp only[List.filter_cons];have e:(x==m)=false:=by simpa using hx
   rw[e];simp only[Y1];split
   ·simp only[List.length_cons];omega
   ·exact ih
structure Ef where
 wr:List Loc
 rd:List Loc
 app:St->St
structure EfOK (e:Ef):Prop where
 len:∀s,(e.app s).tm.length=s.tm.length
 frame:∀s x,x∉e.wr->bn s (e.app s) x
 det:∀s s',s'.tm.length=s.tm.length->∀x,x∈e.wr->bn (e.app s) (e.app s') x
theorem agR (s:St) (x:Loc):bn s s x:=by cases x<;>rfl
theorem agT {a b c:St} {x:Loc} (h:bn a b x) (k:bn b c x):bn a c x:=by cases x<;>exact Eq.trans k h
theorem agS {a b:St} {x:Loc} (h:bn a b x):bn b a x:=by cases x<;>exact Eq.symm h
def efU (es:List Ef) (i:Nat) (σ:St):St:=(es.take i).foldl (λs e=>e.app s) σ
theorem my (es:List Ef) (σ:St):efU es 0 σ=σ:=by simp[efU]
theorem tB {es:List Ef} {i:Nat} {e:Ef} (h:es[i]? = some e) (σ:St):efU es (i+1) σ=e.app (efU es i σ):=by
 unfold efU;obtain ⟨hi,he⟩:=W6.1 h;rw[List.take_succ_eq_append_getElem hi,List.foldl_append,he];rfl
theorem sv {es:List Ef} (hok:∀e,e∈es->EfOK e) (σ:St):∀i,i<=es.length->(efU es i σ).tm.length=σ.tm.length
 | 0,_=>by rw[my]
 | i+1,h=>by
  have hi:es[i]? = some es[i]:=Wz z8;rw[tB hi,(hok _ (W3 hi)).len,sv hok σ i z8]
def fB (W:Nat->Bool):Nat->Nat
 | 0=>0
 | n+1=>if W n=true then n+1 else fB W n
theorem zO (W:Nat->Bool):∀n,fB W n<=n
 | 0=>W7 _
 | n+1=>by unfold fB;split<;>have:=zO W n<;>omega
theorem ub (W:Nat->Bool):∀n j,fB W n<=j->j<n->W j=false
 | 0,j,_,h=>by omega
 | n+1,j,h,hj=>by
  unfold fB at h;split at h
  ·omega
  ·rename_i hn
   by_cases e:j=n
   ·subst e;simpa using hn
   ·exact ub W n j h z8
theorem wj {W W':Nat->Bool} {m:Nat} (h:∀j,W' j=(W j||j==m)):∀n,m<n->(∀j,m<j->j<n->W j=false)->fB W' n=m+1
 | 0,h0,_=>by omega
 | n+1,h0,hl=>by
  unfold fB
  by_cases e:m=n
  ·subst e;rw[if_pos (by rw[h];simp)]
  ·have h1:=hl n z8 (Nat.lt_succ_self n);rw[if_neg (by rw[h,h1];simp;omega)];exact wj h n z8 λj h2 h3=>hl j h2 z8
theorem mM {W W':Nat->Bool}:∀n,(∀j,j<n->W' j=W j)->fB W' n=fB W n
 | 0,_=>rfl
 | n+1,h=>by
  unfold fB;rw[h n (Nat.lt_succ_self n),mM n λj hj=>h j z8]
def wrB (es:List Ef) (x:Loc) (j:Nat):Bool:=match es[j]? with
 | some e=>decide (x∈e.wr)
 | none=>false
theorem vO {es:List Ef} (hok:∀e,e∈es->EfOK e) (σ:St) (x:Loc) (i:Nat):∀j,i<=j->j<=es.length->(∀m,i<=m->m<j->wrB es x m=false)->bn (efU es i σ) (efU es j σ) x
 | 0,h,_,_=>by rw[show i=0 by omega];exact agR _ _
 | j+1,h,hj,hno=>by
  by_cases e:i=j+1
  ·rw[e];exact agR _ _
  ·have hi:es[j]? = some es[j]:=Wz z8;have h1:=vO hok σ x i j z8 z8 λm h1 h2=>hno m h1 z8
   rw[tB hi];refine agT h1 ((hok _ (W3 hi)).frame _ x ?_);have:=hno j z8 (Nat.lt_succ_self j);unfold wrB at this;rw[hi] at this;simpa using this
structure Desc2 (σ:St) (es:List Ef) (D:Nat->Bool) (s:St):Prop where
 len:s.tm.length=σ.tm.length
 at_:∀x,bn (efU es (fB (λj=>D j&&wrB es x j) es.length) σ) s x
theorem Desc2.start (σ:St) (es:List Ef):Desc2 σ es (λ_=>false) σ:=⟨rfl,λx=>by
 have:fB (λj=>false&&wrB es x j) es.length=0:=by
  have:∀n,fB (λj=>false&&wrB es x j) n=0:=λn=>by
   induction n with
   | zero=>rfl
   | succ n ih=>unfold fB;rw[if_neg w8];exact ih
  exact this _
 rw[this,my];exact agR _ _⟩
theorem Desc2.same {es:List Ef} {D:Nat->Bool} {s:St} (hok:∀e,e∈es->EfOK e) (h:Desc2 σ es D s) {x:Loc} {m:Nat} (hm:m<=es.length) (hx:∀j,j<es.length->wrB es x j=true->D j=decide (j<m)):bn (efU es m σ) s x:=by
 have h1:=h.at_ x;have h2:fB (λj=>D j&&wrB es x j) es.length=fB (λj=>decide (j<m)&&wrB es x j) es.length:=mM _ λj hj=>by
  cases e:wrB es x j with
  | false=>simp
  | true=>rw[hx j hj e]
 rw[h2] at h1;have h3:fB (λj=>decide (j<m)&&wrB es x j) es.length<=m:=by
  rcases Nat.lt_or_ge m (fB (λj=>decide (j<m)&&wrB es x j) es.length) with h4 | h4
  ·exfalso
   have key:∀n,m<fB (λj=>decide (j<m)&&wrB es x j) n->False:=λn=>by
    induction n with
    | zero=>intro h;simp[fB] at h
    | succ n ih=>
     intro h;unfold fB at h;split at h
     ·rename_i hw;simp at hw;omega
     ·exact ih h
   exact key _ h4
  ·exact h4
 refine agT ?_ h1;refine agS (vO hok σ x _ m h3 hm λj h4 h5=>?_);have:=ub _ es.length j h4 z8;simpa[h5] using this
theorem Desc2.add {es:List Ef} {D:Nat->Bool} {s:St} (hok:∀e,e∈es->EfOK e) (h:Desc2 σ es D s) {m:Nat} {e:Ef} (he:es[m]? = some e) (hlate:∀x,x∈e.wr->∀j,m<j->j<es.length->wrB es x j=true->D j=false):Desc2 σ es (λj=>D j||j==m) (e.app s):=by
 have hm:m<es.length:=(W6.1 he).1;have heo:=hok e (W3 he);refine ⟨by rw[heo.len];exact h.len,λx=>?_⟩
 by_cases hx:x∈e.wr
 ·have hw:wrB es x m=true:=by simp only[wrB,he];simpa using hx
  rw[wj (W:=λj=>D j&&wrB es x j) (m:=m) (λj=>show ((D j||j==m)&&wrB es x j)=((D j&&wrB es x j)||j==m) from by
   by_cases e2:j=m
   ·subst e2;rw[hw,beq_self_eq_true,Bool.or_true,Bool.or_true];rfl
   ·rw[beq_false_of_ne e2,Y1,Y1]) es.length hm λj h1 h2=>by
    cases e3:wrB es x j with
    | false=>simp
    | true=>rw[hlate x hx j h1 h2 e3];rfl]
  rw[tB he];exact heo.det _ _ (by rw[h.len,sv hok σ m z8]) x hx
 ·have hw:wrB es x m=false:=by simp only[wrB,he];simpa using hx
  rw[mM (W:=λj=>D j&&wrB es x j) _ λj hj=>show ((D j||j==m)&&wrB es x j)=(D j&&wrB es x j) from by
   by_cases e2:j=m
   ·subst e2;rw[hw,Bool.and_false,Bool.and_false]
   ·rw[beq_false_of_ne e2,Y1]]
  exact agT (h.at_ x) (heo.frame s x hx)
def skE (es:List Ef):dA:=es.map λe=>(e.wr,e.rd)
structure SegFacts2 (ops:Array Oper) (k:Nat) (es:List Ef):Prop where
 lt:∀i,i<ops.size->∀e,e∈mX ops i->e<i
 late:∀i,i<ops.size->k+es.length<=i->∀s,s<es.length->reach ops ops.size (k+s) i=true
 od:∀(i j:Nat) p q x,es[i]? = some p->es[j]? = some q->x∈q.wr->(x∈p.rd\/x∈p.wr)->i≠j->(j<i/\reach ops ops.size (k+j) (k+i)=true)\/(i<j/\reach ops ops.size (k+i) (k+j)=true)
 size:k+es.length<=ops.size
theorem Cj {ops:Array Oper} {k:Nat} {ps:List Ef} (h:nj ops k (skE ps)=true):SegFacts2 ops k ps:=by
 unfold nj Hb at h;simp only[Bool.and_eq_true,decide_eq_true_eq] at h;obtain ⟨⟨⟨h1,h2⟩,h3⟩,h4⟩:=h;have hl:(skE ps).length=ps.length:=by simp[skE]
 rw[hl] at h2 h3 h4;have key:∀(i j:Nat) (p q:Ef),ps[i]? = some p->ps[j]? = some q->i=j\/((∀x,x∈q.wr->x∉p.wr/\x∉p.rd)\/(if j<i then reach ops ops.size (k+j) (k+i) else reach ops ops.size (k+i) (k+j))=true):=by
  intro i j p q hp hq;have hi:i<ps.length:=(W6.1 hp).1;have hj:j<ps.length:=(W6.1 hq).1;have:=List.all_eq_true.1 (List.all_eq_true.1 h3 i (Yn.2 hi)) j (Yn.2 hj);simp only[skE,W2,hp,hq,Option.map_some,Bool.or_eq_true,beq_iff_eq,Yb,List.any_eq_false,YS] at this
  rcases this with h | h6
  ·exact .inl h
  ·refine .inr ?_
   rcases h6 with h6 | h6
   ·exact .inl (λx hx=>⟨λhx'=>h6 x hx (.inl hx'),λhx'=>h6 x hx (.inr hx')⟩)
   ·refine .inr ?_;split at h6
    ·rw[if_pos (by assumption)];exact qA z8 h6
    ·rw[if_neg (by assumption)];exact qA z8 h6
 refine ⟨λi hi e he=>?_,λi hi hle s hs=>?_,λi j p q x hp hq hx hx' hne=>?_,h4⟩
 ·have:=List.all_eq_true.1 (List.all_eq_true.1 h1 i (Yn.2 hi)) e he;simpa using this
 ·have:=List.all_eq_true.1 h2 i (Yn.2 hi);simp only[Bool.or_eq_true,decide_eq_true_eq] at this
  rcases this with h | h
  ·omega
  ·exact qA hi (List.all_eq_true.1 h s (Yn.2 hs))
 ·rcases key i j p q hp hq with h | h
  ·exact absurd h hne
  ·rcases h with h | h
   ·rcases hx' with hx' | hx'
    ·exact absurd hx' (h x hx).2
    ·exact absurd hx' (h x hx).1
   ·split at h
    ·exact .inl ⟨by assumption,h⟩
    ·exact .inr ⟨by omega,h⟩
theorem Hs {es:List Ef} {x:Loc} {j:Nat} (h:wrB es x j=true):∃q,es[j]? = some q/\x∈q.wr:=by
 unfold wrB at h;cases e:es[j]? with
 | none=>rw[e] at h;cases h
 | some q=>rw[e] at h;exact ⟨q,rfl,by simpa using h⟩
theorem CX {ops:Array Oper} {Q:Exit->Go.Act->World->Prop} {k:Nat} {l:List Oper} {es:List Ef} (hck:nj ops k (skE es)=true) (hlen:l.length=es.length)
  (hl:∀i,i<es.length->ops[k+i]? = l[i]?) (hok:∀e,e∈es->EfOK e)
  (hrob:∀m o e,l[m]? = some o->es[m]? = some e->∀s,s.tm.length=σ.tm.length->(∀x,(x∈e.rd\/x∈e.wr)->bn (efU es m σ) s x)->(∀x,∃i,i<=es.length/\bn (efU es i σ) s x)->rb P C ops o s (e.app s))
  (h:bp P C ops Q (k+es.length) (efU es es.length σ)):bp P C ops Q k σ:=by
 have hF:=Cj hck;have main:∀(r:Nat) (D:Nat->Bool) (listed:Array Bool) (s:St),((List.range es.length).filter λj=>!D j).length=r->listed.size=ops.size ->
   (∀j,j<ops.size->listed.getD j false=(decide (j<k)||(decide (j<k+es.length)&&D (j-k)))) ->
   (∀j,listed.getD j false=true->∀e,e∈mX ops j->listed.getD e false=true)->Desc2 σ es D s->∀a w,Rel C s a w->wpAny P .any ops Q (ops.size-(k+es.length)+r) listed a w:=by
  intro r
  induction r with
  | zero=>
   intro D listed s hr hsz hlist _ hd a w hrel;have hall:∀j,j<es.length->D j=true:=λj hj=>by
    have h0:(List.range es.length).filter (λj=>!D j)=[]:=List.eq_nil_of_length_eq_zero hr;have:=List.filter_eq_nil_iff.1 h0 j (Yn.2 hj);simpa using this
   have e:listed=bj ops.size (k+es.length):=by
    apply Array.ext
    ·simp[bj,hsz]
    ·intro j h1 h2;have hj:j<ops.size:=by omega
     have h3:=hlist j hj;rw[Array.getD_eq_getD_getElem?,YC h1,Option.getD_some] at h3;rw[h3];have h4:=fI ops.size (k+es.length) j false;rw[Array.getD_eq_getD_getElem?,YC h2,Option.getD_some,if_pos hj] at h4;rw[h4]
     by_cases hk:j<k
     ·simp[hk];omega
     ·by_cases hk2:j<k+es.length
      ·simp[hk,hk2,hall (j-k) z8]
      ·simp[hk,hk2]
   rw[Nat.add_zero,e];have hsame:Le C s (efU es es.length σ):=jO (hd.len.trans (sv hok σ _ (W7 _)).symm)
    (λt=>hd.same hok (x:=.tm t) (W7 _) λj hj _=>by rw[hall j hj];simp[hj])
    (λid=>hd.same hok (x:=.blk id) (W7 _) λj hj _=>by rw[hall j hj];simp[hj])
   exact h a w (hsame a w hrel)
  | succ r ih=>
   intro D listed s hr hsz hlist hclosed hd a w hrel;have hex:∃m,m<es.length/\D m=false:=by
    have hne:(List.range es.length).filter (λj=>!D j)≠[]:=by intro e;rw[e] at hr;simp at hr
    obtain ⟨m,hm⟩:=List.exists_mem_of_ne_nil _ hne;rw[YI,Yn] at hm;exact ⟨m,hm.1,by simpa using hm.2⟩
   obtain ⟨m0,⟨hm0,hD0⟩,hmin⟩:=least (p:=λm=>m<es.length/\D m=false) hex;have hun:listed.getD (k+m0) false=false:=by
    rw[hlist _ (by have:=hF.size;omega)];simp[show ¬k+m0<k by omega,hD0]
   refine ⟨λh0=>?_,λi hi=>?_⟩
   ·exfalso
    have:k+m0∈Region.ready .any ops listed:=by
     rw[mem_ready];have hlt':k+m0<ops.size:=by have:=hF.size;omega
     refine ⟨?_,ops[k+m0],YC hlt',λe he hb=>?_⟩
     ·rw[Array.getD_eq_getD_getElem?,YC z8] at hun ⊢;exact hun
     ·have hmem:e.on∈mX ops (k+m0):=by
       unfold mX;rw[YC hlt'];exact W5.2 ⟨e,YI.2 ⟨by simpa using he,hb⟩,rfl⟩
      have hl':=hF.lt _ hlt' _ hmem;rw[hlist _ z8]
      by_cases h1:e.on<k
      ·simp[h1]
      ·have h2:D (e.on-k)=true:=by
        cases h3:D (e.on-k) with
        | true=>rfl
        | false=>exact absurd ⟨by omega,h3⟩ (hmin (e.on-k) z8)
       simp[h1,h2,show e.on<k+es.length by omega]
    rw[h0] at this;cases this
   ·obtain ⟨h1,o,ho,hall⟩:=mem_ready.1 hi;have hilt:i<ops.size:=(Ye.1 ho).1;have hil:listed.getD i false=false:=by
     rw[Array.getD_eq_getD_getElem?,YC z8] at h1 ⊢;exact h1
    have hpl:∀e,e∈mX ops i->listed.getD e false=true:=λe he=>by
     unfold mX at he;rw[ho] at he;obtain ⟨ed,hed,rfl⟩:=W5.1 he;rw[YI] at hed;exact hall ed (by simpa using hed.1) hed.2
    have hik:k<=i:=by
     rw[hlist i hilt] at hil;simp at hil;omega
    have hiu:i<k+es.length:=by
     rcases Nat.lt_or_ge i (k+es.length) with h2 | h2
     ·exact h2
     ·have:=jc hclosed _ _ _ (hF.late i hilt h2 m0 hm0) hpl;rw[hun] at this;cases this
    obtain ⟨m,rfl⟩:∃m,i=k+m:=⟨i-k,by omega⟩;have hm:m<es.length:=by omega
    have hDm:D m=false:=by
     rw[hlist _ hilt] at hil;simpa[show ¬k+m<k by omega,hiu] using hil
    have hpm:es[m]? = some es[m]:=Wz hm;have hom:l[m]? = some o:=by rw[<-hl m hm];exact ho
    have key:∀x,(x∈es[m].rd\/x∈es[m].wr)->∀(j:Nat),j<es.length->wrB es x j=true->D j=decide (j<m):=λx hx j hj hwj=>by
     obtain ⟨q,hq,hxq⟩:=Hs hwj
     by_cases e:m=j
     ·subst e;simp[hDm]
     ·rcases hF.od m j _ q x hpm hq hxq hx e with ⟨h3,h4⟩ | ⟨h3,h4⟩
      ·have h5:=jc hclosed _ _ _ h4 hpl;rw[hlist _ z8] at h5;simp[show ¬k+j<k by omega] at h5;simp[h3,h5.2]
      ·cases h6:D j with
       | false=>simp;omega
       | true=>
        have h7:listed.getD (k+j) false=true:=by
         rw[hlist _ (by have:=hF.size;omega)];simp[h6,hj]
        have h8:=jc hclosed _ _ _ h4 (hclosed _ h7);rw[hil] at h8;cases h8
    have ht:=hrob m o es[m] hom hpm s hd.len (λx hx=>hd.same hok z8 (key x hx)) (λx=>⟨_,zO _ _,hd.at_ x⟩);refine tx ho ht hrel λa' w' hr'=>?_
    refine ih (λj=>D j||j==m) (listed.setIfInBounds (k+m) true) (es[m].app s) ?_ (by simp[hsz]) (λj hj=>?_) (λj hj e he=>?_) (hd.add hok hpm λx hx j hlt hj hw=>by rw[key x (.inr hx) j hj hw];simp;omega) a' w' hr'
    ·have:=rv hDm (List.range es.length) List.nodup_range (Yn.2 hm);omega
    ·by_cases e:k+m=j
     ·subst e;rw[Array.getD_eq_getD_getElem?,Array.getElem?_setIfInBounds_self_of_lt z8];simp[hiu]
     ·rw[getD_set_ne false e,hlist j hj];have:(j-k==m)=false\/j<k:=by
       by_cases h2:j<k
       ·exact .inr h2
       ·left;simp;omega
      rcases this with h2 | h2
      ·rw[h2];simp
      ·simp[h2]
    ·by_cases e':k+m=j
     ·subst e';exact getD_set_true (hpl e he)
     ·rw[getD_set_ne false e'] at hj;exact getD_set_true (hclosed j hj e he)
 intro a w hr;have h0:=main es.length (λ_=>false) (bj ops.size k) σ (by show ((List.range es.length).filter λ_=>true).length=es.length;rw[Ya.2 (λ_ _=>rfl)];simp) (by simp[bj]) (λj hj=>by rw[fI,if_pos hj];simp) (λj hj e he=>by
  rw[fI] at hj ⊢;split at hj
  ·rename_i hjn;have hlt':=hF.lt j hjn e he;rw[if_pos z8];simp at hj ⊢;omega
  ·cases hj) (Desc2.start σ es) a w hr
 rw[show ops.size-k=ops.size-(k+es.length)+es.length from by have:=hF.size;omega];exact h0
def efS (p:Sp):Ef:=⟨p.wr,p.rd,p.app⟩
theorem bO (l:List AV) (t u:Nat) (v:AV):(l.set t v).getD u .any=if t=u then (if t<l.length then v else .any) else l.getD u .any:=by
 rw[List.getD_eq_getElem?_getD,YM]
 by_cases h:t=u
 ·subst h;rw[if_pos rfl,if_pos rfl];split<;>rfl
 ·rw[if_neg h,if_neg h,List.getD_eq_getElem?_getD]
theorem FX (p:Sp):EfOK (efS p):=by
 have htm:∀s:St,(p.app s).tm=match p.dst with | some t=>s.tm.set t p.val | none=>s.tm:=λs=>by unfold Sp.app St.put;cases p.dst<;>rfl
 have hhp:∀s:St,(p.app s).hp=p.new++s.hp:=λs=>by unfold Sp.app;rw[St.hY]
 refine ⟨λs=>?_,λs x hx=>?_,λs s' hl x hx=>?_⟩
 ·show (p.app s).tm.length=_
  rw[htm];cases p.dst<;>simp
 ·cases x with
  | tm t=>
   show (p.app s).tm.getD t .any=s.tm.getD t .any
   rw[htm];cases e:p.dst with
   | none=>rfl
   | some u=>
    show (s.tm.set u p.val).getD t .any=_
    rw[bO,if_neg];rintro rfl;exact hx (My e)
  | blk id=>
   show aa (p.app s).hp id=aa s.hp id
   rw[hhp,aA,if_neg];exact λh=>hx (CK h)
 ·cases x with
  | tm t=>
   show (p.app s').tm.getD t .any=(p.app s).tm.getD t .any
   have hd:p.dst=some t:=by
    have hx:Loc.tm t∈p.wr:=hx;unfold Sp.wr at hx
    rcases List.mem_append.1 hx with h | h
    ·cases e:p.dst with
     | none=>rw[e] at h;cases h
     | some u=>rw[e] at h;rw[List.mem_singleton] at h;injection h with h;rw[h]
    ·obtain ⟨b,_,hb⟩:=W5.1 h;cases hb
   rw[htm,htm,hd]
   show (s'.tm.set t p.val).getD t .any=(s.tm.set t p.val).getD t .any
   rw[bO,bO,if_pos rfl,if_pos rfl,hl]
  | blk id=>
   show aa (p.app s').hp id=aa (p.app s).hp id
   have hb:∃b,b∈p.new/\b.1=id:=by
    have hx:Loc.blk id∈p.wr:=hx;unfold Sp.wr at hx
    rcases List.mem_append.1 hx with h | h
    ·cases e:p.dst with
     | none=>rw[e] at h;cases h
     | some u=>rw[e] at h;rw[List.mem_singleton] at h;cases h
    ·obtain ⟨b,hb,he⟩:=W5.1 h;injection he with he
     exact ⟨b,hb,he⟩
   rw[hhp,hhp,aA,aA,if_pos hb,if_pos hb]
theorem CY (ps:List Sp) (i:Nat) (σ:St):efU (ps.map efS) i σ=upto ps i σ:=by
 unfold efU upto;rw[<-List.map_take,List.foldl_map];generalize ps.take i=l
 induction l generalizing σ with
 | nil=>rfl
 | cons p l ih=>exact ih (p.app σ)
theorem FT {ops:Array Oper} {Q:Exit->Act->World->Prop} {k:Nat} {l:List Oper} {ps:List Sp} (hck:nj ops k (iO ps)=true) (hlen:l.length=ps.length)
  (hl:∀i,i<ps.length->ops[k+i]? = l[i]?) (hfr:∀(i:Nat) p,ps[i]? = some p->∀b,b∈p.new->Loc.blk b.1∉p.rd->aa (upto ps i σ).hp b.1=none)
  (hch:dP P C ops l ps σ) (h:bp P C ops Q (k+ps.length) (db ps σ)):bp P C ops Q k σ:=by
 have e:skE (ps.map efS)=iO ps:=by unfold skE iO;rw[Yf];rfl
 refine CX (l:=l) (es:=ps.map efS) (by rw[e];exact hck) (by simpa using hlen) (λi hi=>hl i Q9) (λe he=>by obtain ⟨p,_,rfl⟩:=W5.1 he;exact FX p) (λm o e ho he s _ hag _=>?_) (by rw[CY];unfold upto;rw[List.length_map,W4];exact h);rw[W2] at he;obtain ⟨p,hp,rfl⟩:=YV.1 he;rw[CY] at hag;exact vE l ps σ hch m o p ho hp s (λx hx=>hag x (.inl hx)) λb hb hn=>Eq.trans (show aa s.hp b.1=aa (upto ps m σ).hp b.1 from hag (.blk b.1) (.inr (CK ⟨b,hb,rfl⟩))) (hfr m p hp b hb hn)
theorem ZW {Ret:St->Prop} {k:List It} {id:Nat} {ops:Array Oper} (hm:P.follows .mixedOrders=true) (h:bp P C ops (aft (eI C Ret) (sem P C (eI C Ret) k)) 0 σ):Cw P C Ret (.code (.region id ops true)::k) σ:=λa w hr=>by
 obtain ⟨μ,S,hi⟩:=hr;refine wp_region_any hm ?_;have:=h a w.drew ⟨μ,S,hi.drew⟩;have e:bj ops.size 0=Array.replicate ops.size false:=by
  apply Array.ext<;>simp[bj]
 rw[e] at this;exact this
theorem jA {Ret:St->Prop} {k:List It} {ops:Array Oper} {n:Nat} (hn:n=ops.size) (h:Cw P C Ret k σ):bp P C ops (aft (eI C Ret) (sem P C (eI C Ret) k)) n σ:=
 FR hn λa w hr=>h a w hr
end
end Go.Eng
namespace Go.Eng
section
variable {P:Program} {T:Tab} {C:Ctx} {σ σ' s:St}
def fV (σ:St):Operand->List Loc
 | .tmp t=>.tm t::(refs (σ.tm.getD t .any)).map .blk
 | _=>[]
def aQ (σ:St):List Operand->List Loc
 | []=>[]
 | o::r=>fV σ o++aQ σ r
def cd (ops:Array Oper) (g:Option (Nat×Bool)):List Loc:=
 match g with
 | none=>[]
 | some (j,_)=>
  match (ops[j]?).bind (·.dst) with
  | some d=>[.tm d]
  | none=>[]
theorem zf {o:Operand} (h:∀x,x∈fV σ o->bn σ s x):ev s o=ev σ o:=by
 cases o with
 | tmp t=>exact h (.tm t) (by simp[fV])
 | _=>rfl
theorem ct {o:Operand} (h:∀x,x∈fV σ o->bn σ s x):evS s o=evS σ o:=by unfold evS;rw[zf h]
theorem uM (x:AV):∀id,id∈refs (strip x).2->id∈refs x:=by
 intro id h;cases x<;>first | exact h | simpa[strip,refs] using h
theorem DC {o:Operand} (h:∀x,x∈fV σ o->bn σ s x) {id:Nat} (hid:id∈refs (evS σ o).2):aa s.hp id=aa σ.hp id:=by
 have h1:=uM _ id hid;cases o with
 | tmp t=>
  refine h (.blk id) ?_;simp only[ev] at h1;exact List.mem_cons_of_mem _ (W5.2 ⟨id,h1,rfl⟩)
 | const v=>
  simp only[ev] at h1
  exfalso
  revert h1
  unfold ofValue;split<;>simp[refs]
 | func f=>simp[ev,refs,aB] at h1
 | global g=>simp[ev,refs] at h1
theorem dh {os:List Operand} {o:Operand} (ho:o∈os):∀x,x∈fV σ o->x∈aQ σ os:=by
 intro x hx
 induction os with
 | nil=>cases ho
 | cons y r ih=>
  simp only[aQ,List.mem_append]
  rcases List.mem_cons.1 ho with rfl | h
  ·exact .inl hx
  ·exact .inr (ih h)
theorem og:∀{os:List Operand},(∀x,x∈aQ σ os->bn σ s x)->eN s os=eN σ os
 | [],_=>rfl
 | o::r,h=>by
  simp only[eN];rw[ct (λx hx=>h x (by simp[aQ,hx])),og (λx hx=>h x (by simp[aQ,hx]))]
theorem xT {t:TypeId} {x:AV} (h:∀id,id∈refs x->aa s.hp id=aa σ.hp id):lJ T s t x=lJ T σ t x:=by
 unfold lJ;split
 ·rfl
 ·rename_i id size row off;rw[h id s8]
 ·rfl
theorem zV {t:TypeId} {x:AV} (h:∀id,id∈refs x->aa s.hp id=aa σ.hp id):rF T s t x=rF T σ t x:=by
 unfold rF;split<;>try rfl
 rename_i id hu;rw[h id s8]
theorem Aa {x:AV} (h:∀id,id∈refs x->aa s.hp id=aa σ.hp id):mapOf s x=mapOf σ x:=by
 unfold mapOf;split
 ·rfl
 ·rfl
 ·rw[h _ s8]
 ·rfl
theorem pI {op:Op} (h:∀x,x∈aQ σ op.operands.toList->bn σ s x):eX T s op=eX T σ op:=by
 have he:∀o,o∈op.operands.toList->evS s o=evS σ o:=λo ho=>ct λx hx=>h x (dh ho x hx)
 have hv:∀o,o∈op.operands.toList->ev s o=ev σ o:=λo ho=>zf λx hx=>h x (dh ho x hx)
 have hb:∀o,o∈op.operands.toList->∀id,id∈refs (evS σ o).2->aa s.hp id=aa σ.hp id:=λo ho id hid=>DC (λx hx=>h x (dh ho x hx)) hid
 unfold eX;split
 ·rw[hv _ j5]
 ·rw[hv _ j5]
 ·rename_i c x y;rw[hv c j5,hv x j5,hv y j5]
 ·rename_i t x;rw[he x j5,xT (hb x j5)]
 ·rename_i x;rw[he x j5]
 ·rename_i op t x y ty;rw[he x j5,he y j5]
 ·rename_i op t x;rw[he x j5]
 ·rename_i t x j;rw[he x j5]
 ·rename_i t x j;rw[he x j5]
 ·rename_i t x y;rw[he x j5,he y j5]
 ·rename_i t x y;rw[he x j5,he y j5]
 ·rename_i t x lo hi;rw[he x j5];have e1:(lo.map λo=>(evS s o).2)=lo.map λo=>(evS σ o).2:=by
   cases lo with
   | none=>rfl
   | some o=>simp only[Option.map_some];rw[he o j5]
  have e2:(hi.map λo=>(evS s o).2)=hi.map λo=>(evS σ o).2:=by
   cases hi with
   | none=>rfl
   | some o=>simp only[Option.map_some];rw[he o j5]
  have e3:eN s lo.toList=eN σ lo.toList:=by
   cases lo with
   | none=>rfl
   | some o=>simp only[Option.toList,eN];rw[he o j5]
  have e4:eN s hi.toList=eN σ hi.toList:=by
   cases hi with
   | none=>rfl
   | some o=>simp only[Option.toList,eN];rw[he o j5]
  rw[e1,e2,e3,e4]
 ·rename_i x j;rw[he x j5]
 ·rename_i f first captured
  have:eN s captured.toList=eN σ captured.toList:=og λx hx=>h x (by
   have hm:∀(l:List Operand),(∀o,o∈l->o∈(Op.makeFunc (.func f) first captured).operands.toList)->∀x,x∈aQ σ l->x∈aQ σ (Op.makeFunc (.func f) first captured).operands.toList:=by
    intro l
    induction l with
    | nil=>intro _ x hx;cases hx
    | cons o r ih=>
     intro ho x hx;simp only[aQ,List.mem_append] at hx
     rcases hx with hx | hx
     ·exact dh (ho o (List.mem_cons_self ..)) x hx
     ·exact ih (λo' ho'=>ho o' (List.mem_cons_of_mem _ ho')) x hx
   exact hm _ (λo ho=>by simp[Op.operands] at ho ⊢;exact .inr ho) x hx)
  rw[this]
 ·rename_i args ats;split
  ·rename_i x t hx ht;have hm:x∈(Op.call { callee:=.builtin .len,args,argTypes:=ats }).operands.toList:=by simp[Op.operands,Call.operands,hx]
   rw[he x hm,zV (hb x hm)]
  ·rfl
 ·rename_i s t x;rw[he x j5]
 ·rename_i t x i ok;unfold qJ;rw[he x j5,he i j5,Aa (hb x j5)]
 ·rfl
theorem ix {ops:Array Oper} {g:Option (Nat×Bool)} (h:∀x,x∈cd ops g->bn σ s x):guardOf ops s g=guardOf ops σ g:=by
 unfold guardOf;split
 ·rfl
 ·rename_i j want;split
  ·rename_i d hd;have:=h (.tm d) (by simp[cd,hd]);simp only[bn] at this;rw[this]
  ·rfl
def np (ops:Array Oper) (σ:St) (o:Oper) (x:AV):Sp:=⟨o.dst,x,[],cd ops o.guard++aQ σ o.op.operands.toList⟩
theorem G5 (hT:TabOK P T) {ops:Array Oper} {o:Oper} {c:Bool} {p:Prop} {x:AV} (hg:guardOf ops σ o.guard=some c) (h:eX T σ o.op=some (p,x)) (hp:c=true->p) (hc:c=true\/∃y,x=.cnd c y\/True) :
  Rob P C ops o (np ops σ o (mkc c x)) σ:=by
 intro s ha _ a w K Q hr hK;have hg':guardOf ops s o.guard=some c:=by rw[ix (λx hx=>ha x (YQ _ hx))];exact hg
 have h':eX T s o.op=some (p,x):=by rw[pI (λx hx=>ha x (YB _ hx))];exact h
 obtain ⟨μ,S,hi⟩:=hr;rw[bs hi hg'];cases c with
 | false=>exact hK _ _ ⟨μ,S,hi.put o.dst (yk (.cndF x))⟩
 | true=>
  refine .inl ?_;obtain ⟨u,h1,h2⟩:=lZ hT hi o h' (hp rfl);unfold Oper.wp;rw[h1];exact hK _ _ ⟨μ,S,hi.put o.dst (yk (.cndT u x h2))⟩
theorem EE (hT:TabOK P T) {ops:Array Oper} {o:Oper} {p:Prop} {x:AV} (hg:o.guard=none) (h:eX T σ o.op=some (p,x)) (hp:p):Rob P C ops o (np ops σ o x) σ:=by
 intro s ha _ a w K Q hr hK;have h':eX T s o.op=some (p,x):=by rw[pI (λx hx=>ha x (YB _ hx))];exact h
 obtain ⟨μ,S,hi⟩:=hr;have hw:Region.wanted o (yielded ops a.tmps)=true:=bs hi Qx;rw[hw];refine .inl ?_;obtain ⟨u,h1,h2⟩:=lZ hT hi o h' hp;unfold Oper.wp;rw[h1];exact hK _ _ ⟨μ,S,hi.put o.dst h2⟩
def lV (T:Tab) (ops:Array Oper):List Oper->St->Option (Prop×List Sp×List Oper×St)
 | [],σ=>some (True,[],[],σ)
 | o::l,σ=>
  match eX T σ o.op with
  | some (p,x)=>
   match o.guard with
   | none=>(lV T ops l (σ.put o.dst x)).map λr=>(p/\r.1,np ops σ o x::r.2.1,r.2.2)
   | some g=>
    match guardOf ops σ (some g) with
    | some c=>(lV T ops l (σ.put o.dst (mkc c x))).map λr=>((c=true->p)/\r.1,np ops σ o (mkc c x)::r.2.1,r.2.2)
    | none=>none
  | none=>some (True,[],o::l,σ)
theorem oL (ops:Array Oper) (σ:St) (o:Oper) (x:AV):(np ops σ o x).app σ=σ.put o.dst x:=by
 simp[Sp.app,np]
theorem jQ (hT:TabOK P T) (ops:Array Oper):∀(l:List Oper) (σ:St) {p:Prop} {ps:List Sp} {l':List Oper} {σ':St},lV T ops l σ=some (p,ps,l',σ')->p ->
  ∀{l2:List Oper} {ps2:List Sp},dP P C ops l2 ps2 σ'->l'=l2++(l'.drop l2.length)->∃l1,l=l1++l'/\dP P C ops (l1++l2) (ps++ps2) σ
 | [],σ,p,ps,l',σ',h,_,l2,ps2,hc,_=>by
  simp only[lV,gL,gM] at h;obtain ⟨_,rfl,rfl,rfl⟩:=h;exact ⟨[],rfl,hc⟩
 | o::l,σ,p,ps,l',σ',h,hp,l2,ps2,hc,he=>by
  unfold lV at h;split at h
  ·rename_i q x hpo;split at h
   ·rename_i hg;cases e:lV T ops l (σ.put o.dst x) with
    | none=>rw[e] at h;cases h
    | some r=>
     obtain ⟨r1,r2,r3,r4⟩:=r;simp only[e,Option.map_some,gL,gM] at h;obtain ⟨rfl,rfl,rfl,rfl⟩:=h;obtain ⟨l1,h1,h2⟩:=jQ hT ops l _ e hp.2 hc he;exact ⟨o::l1,by rw[h1];rfl,EE hT hg hpo hp.1,by rw[oL];exact h2⟩
   ·rename_i g hg;split at h
    ·rename_i c hc';cases e:lV T ops l (σ.put o.dst (mkc c x)) with
     | none=>rw[e] at h;cases h
     | some r=>
      obtain ⟨r1,r2,r3,r4⟩:=r;simp only[e,Option.map_some,gL,gM] at h;obtain ⟨rfl,rfl,rfl,rfl⟩:=h;obtain ⟨l1,h1,h2⟩:=jQ hT ops l _ e hp.2 hc he;exact ⟨o::l1,by rw[h1];rfl,G5 hT (by rw[hg];exact hc') hpo hp.1 (.inr ⟨x,.inr trivial⟩),by rw[oL];exact h2⟩
    ·cases h
  ·simp only[gL,gM] at h;obtain ⟨_,rfl,rfl,rfl⟩:=h;exact ⟨[],rfl,hc⟩
end
end Go.Eng
namespace Go.Eng
section
variable {P:Program} {T:Tab} {C:Ctx} {σ σ' s:St} {Ret:St->Prop} {k:List It}
theorem pR:∀{ops:Array Oper} {l:List Oper} {σ:St} {p:Prop} {ps:List Sp} {l':List Oper} {σ':St},lV T ops l σ=some (p,ps,l',σ')->l.length=ps.length+l'.length/\db ps σ=σ'/\∀(i:Nat) q,ps[i]? = some q->q.new=[]
 | ops,[],σ,p,ps,l',σ',h=>by
  simp only[lV,gL,gM] at h;obtain ⟨_,rfl,rfl,rfl⟩:=h;exact ⟨rfl,rfl,λi q h=>by simp at h⟩
 | ops,o::l,σ,p,ps,l',σ',h=>by
  unfold lV at h;split at h
  ·rename_i q x hpo;have fin:∀(y:AV) {f:Prop->Prop},(lV T ops l (σ.put o.dst y)).map (λr=>(f r.1,np ops σ o y::r.2.1,r.2.2))=some (p,ps,l',σ') ->
     (o::l).length=ps.length+l'.length/\db ps σ=σ'/\∀(i:Nat) q,ps[i]? = some q->q.new=[]:=by
    intro y f h;cases e:lV T ops l (σ.put o.dst y) with
    | none=>rw[e] at h;cases h
    | some r=>
     obtain ⟨r1,r2,r3,r4⟩:=r;simp only[e,Option.map_some,gL,gM] at h;obtain ⟨_,rfl,rfl,rfl⟩:=h;obtain ⟨h1,h2,h3⟩:=pR e;refine ⟨by simp[h1];omega,by simp only[db,oL];exact h2,λi q hq=>?_⟩;cases i with
     | zero=>simp only[List.getElem?_cons_zero,gL] at hq;subst hq;rfl
     | succ i=>exact h3 i q (by simpa using hq)
   split at h
   ·exact fin x (f:=λr=>q/\r) h
   ·split at h
    ·rename_i c _;exact fin (mkc c x) (f:=λr=>(c=true->q)/\r) h
    ·cases h
  ·simp only[gL,gM] at h;obtain ⟨_,rfl,rfl,rfl⟩:=h;exact ⟨by simp,rfl,λi q h=>by simp at h⟩
def yZ (n:Nat) (sk:dA):Bool:=sk.all λp=>p.1.all λ| .tm t=>decide (t<n) | .blk _=>true
def zS:List AV->List AV->Prop
 | [],[]=>True
 | x::l,y::m=>(y=.any\/x=y)/\zS l m
 | _,_=>False
theorem wm:∀{l m:List AV},zS l m->l.length=m.length/\∀(t:Nat) y,m[t]? = some y->y=.any\/l[t]? = some y
 | [],[],_=>⟨rfl,λt y h=>by simp at h⟩
 | x::l,y::m,h=>by
  obtain ⟨h1,h2⟩:=wm h.2;refine ⟨by simp[h1],λt z hz=>?_⟩;cases t with
  | zero=>
   simp only[List.getElem?_cons_zero,gL] at hz ⊢;subst hz;exact h.1
  | succ t=>simpa using h2 t z Za
 | [],_::_,h=>h.elim
 | _::_,[],h=>h.elim
theorem LC {l m:List AV} {H:List (Nat×Blk)} (h:zS l m):Le C ⟨l,H⟩ ⟨m,H⟩:=by
 intro a w ⟨μ,S,hi⟩;obtain ⟨h1,h2⟩:=wm h;refine ⟨μ,S,by rw[hi.size];exact h1,hi.defers,λt y hy=>?_,hi.hp,hi.dom,hi.inj,hi.frm,hi.sb⟩
 rcases h2 t y hy with rfl | h
 ·exact .any _
 ·exact hi.tm t y h
theorem wrap_small {n:Int} (h:-9223372036854775808<=n) (h2:n<=9223372036854775807):IntKind.i64.wrap n=n:=by
 simp[IntKind.wrap,IntKind.signed,IntKind.bits];omega
def iN (l:List AV):List (Nat×AV)->List AV
 | []=>l
 | (t,x)::r=>iN (l.set t x) r
def bS (h:List (Nat×Blk)):List (Nat×Blk)->List (Nat×Blk)
 | []=>h
 | (t,x)::r=>bS (aG h t x) r
theorem ZL {ι:Type} (J:ι->Prop) (m:ι->Nat) (f:ι->List (Nat×AV)) (g:ι->List (Nat×Blk)) (i0:ι) {c:Code} {l:List AV} {H:List (Nat×Blk)} (hJ:J i0) (h0:Le C ⟨l,H⟩ ⟨iN l (f i0),bS H (g i0)⟩)
  (round:∀i,J i->Cw P C Ret (.code c::.back (λs=>∃j,J j/\m j<m i/\Le C s ⟨iN l (f j),bS H (g j)⟩)::k) ⟨iN l (f i),bS H (g i)⟩):Cw P C Ret (.code (.loop c)::k) ⟨l,H⟩:=by
 refine IH (ι:={ i // J i }) (λi=>⟨iN l (f i.1),bS H (g i.1)⟩) (λi=>m i.1) ⟨i0,hJ⟩ h0 λi=>?_
 intro a w hr;have:=round i.1 i.2 a w hr;refine wp_mono this λe a w q=>?_
 cases e with
 | normal=>
  obtain ⟨s,⟨j,hj,hm,hle⟩,hrs⟩:=q;exact ⟨s,⟨⟨j,hj⟩,hm,hle⟩,hrs⟩
 | _=>exact q
theorem yN {f:FuncId} {args:List AV} {r:AV} (h:aj P f args [] λr' _=>r'=r) {w:World} {vs:List Value} (hl:vs.length=args.length) {S:Nat->Prop}
  (hargs:∀(j:Nat) x,args[j]? = some x->RdP S w (vs.getD j undef) x) (hS:∀b,S b->b<w.heap.size) (hg:GOK (λ_=>none) w) :
  Calls P f vs.toArray w λe w'=>∃v μ S',e=.returned v/\Rd μ S' w' v r/\Frm (λ_=>False) w w':=by
 refine (h S (λ_=>none) w vs hl (λj x hx=>.pure (hargs j x hx)) ⟨λid b h=>by simp[aa] at h,λid g h=>Ql,λid id' g h=>Ql,hg⟩ hS).mono ?_;rintro e w' ⟨v,r',H',μ',S',rfl,rfl,k1,_,k3,_,_⟩;exact ⟨v,μ',S',rfl,k1,⟨k3.os,k3.tape,k3.output,k3.size,λb hb _=>k3.block b hb Wa⟩⟩
end
end Go.Eng
namespace Go.Eng
section
variable {P:Program} {T:Tab} {C:Ctx} {σ σ':St}
mutual
def ren (off:Nat):AV->AV
 | .ptr id s r o=>.ptr (id+off) s r o
 | .osl id s o n=>.osl (id+off) s o n
 | .mp id=>.mp (id+off)
 | .exs id s o n c=>.exs (id+off) s o n c
 | .agg cells=>.agg (gP off cells)
 | .tup vs=>.tup (gP off vs)
 | .fn f caps=>.fn f (gP off caps)
 | .cnd c v=>.cnd c (ren off v)
 | x=>x
def gP (off:Nat):List AV->List AV
 | []=>[]
 | x::r=>ren off x::gP off r
end
theorem kY (off:Nat):∀l,gP off l=l.map (ren off)
 | []=>rfl
 | x::r=>by simp[gP,kY off r]
theorem RdP.LX {S:Nat->Prop} {w:World} {v:Value} {x:AV} (h:RdP S w v x) (off:Nat):ren off x=x:=by
 have key:∀(l:List AV),(∀(j:Nat) x,l[j]? = some x->ren off x=x)->gP off l=l:=by
  intro l
  induction l with
  | nil=>intro _;rfl
  | cons y r ih=>
   intro h;simp only[gP];rw[h 0 y rfl,ih (λj x hj=>h (j+1) x QR)]
 induction h with
 | fn f vals caps hl hr ih=>simp only[ren];rw[key caps ih]
 | agg cs cells hl hr ih=>simp only[ren];rw[key cells ih]
 | _=>rfl
theorem Rd.ren {μ μ':Nat->Option Nat} {S:Nat->Prop} {w:World} {v:Value} {x:AV} (off:Nat) (h:Rd μ S w v x) (hm:∀id,id∈refs x->∀g,μ id=some g->μ' (id+off)=some g):Rd μ' S w v (ren off x):=by
 induction h with
 | any v=>exact .any v
 | pure h=>rw[h.LX];exact .pure h
 | agg cs cells hl hr ih=>
  simp only[Eng.ren,kY];refine .agg cs _ QN (λj x hx=>?_);rw[W2] at hx;cases e:cells[j]? with
  | none=>rw[e] at hx;cases hx
  | some y=>
   rw[e] at hx;simp only[Option.map_some,gL] at hx;subst hx;exact ih j y e (λid hid=>hm id WE)
 | tup cs cells hl hr ih=>
  simp only[Eng.ren,kY];refine .tup cs _ QN (λj x hx=>?_);rw[W2] at hx;cases e:cells[j]? with
  | none=>rw[e] at hx;cases hx
  | some y=>
   rw[e] at hx;simp only[Option.map_some,gL] at hx;subst hx;exact ih j y e (λid hid=>hm id WE)
 | fn f vals cells hl hr ih=>
  simp only[Eng.ren,kY];refine .fn f vals _ QN (λj x hx=>?_);rw[W2] at hx;cases e:cells[j]? with
  | none=>rw[e] at hx;cases hx
  | some y=>
   rw[e] at hx;simp only[Option.map_some,gL] at hx;subst hx;exact ih j y e (λid hid=>hm id WE)
 | ptr i size row o g hg=>exact .ptr _ size row o g (hm i s8 g hg)
 | osl i size o len cap A hc h=>
  refine .osl _ size o len cap A hc ?_
  rcases h with h | ⟨g,e,n,h1,h2,h3,h4⟩
  ·exact .inl h
  ·exact .inr ⟨g,e,n,hm i s8 g h1,h2,h3,h4⟩
 | mp i g hg=>exact .mp _ g (hm i s8 g hg)
 | exs i size o len cap g e n hc hg hr hn=>exact .exs _ size o len cap g e n hc (hm i s8 g hg) hr hn
 | cndT v x h ih=>exact .cndT v _ (ih (λid hid=>hm id WG))
 | cndF x=>exact .cndF _
theorem Rd.less {μ μ':Nat->Option Nat} {S:Nat->Prop} {w:World} {v:Value} {x:AV} (h:Rd μ S w v x) (hm:∀id,id∈refs x->∀g,μ id=some g->μ' id=some g):Rd μ' S w v x:=by
 induction h with
 | any v=>exact .any v
 | pure h=>exact .pure h
 | agg cs cells hl hr ih=>exact .agg cs cells hl (λj x hx=>ih j x hx (λid hid=>hm id WA))
 | tup cs cells hl hr ih=>exact .tup cs cells hl (λj x hx=>ih j x hx (λid hid=>hm id WA))
 | fn f vals cells hl hr ih=>exact .fn f vals cells hl (λj x hx=>ih j x hx (λid hid=>hm id WA))
 | ptr i size row o g hg=>exact .ptr _ size row o g (hm i s8 g hg)
 | osl i size o len cap A hc h=>
  refine .osl _ size o len cap A hc ?_
  rcases h with h | ⟨g,e,n,h1,h2,h3,h4⟩
  ·exact .inl h
  ·exact .inr ⟨g,e,n,hm i s8 g h1,h2,h3,h4⟩
 | mp i g hg=>exact .mp _ g (hm i s8 g hg)
 | exs i size o len cap g e n hc hg hr hn=>exact .exs _ size o len cap g e n hc (hm i s8 g hg) hr hn
 | cndT v x h ih=>exact .cndT v _ (ih (λid hid=>hm id WG))
 | cndF x=>exact .cndF _
def ay:Blk->List Nat
 | .cells _ _ rows=>rows.flatMap aB
 | .map _=>[]
 | .iter ..=>[]
 | .cap id _ _=>[id]
 | .pin id _ _ _=>[id]
@[go_sem,simp] theorem Mj (e s:Nat):ay (.cells e s [])=[]:=rfl
@[go_sem,simp] theorem LV (e s:Nat) (r:List AV) (l:List (List AV)):ay (.cells e s (r::l))=aB r++ay (.cells e s l):=rfl
@[go_sem,simp] theorem Mi (kvs:List (Int×AV)):ay (.map kvs)=[]:=rfl
@[go_sem,simp] theorem Mh (id s N:Nat):ay (.cap id s N)=[id]:=rfl
@[go_sem,simp] theorem Mk (id g t n:Nat):ay (.pin id g t n)=[id]:=rfl
@[go_sem,simp] theorem LW (kvs:List (Int×AV)) (seen:List Int):ay (.iter kvs seen)=[]:=rfl
def B8 (off:Nat):Blk->Blk
 | .cells e s rows=>.cells e s (rows.map (gP off))
 | .map kvs=>.map kvs
 | .iter kvs seen=>.iter kvs seen
 | .cap id s N=>.cap (id+off) s N
 | .pin id g t n=>.pin (id+off) g t n
def sg (off:Nat) (H:List (Nat×Blk)):List (Nat×Blk):=H.map λp=>(p.1+off,B8 off p.2)
theorem cR.ren {μ μ':Nat->Option Nat} {S:Nat->Prop} {w:World} {id:Nat} {b:Blk} (off:Nat) (h:cR μ S w id b) (hn:μ id=none->μ' (id+off)=none) (hs:∀g,μ id=some g->μ' (id+off)=some g)
  (hm:∀i,i∈ay b->∀g,μ i=some g->μ' (i+off)=some g):cR μ' S w (id+off) (B8 off b):=by
 cases b with
 | cells e s rows=>
  rcases h with ⟨rfl,h2⟩ | ⟨g,c,h1,h2,h3,h4,h5⟩
  ·exact .inl ⟨rfl,hn h2⟩
  ·refine .inr ⟨g,c,hs g h1,h2,by simpa using h3,λrow hrow=>?_,λi row hi j x hx=>?_⟩
   ·obtain ⟨r,hr,rfl⟩:=W5.1 hrow;rw[kY,List.length_map];exact h4 r hr
   ·rw[W2] at hi;cases e1:rows[i]? with
    | none=>rw[e1] at hi;cases hi
    | some r=>
     rw[e1] at hi;simp only[Option.map_some,gL] at hi;subst hi;rw[kY,W2] at hx;cases e2:r[j]? with
     | none=>rw[e2] at hx;cases hx
     | some y=>
      rw[e2] at hx;simp only[Option.map_some,gL] at hx;subst hx;exact (h5 i r e1 j y e2).ren off (λi hi=>hm i (List.mem_flatMap.2 ⟨r,W3 e1,aX e2 hi⟩))
 | map kvs=>
  obtain ⟨g,es,clk,vals,h1,h2,h3,h4⟩:=h;exact ⟨g,es,clk,vals,hs g h1,h2,h3,h4⟩
 | iter kvs seen=>
  obtain ⟨g,es,clk,vals,had,h1,h2,h4⟩:=h;exact ⟨g,es,clk,vals,had,hs g h1,h2,h4⟩
 | cap id' s N=>
  obtain ⟨h1,g,e,h2,h3⟩:=h;exact ⟨hn h1,g,e,hm id' w8 g h2,h3⟩
 | pin id' g t n=>
  obtain ⟨h1,h2,h3⟩:=h;exact ⟨hn h1,hm id' w8 g h2,h3⟩
theorem cR.less {μ μ':Nat->Option Nat} {S:Nat->Prop} {w:World} {id:Nat} {b:Blk} (h:cR μ S w id b) (he:μ' id=μ id) (hm:∀i,i∈ay b->∀g,μ i=some g->μ' i=some g):cR μ' S w id b:=by
 cases b with
 | cells e s rows=>
  rcases h with ⟨rfl,h2⟩ | ⟨g,c,h1,h2,h3,h4,h5⟩
  ·exact .inl ⟨rfl,he.trans h2⟩
  ·exact .inr ⟨g,c,he.trans h1,h2,h3,h4,λi row hi j x hx=>(h5 i row hi j x hx).less (λk hk=>hm k (List.mem_flatMap.2 ⟨row,W3 hi,aX hx hk⟩))⟩
 | map kvs=>
  obtain ⟨g,es,clk,vals,h1,h2,h3,h4⟩:=h;exact ⟨g,es,clk,vals,he.trans h1,h2,h3,h4⟩
 | iter kvs seen=>
  obtain ⟨g,es,clk,vals,had,h1,h2,h4⟩:=h;exact ⟨g,es,clk,vals,had,he.trans h1,h2,h4⟩
 | cap id' s N=>
  obtain ⟨h1,g,e,h2,h3⟩:=h;exact ⟨he.trans h1,g,e,hm id' w8 g h2,h3⟩
 | pin id' g t n=>
  obtain ⟨h1,h2,h3⟩:=h;exact ⟨he.trans h1,hm id' w8 g h2,h3⟩
def sub (ids:List Nat):List (Nat×Blk)->List (Nat×Blk)
 | []=>[]
 | p::r=>if ids.contains p.1 then p::sub ids r else sub ids r
def del (ids:List Nat):List (Nat×Blk)->List (Nat×Blk)
 | []=>[]
 | p::r=>if ids.contains p.1 then del ids r else p::del ids r
theorem cB (ids:List Nat) (id:Nat):∀H,aa (sub ids H) id=if ids.contains id=true then aa H id else none
 | []=>by simp[sub,aa]
 | (i,b)::r=>by
  have ih:=cB ids id r;unfold sub
  by_cases e:i=id
  ·subst e
   by_cases h:ids.contains i=true
   ·rw[if_pos h,if_pos h];simp only[aa,if_true]
   ·rw[if_neg h,if_neg h,ih,if_neg h]
  ·by_cases h:ids.contains i=true
   ·rw[if_pos h];simp only[aa,if_neg e];exact ih
   ·rw[if_neg h];simp only[aa,if_neg e];exact ih
theorem dU (ids:List Nat) (id:Nat):∀H,aa (del ids H) id=if ids.contains id=true then none else aa H id
 | []=>by simp[del,aa]
 | (i,b)::r=>by
  have ih:=dU ids id r;unfold del
  by_cases e:i=id
  ·subst e
   by_cases h:ids.contains i=true
   ·rw[if_pos h,ih,if_pos h,if_pos h]
   ·rw[if_neg h,if_neg h];simp only[aa,if_true]
  ·by_cases h:ids.contains i=true
   ·rw[if_pos h];simp only[aa,if_neg e];exact ih
   ·rw[if_neg h];simp only[aa,if_neg e];exact ih
theorem qz (off id:Nat):∀H,aa (sg off H) id=if off<=id then (aa H (id-off)).map (B8 off) else none
 | []=>by simp[sg,aa]
 | (i,b)::r=>by
  have ih:=qz off id r;simp only[sg,List.map_cons,aa] at ih ⊢
  by_cases h:i+off=id
  ·subst h;simp
  ·rw[if_neg h,ih]
   by_cases h2:off<=id
   ·rw[if_pos h2,if_pos h2,if_neg z8]
   ·rw[if_neg h2,if_neg h2]
def iR (ids:List Nat) (x:AV):AV:=if (refs x).any ids.contains then .any else x
def closed (K:List (Nat×Blk)) (xs:List Nat):Bool:=xs.all (λi=>(aa K i).isSome)&&K.all λp=>(ay p.2).all λi=>(aa K i).isSome
theorem aP:∀{H:List (Nat×Blk)} {id:Nat} {b:Blk},aa H id=some b->(id,b)∈H
 | (i,c)::r,id,b,h=>by
  simp only[aa] at h;split at h
  ·rename_i e;subst e;injection h with h;subst h;simp
  ·exact List.mem_cons_of_mem _ (aP h)
theorem uQ {o:Oper} {c:Operand} {args:Array Operand} {ats:Array TypeId} (ho:o.op=.call { callee:=.value c,args,argTypes:=ats }) {p:Prop} {f:FuncId} {xs:List AV}
  (h:az σ c args.toList=some (p,f,xs)) (hp:p) (hc:aJ P f) (ids:List Nat) (off:Nat) {H K:List (Nat×Blk)} {r:AV} (hH:sub ids σ.hp=H)
  (hck:(aB xs).all ids.contains=true) (hc1:(H.all λp=>(ay p.2).all ids.contains)=true) (hc2:((del ids σ.hp).all λp=>(ay p.2).all λi=>!ids.contains i)=true)
  (hc3:closed K (refs r)=true) (hc4:(K.all λp=>(aa σ.hp (p.1+off)).isNone)=true)
  (hf:aj P f xs H λr' H'=>r'=r/\∀id b,aa K id=some b->aa H' id=some b) {τ:St} (hτ:(⟨σ.tm.map (iR ids),sg off K++del ids σ.hp⟩:St).put o.dst (ren off r)=τ):eP P C o σ τ:=by
 subst hH hτ;intro a w Kp Q ⟨μ,S,hi⟩ hKp;obtain ⟨vs,h1,h2,h3⟩:=jj hi ho h hp hc;unfold Oper.wp;rw[h3]
 let μc:Nat->Option Nat:=λi=>if ids.contains i then μ i else none
 have mc:∀{i g},μc i=some g->ids.contains i=true/\μ i=some g:=fun {i g} h=>by
  simp only[μc] at h;split at h
  ·exact ⟨by assumption,h⟩
  ·cases h
 have mc':∀{i},ids.contains i=true->μc i=μ i:=fun {i} h=>by simp only[μc,h,if_true]
 rw[Yu] at hck;have hck:=λi hi=>List.all_eq_true.1 (hck.2 rfl) i hi
 refine (hf S μc w vs h1 (λj x hj=>(h2 j x hj).less λid hid g hg=>by rw[mc' (hck id (aX hj hid))];exact hg) ⟨λid b hb=>?_,λid g hg=>?_,λid id' g hg hg'=>hi.inj id id' g (mc hg).2 (mc hg').2,hi.gok.sub λi g h=>⟨i,(mc h).2⟩⟩ (λb hb=>(hi.sb b hb).1)).mono ?_
 ·have hb':=hb;rw[cB] at hb;split at hb
  ·rename_i hid;have hall:=List.all_eq_true.1 hc1 _ (aP hb');exact (hi.hp id b hb).less (mc' hid) (λi hi' g hg=>by rw[mc' (List.all_eq_true.1 hall i hi')];exact hg)
  ·cases hb
 ·obtain ⟨k1,k2⟩:=mc hg;obtain ⟨⟨b,j1⟩,_,j3⟩:=hi.dom id g k2;exact ⟨⟨b,by rw[cB,if_pos k1];exact j1⟩,j3⟩
 rintro e w' ⟨v,r',H',μ',S',rfl,⟨rfl,hKH⟩,k1,k2,k3,k4,k5⟩;simp only[closed,Bool.and_eq_true] at hc3;obtain ⟨hr,hcl⟩:=hc3;have hr:∀i,i∈refs r'->∃b,aa K i=some b:=λi hi=>Yd.1 (List.all_eq_true.1 hr i hi)
 have hcl:∀i b,aa K i=some b->∀j,j∈ay b->∃c,aa K j=some c:=λi b hb j hj=>Yd.1 (List.all_eq_true.1 (List.all_eq_true.1 hcl _ (aP hb)) j hj)
 have hfree:∀i b,aa K i=some b->aa σ.hp (i+off)=none:=λi b hb=>by
  have:=List.all_eq_true.1 hc4 _ (aP hb);simpa using this
 let μ2:Nat->Option Nat:=λi=>if off<=i/\(aa K (i-off)).isSome=true then μ' (i-off) else if ids.contains i then none else μ i
 have m2K:∀{i b},aa K i=some b->μ2 (i+off)=μ' i:=fun {i b} hb=>by
  simp only[μ2];rw[if_pos ⟨by omega,by rw[Nat.add_sub_cancel,hb];rfl⟩,Nat.add_sub_cancel]
 have m2o:∀{i b},aa σ.hp i=some b->ids.contains i=false->μ2 i=μ i:=fun {i b} hb hn=>by
  simp only[μ2];rw[if_neg (by
   rintro ⟨q1,q2⟩;obtain ⟨b',q3⟩:=Yd.1 q2;have:=hfree _ _ q3;rw[Nat.sub_add_cancel q1,hb] at this;cases this),hn]
  rfl
 have m2:∀{i g},μ2 i=some g->(∃j b,i=j+off/\aa K j=some b/\μ' j=some g)\/(ids.contains i=false/\μ i=some g/\∃b,aa σ.hp i=some b):=fun {i g} hg=>by
  simp only[μ2] at hg;split at hg
  ·rename_i q;obtain ⟨b,q3⟩:=Yd.1 q.2;exact .inl ⟨i-off,b,by omega,q3,hg⟩
  ·split at hg
   ·cases hg
   ·rename_i q;exact .inr ⟨by simpa using q,hg,(hi.dom i g hg).1⟩
 have hfr:Frm (λg=>∃id,μc id=some g) w w':=k3;have hS:aH S w w':=λb hb=>hfr.block b (hi.sb b hb).1 QK
 have hO:∀i g,μ i=some g->ids.contains i=false->w'.heap[g]? = w.heap[g]?:=λi g hg hn=>hfr.block g (hi.dom i g hg).2.2.2 (by
  rintro ⟨id,h⟩;obtain ⟨q1,q2⟩:=mc h;have:=hi.inj _ _ _ hg q2;subst this;rw[q1] at hn;cases hn)
 let S2:Nat->Prop:=λb=>S b\/S' b
 -- a value of ours that names nothing of 'ids'
 have rdO:∀{v x},Rd μ S w v x->(∀i,i∈refs x->ids.contains i=false)->Rd μ2 S2 w' v x:=fun {v x} hv hn=>by
  have h1:Rd (λi=>if ids.contains i then none else μ i) S w v x:=hv.less (λi hi g hg=>by rw[hn i hi];exact hg);refine h1.mono hS (λ_ h=>.inl h) (λi g hg=>?_) (λi g hg=>?_)
  ·split at hg
   ·cases hg
   ·rename_i q;have q:ids.contains i=false:=by simpa using q
    obtain ⟨⟨b,hb⟩,_⟩:=hi.dom i g hg;rw[m2o hb q];exact hg
  ·split at hg
   ·cases hg
   ·rename_i q;exact aN (hO i g hg (by simpa using q))
 have inv:Inv C μ2 S2 ⟨σ.tm.map (iR ids),sg off K++del ids σ.hp⟩ a w':=by
  refine ⟨by simp[hi.size],hi.defers,λt x hx=>?_,λid b hb=>?_,λi g hg=>?_,λi j g hg hg'=>?_,hi.frm.step _ hfr (λg ⟨id,h⟩=>(hi.dom id g (mc h).2).2.1),λb hb=>?_⟩
  ·simp only[W2] at hx;cases e:σ.tm[t]? with
   | none=>rw[e] at hx;cases hx
   | some y=>
    rw[e] at hx;simp only[Option.map_some,gL] at hx;subst hx;unfold iR;split
    ·exact .any _
    ·rename_i q;refine rdO (hi.tm t y e) (λi hi'=>?_);simp only[List.any_eq_true,not_exists,not_and] at q;simpa using q i hi'
  ·simp only at hb;rw[aA] at hb;split at hb
   ·rw[qz] at hb;split at hb
    ·rename_i q;cases e:aa K (id-off) with
     | none=>rw[e] at hb;cases hb
     | some b0=>
      rw[e] at hb;simp only[Option.map_some,gL] at hb;subst hb;obtain ⟨j,rfl⟩:∃j,id=j+off:=⟨id-off,by omega⟩;rw[Nat.add_sub_cancel] at e;have:=(k2.blk j b0 (hKH j b0 e)).ren off (μ':=μ2) (λh=>by rw[m2K e];exact h) (λg h=>by rw[m2K e];exact h) (λi hi' g hg=>by
       obtain ⟨c,hc'⟩:=hcl j b0 e i hi';rw[m2K hc'];exact hg)
      exact this.mono (aH.refl _ _) (λ_ h=>.inr h) (λ_ _ h=>h) (λ_ _ _=>rfl) (λh=>h) (λ_ _=>rfl)
    ·cases hb
   ·rename_i hnK;rw[dU] at hb;split at hb
    ·cases hb
    ·rename_i q;have q:ids.contains id=false:=by simpa using q
     have hall:=List.all_eq_true.1 hc2 (id,b) (aP (by rw[dU,if_neg (by rw[q];simp)];exact hb));have h1:=(hi.hp id b hb).less (μ':=λi=>if ids.contains i then none else μ i) (by rw[q];rfl) (λi hi' g hg=>by
      have:=List.all_eq_true.1 hall i hi';rw[if_neg (by simpa using this)];exact hg)
     refine h1.mono hS (λ_ h=>.inl h) (λi g hg=>?_) (λi g hg=>?_) (λhn=>?_) (λg hg=>?_)
     ·split at hg
      ·cases hg
      ·rename_i q';obtain ⟨⟨b',hb'⟩,_⟩:=hi.dom i g hg;rw[m2o hb' (by simpa using q')];exact hg
     ·split at hg
      ·cases hg
      ·rename_i q';exact aN (hO i g hg (by simpa using q'))
     ·rw[m2o hb q];rw[q] at hn;exact hn
     ·rw[q] at hg;exact hO id g hg q
  ·rcases m2 hg with ⟨j,b,rfl,q1,q2⟩ | ⟨q1,q2,b,q3⟩
   ·obtain ⟨_,q4,q5⟩:=k2.dom j g q2;refine ⟨⟨B8 off b,?_⟩,?_,?_,q5⟩
    ·have e:aa (sg off K) (j+off)=some (B8 off b):=by rw[qz,if_pos z8,Nat.add_sub_cancel,q1];rfl
     rw[aA,if_pos ⟨_,aP e,rfl⟩,e]
    ·rcases k4 j g q2 with ⟨i,hi'⟩ | h
     ·exact (hi.dom i g (mc hi').2).2.1
     ·have:=hi.frm.size;exact .inr z8
    ·rintro (h | h)
     ·rcases k4 j g q2 with ⟨i,hi'⟩ | h'
      ·exact (hi.dom i g (mc hi').2).2.2.1 h
      ·have:=(hi.sb g h).1;omega
     ·exact q4 h
   ·obtain ⟨_,q4,q5,q6⟩:=hi.dom i g q2;refine ⟨⟨b,?_⟩,q4,?_,YZ q6 hfr.size⟩
    ·rw[aA,if_neg,dU,if_neg (by rw[q1];simp)]
     ·exact q3
     ·rintro ⟨⟨i',b'⟩,hm,rfl⟩;obtain ⟨⟨j,c'⟩,hm',e⟩:=W5.1 hm;simp only[gM] at e;have:=List.all_eq_true.1 hc4 _ hm';simp only at this;rw[e.1] at this;simp only at q3;rw[q3] at this;cases this
    ·rintro (h | h)
     ·exact q5 h
     ·rcases (k5 g h).2 with h | ⟨i',h⟩ | h
      ·exact q5 h
      ·obtain ⟨q7,q8⟩:=mc h;have:=hi.inj _ _ _ q2 q8;subst this;rw[q7] at q1;cases q1
      ·omega
  ·rcases m2 hg with ⟨i1,b1,rfl,p1,p2⟩ | ⟨p1,p2,b1,p3⟩<;>rcases m2 hg' with ⟨j1,c1,rfl,q1,q2⟩ | ⟨q1,q2,c1,q3⟩
   ·rw[k2.inj _ _ _ p2 q2]
   ·rcases k4 i1 g p2 with ⟨i',h⟩ | h
    ·obtain ⟨q7,q8⟩:=mc h;have:=hi.inj _ _ _ q2 q8;subst this;rw[q7] at q1;cases q1
    ·have:=(hi.dom _ _ q2).2.2.2;omega
   ·rcases k4 j1 g q2 with ⟨i',h⟩ | h
    ·obtain ⟨q7,q8⟩:=mc h;have:=hi.inj _ _ _ p2 q8;subst this;rw[q7] at p1;cases p1
    ·have:=(hi.dom _ _ p2).2.2.2;omega
   ·exact hi.inj _ _ _ p2 q2
  ·rcases hb with h | h
   ·exact ⟨YZ (hi.sb b h).1 hfr.size,(hi.sb b h).2⟩
   ·refine ⟨(k5 b h).1,?_⟩
    rcases (k5 b h).2 with h | ⟨i',h⟩ | h
    ·exact (hi.sb b h).2
    ·rcases (hi.dom _ _ (mc h).2).2.1 with h | h
     ·exact .inr (.inl h)
     ·exact .inr (.inr h)
    ·have:=hi.frm.size;exact .inr (.inr z8)
 exact hKp _ _ ⟨μ2,S2,inv.put o.dst ((k1.ren off (λi hi' g hg=>by
  obtain ⟨b,hb⟩:=hr i hi';rw[m2K hb];exact hg)).mono (aH.refl _ _) (λ_ h=>.inr h) (λ_ _ h=>h) (λ_ _ _=>rfl))⟩
end
end Go.Eng
namespace Go.Eng
section
variable {P:Program} {T:Tab} {C:Ctx} {σ σ':St} {Ret:St->Prop} {k:List It}
theorem mr (hT:TabOK P T) {all:Array Oper} {o:Oper} {l:List Oper} {t:TypeId} {x y:Operand} {ty e:TypeId} {rows:List (List AV)} (ho:o.op=.binOp .eql t x y ty) (hg:o.guard=none) (ht:T.und t=.sl e)
  (hx:evS σ x=(True,.sl rows)) (hy:evS σ y=(True,.nils)) (h:∀b,(b=true->rows=[])->Cw P C Ret (.ops all l::k) (σ.put o.dst (.bool b))):Cw P C Ret (.ops all (o::l)::k) σ:=by
 intro a w ⟨μ,S,hi⟩;have hv:=hi.evS x u7;have hu:=hi.evS y Qk;rw[hx] at hv;rw[hy] at hu;obtain ⟨A,cap,size,g,off,vals,e1,hc,hs',hA,hcell,hr⟩:=hv.gY.gY;have e2:=hu.gm;have hty:P.underlying t=some (.slice e):=by have:=hT.und t;rw[ht] at this;exact this
 show wpList P all _ (o::l) a w
 unfold wpList;rw[bs hi (show guardOf all σ o.guard=some true from by rw[hg];rfl)];refine .inl ?_;unfold Oper.wp;have hrun:(execOp a.eval o).run P w=.ok (.value (.bool A.isNone)) w:=by
  simp only[execOp,ho,e1,e2,eqGuard_at_slice,pure_bind,Sem.run_bind,Lib.run_eql_slice_nil w t e A rows.length cap 0 0 hty,Result.andThen_ok];rfl
 rw[hrun];refine h A.isNone (λhb=>?_) _ _ ⟨μ,S,hi.put o.dst (.pure (.bool _))⟩
 rcases Nat.eq_zero_or_pos rows.length with h0 | h0
 ·exact List.eq_nil_of_length_eq_zero h0
 ·rw[(hA h0).1] at hb;cases hb
def wk (x y:AV):Prop:=y=.any\/x=y\/(x=.nils/\(y=.sl []\/∃id s off,y=.osl id s off 0))
theorem Rd.wk {μ:Nat->Option Nat} {S:Nat->Prop} {w:World} {v:Value} {x y:AV} (h:Rd μ S w v x) (hw:wk x y):Rd μ S w v y:=by
 rcases hw with rfl | rfl | ⟨rfl,rfl | ⟨id,s,off,rfl⟩⟩
 ·exact .any v
 ·exact h
 ·obtain rfl:=h.gm;exact .pure (.sl none 0 0 [] 0 0 0 (λ_ _=>undef) rfl (W7 _) (λrow h=>by cases h) (λh=>by omega) (λi j h=>by omega) (λi row h=>by simp at h))
 ·obtain rfl:=h.gm;exact .osl id s off 0 0 none (W7 _) (.inl ⟨rfl,rfl⟩)
theorem aj.wk {f:FuncId} {args:List AV} {H:List (Nat×Blk)} {post:AV->List (Nat×Blk)->Prop} (h:aj P f args H λr H'=>∃r',wk r r'/\post r' H'):aj P f args H post:=
 λR0 μ w0 vs hl ha hH hR=>(h R0 μ w0 vs hl ha hH hR).mono λ_ _ ⟨v,_,H',μ',S',h1,⟨r',h2,h3⟩,h4,h5⟩=>⟨v,r',H',μ',S',h1,h3,h4.wk h2,h5⟩
theorem ZF (hT:TabOK P T) {f:FuncId} {fn:Func} {c:Code} {args:List AV} {H:List (Nat×Blk)} {post:AV->List (Nat×Blk)->Prop}
  (hf:P.funcs[f]? = some fn) (hb:fn.body=some c)
  (h:∀C:Ctx,Cw P C (λs=>∃p r,pN T s fn.results.toList=some (p,r)/\p/\∃r',Eng.wk r r'/\post r' s.hp) [.code c] ⟨args++List.replicate (fn.ntmps-args.length) .any,H⟩):aj P f args H post:=
 .wk (F5 hT hf hb h)
def nQ:List AV->List AV->Prop
 | [],[]=>True
 | x::l,y::m=>wk x y/\nQ l m
 | _,_=>False
theorem px:∀{l m:List AV},nQ l m->l.length=m.length/\∀(t:Nat) y,m[t]? = some y->∃x,l[t]? = some x/\wk x y
 | [],[],_=>⟨rfl,λt y h=>by simp at h⟩
 | x::l,y::m,h=>by
  obtain ⟨h1,h2⟩:=px h.2;refine ⟨by simp[h1],λt z hz=>?_⟩;cases t with
  | zero=>
   simp only[List.getElem?_cons_zero,gL] at hz;subst hz;exact ⟨x,rfl,h.1⟩
  | succ t=>simpa using h2 t z Za
 | [],_::_,h=>h.elim
 | _::_,[],h=>h.elim
def Bt:Blk->Prop
 | .cells _ _ rows=>rows=[]
 | .map _=>False
 | .iter ..=>False
 | .cap ..=>False
 | .pin ..=>False
def JT (H:List (Nat×Blk)):List (Nat×Blk)->Prop
 | []=>True
 | (i,b)::r=>(aa H i=some b\/(aa H i=none/\Bt b))/\JT H r
theorem A3 {H:List (Nat×Blk)}:∀{K:List (Nat×Blk)} {i:Nat} {b:Blk},JT H K->aa K i=some b->aa H i=some b\/(aa H i=none/\Bt b)
 | (j,c)::r,i,b,h,hb=>by
  simp only[aa] at hb;split at hb
  ·rename_i e;subst e;injection hb with hb;subst hb;exact h.1
  ·exact A3 h.2 hb
theorem ZU {l m:List AV} {H K:List (Nat×Blk)} (h:nQ l m) (hK:JT H K) (hc:closed K (aB m)=true):Le C ⟨l,H⟩ ⟨m,K⟩:=by
 intro a w ⟨μ,S,hi⟩;obtain ⟨h1,h2⟩:=px h;simp only[closed,Bool.and_eq_true] at hc;have hr:∀i,i∈aB m->(aa K i).isSome=true:=λi hi=>List.all_eq_true.1 hc.1 i hi
 have hcl:∀i b,aa K i=some b->∀j,j∈ay b->(aa K j).isSome=true:=λi b hb j hj=>List.all_eq_true.1 (List.all_eq_true.1 hc.2 _ (aP hb)) j hj
 let μ2:Nat->Option Nat:=λi=>if (aa K i).isSome=true then μ i else none
 have m2:∀{i g},μ2 i=some g->μ i=some g/\(aa K i).isSome=true:=fun {i g} hg=>by
  simp only[μ2] at hg;split at hg
  ·exact ⟨hg,by assumption⟩
  ·cases hg
 refine ⟨μ2,S,by rw[hi.size];exact h1,hi.defers,λt y hy=>?_,λi b hb=>?_,λi g hg=>?_,λi j g hg hg'=>hi.inj i j g (m2 hg).1 (m2 hg').1,hi.frm,hi.sb⟩
 ·obtain ⟨x,hx,hw⟩:=h2 t y hy;refine ((hi.tm t x hx).wk hw).less λi hi' g hg=>?_
  simp only[μ2];rw[if_pos (hr i (aX hy hi'))];exact hg
 ·rcases A3 hK hb with h | ⟨h,he⟩
  ·refine (hi.hp i b h).less (by simp only[μ2];rw[hb];rfl) λj hj g hg=>?_
   simp only[μ2];rw[if_pos (hcl i b hb j hj)];exact hg
  ·cases b with
   | cells e s rows=>
    refine .inl ⟨he,?_⟩;simp only[μ2];rw[hb];cases e:μ i with
    | none=>rfl
    | some g=>
     obtain ⟨⟨c,h'⟩,_⟩:=hi.dom i g e;simp only at h';rw[h] at h';cases h'
   | map kvs=>exact he.elim
   | iter kvs seen=>exact he.elim
   | cap id' s N=>exact he.elim
   | pin id' g' t n=>exact he.elim
 ·obtain ⟨k1,k2⟩:=m2 hg;obtain ⟨_,k3⟩:=hi.dom i g k1;exact ⟨Yd.1 k2,k3⟩
mutual
def frz (id s:Nat) (rows:List (List AV)):AV->AV
 | .osl i s' off len=>if i=id then (if s'=s/\off+len<=rows.length then .sl ((rows.drop off).take len) else .any) else .osl i s' off len
 | .ptr i s' row off=>if i=id then (if s'=s/\row<rows.length then .rp (rows.getD row []) off else .any) else .ptr i s' row off
 | .mp i=>if i=id then .any else .mp i
 | .exs i s' o n c=>if i=id then .any else .exs i s' o n c
 | .agg cells=>.agg (dq id s rows cells)
 | .tup vs=>.tup (dq id s rows vs)
 | .fn f caps=>.fn f (dq id s rows caps)
 | .cnd c v=>.cnd c (frz id s rows v)
 | x=>x
def dq (id s:Nat) (rows:List (List AV)):List AV->List AV
 | []=>[]
 | x::r=>frz id s rows x::dq id s rows r
end
theorem kI (id s:Nat) (rows:List (List AV)):∀l,dq id s rows l=l.map (frz id s rows)
 | []=>rfl
 | x::r=>by simp[dq,kI id s rows r]
def ku (id s:Nat) (rows:List (List AV)):List (Nat×Blk)->List (Nat×Blk)
 | []=>[]
 | (i,.cells e z R)::r=>if i=id then ku id s rows r else (i,.cells e z (R.map (dq id s rows)))::ku id s rows r
 | (i,.map kvs)::r=>if i=id then ku id s rows r else (i,.map kvs)::ku id s rows r
 | (i,.iter kvs seen)::r=>if i=id then ku id s rows r else (i,.iter kvs seen)::ku id s rows r
 | (i,.cap j z N)::r=>if i=id then ku id s rows r else (i,if j=id then .cells 0 0 [] else .cap j z N)::ku id s rows r
 | (i,.pin j g z N)::r=>if i=id then ku id s rows r else (i,if j=id then .cells 0 0 [] else .pin j g z N)::ku id s rows r
def IT (id s:Nat) (rows:List (List AV)):Blk->Blk
 | .cells e z R=>.cells e z (R.map (dq id s rows))
 | .map kvs=>.map kvs
 | .iter kvs seen=>.iter kvs seen
 | .cap j z N=>if j=id then .cells 0 0 [] else .cap j z N
 | .pin j g z N=>if j=id then .cells 0 0 [] else .pin j g z N
theorem gW (id s:Nat) (rows:List (List AV)) (i:Nat):∀H,aa (ku id s rows H) i=if i=id then none else (aa H i).map (IT id s rows)
 | []=>by simp[ku,aa]
 | (j,.cells e z R)::r=>by
  have ih:=gW id s rows i r;unfold ku
  by_cases h:j=id
  ·subst h;rw[if_pos rfl,ih]
   by_cases h2:i=j
   ·rw[if_pos h2,if_pos h2]
   ·rw[if_neg h2,if_neg h2];simp only[aa];rw[if_neg (λh=>h2 h.symm)]
  ·rw[if_neg h];simp only[aa]
   by_cases h2:j=i
   ·subst h2;rw[if_pos rfl,if_neg h,if_pos rfl];rfl
   ·rw[if_neg h2,if_neg h2];exact ih
 | (j,.map kvs)::r=>by
  have ih:=gW id s rows i r;unfold ku
  by_cases h:j=id
  ·subst h;rw[if_pos rfl,ih]
   by_cases h2:i=j
   ·rw[if_pos h2,if_pos h2]
   ·rw[if_neg h2,if_neg h2];simp only[aa];rw[if_neg (λh=>h2 h.symm)]
  ·rw[if_neg h];simp only[aa]
   by_cases h2:j=i
   ·subst h2;rw[if_pos rfl,if_neg h,if_pos rfl];rfl
   ·rw[if_neg h2,if_neg h2];exact ih
 | (j,.iter kvs seen)::r=>by
  have ih:=gW id s rows i r;unfold ku
  by_cases h:j=id
  ·subst h;rw[if_pos rfl,ih]
   by_cases h2:i=j
   ·rw[if_pos h2,if_pos h2]
   ·rw[if_neg h2,if_neg h2];simp only[aa];rw[if_neg (λh=>h2 h.symm)]
  ·rw[if_neg h];simp only[aa]
   by_cases h2:j=i
   ·subst h2;rw[if_pos rfl,if_neg h,if_pos rfl];rfl
   ·rw[if_neg h2,if_neg h2];exact ih
 | (j,.cap k z N)::r=>by
  have ih:=gW id s rows i r;unfold ku
  by_cases h:j=id
  ·subst h;rw[if_pos rfl,ih]
   by_cases h2:i=j
   ·rw[if_pos h2,if_pos h2]
   ·rw[if_neg h2,if_neg h2];simp only[aa];rw[if_neg (λh=>h2 h.symm)]
  ·rw[if_neg h];simp only[aa]
   by_cases h2:j=i
   ·subst h2;rw[if_pos rfl,if_neg h,if_pos rfl];rfl
   ·rw[if_neg h2,if_neg h2];exact ih
 | (j,.pin k q z N)::r=>by
  have ih:=gW id s rows i r;unfold ku
  by_cases h:j=id
  ·subst h;rw[if_pos rfl,ih]
   by_cases h2:i=j
   ·rw[if_pos h2,if_pos h2]
   ·rw[if_neg h2,if_neg h2];simp only[aa];rw[if_neg (λh=>h2 h.symm)]
  ·rw[if_neg h];simp only[aa]
   by_cases h2:j=i
   ·subst h2;rw[if_pos rfl,if_neg h,if_pos rfl];rfl
   ·rw[if_neg h2,if_neg h2];exact ih
theorem RdP.Lx {S:Nat->Prop} {w:World} {v:Value} {x:AV} (h:RdP S w v x) (id s:Nat) (rows:List (List AV)):frz id s rows x=x:=by
 have key:∀(l:List AV),(∀(j:Nat) x,l[j]? = some x->frz id s rows x=x)->dq id s rows l=l:=by
  intro l
  induction l with
  | nil=>intro _;rfl
  | cons y r ih=>
   intro h;simp only[dq];rw[h 0 y rfl,ih (λj x hj=>h (j+1) x QR)]
 induction h with
 | fn f vals caps hl hr ih=>simp only[frz];rw[key caps ih]
 | agg cs cells hl hr ih=>simp only[frz];rw[key cells ih]
 | _=>rfl
theorem pk {id s:Nat} {rows:List (List AV)} {R':Value->AV->Prop} {vals:Nat->Value} {cells:List AV} (h:∀j x,cells[j]? = some x->R' (vals j) (frz id s rows x)) :
  ∀j x,(dq id s rows cells)[j]? = some x->R' (vals j) x:=by
 intro j x hx;rw[kI,W2] at hx;cases e:cells[j]? with
 | none=>rw[e] at hx;cases hx
 | some y=>
  rw[e] at hx;simp only[Option.map_some,gL] at hx;subst hx;exact h j y e
theorem BF {l:List AV} {H:List (Nat×Blk)} {id e s:Nat} {rows:List (List AV)} (hb:aa H id=some (.cells e s rows)) (hp:(rows.all λrow=>row.all AV.aW)=true) {μ:Nat->Option Nat} {S:Nat->Prop} {a:Act} {w:World} (hi:Inv C μ S ⟨l,H⟩ a w) :
  Inv C (upd μ id none) (λb=>S b\/μ id=some b) ⟨l.map (frz id s rows),ku id s rows H⟩ a w:=by
 have hB:=hi.hp id _ hb;have hpure:∀(i:Nat) row,rows[i]? = some row->∀(j:Nat) x,row[j]? = some x->x.aW=true:=λi row hi j x hj=>List.all_eq_true.1 (List.all_eq_true.1 hp row (W3 hi)) x (W3 hj)
 let S2:Nat->Prop:=λb=>S b\/μ id=some b
 let μ2:Nat->Option Nat:=upd μ id none
 have hS:∀b,S b->S2 b:=λb h=>.inl h
 have rd:∀{v:Value} {x:AV},Rd μ S w v x->Rd μ2 S2 w v (frz id s rows x):=by
  intro v x h
  induction h with
  | any v=>exact .any v
  | pure h=>rw[h.Lx];exact .pure (h.mono (aH.refl _ _) hS)
  | agg cs cells hl hr ih=>simp only[frz];exact .agg cs _ WB (pk (R':=λv x=>Rd μ2 S2 w v x) (vals:=λj=>cs.getD j undef) ih)
  | tup cs cells hl hr ih=>simp only[frz];exact .tup cs _ WB (pk (R':=λv x=>Rd μ2 S2 w v x) (vals:=λj=>cs.getD j undef) ih)
  | fn f vals cells hl hr ih=>simp only[frz];exact .fn f vals _ WB (pk (R':=λv x=>Rd μ2 S2 w v x) (vals:=λj=>vals.getD j undef) ih)
  | ptr i size row o g hg=>
   simp only[frz];split
   ·rename_i he;subst he;split
    ·rename_i hc;obtain ⟨rfl,hrow⟩:=hc
     rcases hB with ⟨rfl,_⟩ | ⟨g',c,k1,k2,k3,k4,k5⟩
     ·simp at hrow
     ·rw[hg] at k1;injection k1 with k1;subst k1
      have hr:=Dn hrow;have hlen:=k4 _ (W3 hr);have hlt:=iM (size:=size) hr;refine .pure (.rp g (row*size) o _ (λj=>c.getD (row*size+j) undef) (.inr hg) (λj hj=>?_) (λj x hx=>?_))
      ·rw[cell_of k2,Array.getD_eq_getD_getElem?,YC z8];rfl
      ·exact ((k5 _ _ hr j x hx).toP (hpure _ _ hr _ _ hx)).mono (aH.refl _ _) hS
    ·exact .any _
   ·rename_i he;exact .ptr i size row o g QD
  | osl i size o len cap A hc h=>
   simp only[frz];split
   ·rename_i he;subst he;split
    ·rename_i hcond;obtain ⟨rfl,hle⟩:=hcond;have hl:((rows.drop o).take len).length=len:=by simp;omega
     rcases h with ⟨rfl,h2⟩ | ⟨g,e',n,h1,rfl,h3,h4⟩
     ·exact .pure (.sl A 0 cap _ size 0 0 (λ_ _=>undef) hl hc (λrow h=>by simp at h) (λh=>by omega) (λi j h=>by omega) (λi row h=>by simp at h))
     ·rcases hB with ⟨_,k2⟩ | ⟨g',c,k1,k2,k3,k4,k5⟩
      ·rw[k2] at h1;cases h1
      ·rw[k1] at h1;injection h1 with h1;subst h1
       refine .pure (.sl _ len cap _ size g' (o*size) (λi j=>c.getD ((o+i)*size+j) undef) hl hc (λrow h=>k4 row (YY (YF h))) (λ_=>⟨rfl,.inr k1⟩) (λi' j hi' hj=>?_) (λi' row h j x hx=>?_))
       ·have hlt:(o+i')*size+size<=rows.length*size:=by
         have:=YJ size (show o+i'+1<=rows.length by omega)
         rwa [Yy] at this
        rw[show o*size+(i'*size+j)=(o+i')*size+j from by rw[Nat.add_mul];omega,cell_of k2,Array.getD_eq_getD_getElem?,YC z8];rfl
       ·rw[YU] at h;split at h
        ·rw[List.getElem?_drop] at h;exact ((k5 _ row h j x hx).toP (hpure _ _ h _ _ hx)).mono (aH.refl _ _) hS
        ·cases h
    ·exact .any _
   ·rename_i he;refine .osl i size o len cap A hc ?_
    rcases h with h | ⟨g,e',n,h1,h2,h3,h4⟩
    ·exact .inl h
    ·exact .inr ⟨g,e',n,by simp only[μ2,upd];rw[if_neg he];exact h1,h2,h3,h4⟩
  | mp i g hg=>
   simp only[frz];split
   ·exact .any _
   ·rename_i he;exact .mp i g QD
  | exs i size o len cap g e n hc hg hr hn=>
   simp only[frz];split
   ·exact .any _
   ·rename_i he;exact .exs i size o len cap g e n hc QD hr hn
  | cndT v x h ih=>exact .cndT v _ ih
  | cndF x=>exact .cndF _
 have m2:∀{i g},μ2 i=some g->i≠id/\μ i=some g:=fun {i g} hg=>by
  simp only[μ2,upd] at hg;split at hg
  ·cases hg
  ·exact ⟨by assumption,hg⟩
 refine ⟨by simp[hi.size],hi.defers,λt x hx=>?_,λi b hb'=>?_,λi g hg=>?_,λi j g h1 h2=>hi.inj i j g (m2 h1).2 (m2 h2).2,hi.frm,λb hb'=>?_⟩
 ·simp only[W2] at hx;cases e:l[t]? with
  | none=>rw[e] at hx;cases hx
  | some y=>
   rw[e] at hx;simp only[Option.map_some,gL] at hx;subst hx;exact rd (hi.tm t y e)
 ·simp only at hb';rw[gW] at hb';split at hb'
  ·cases hb'
  ·rename_i he;cases e1:aa H i with
   | none=>rw[e1] at hb';cases hb'
   | some b0=>
    rw[e1] at hb';simp only[Option.map_some,gL] at hb';subst hb';have hμ:μ2 i=μ i:=by simp only[μ2,upd];rw[if_neg he]
    have:=hi.hp i b0 e1;cases b0 with
    | cells e' z R=>
     rcases this with ⟨rfl,h2⟩ | ⟨g,c,h1,h2,h3,h4,h5⟩
     ·exact .inl ⟨rfl,hμ.trans h2⟩
     ·refine .inr ⟨g,c,hμ.trans h1,h2,by simpa using h3,λrow hrow=>?_,λi' row hi' j x hx=>?_⟩
      ·obtain ⟨r,hr,rfl⟩:=W5.1 hrow;rw[kI,List.length_map];exact h4 r hr
      ·rw[W2] at hi';cases e2:R[i']? with
       | none=>rw[e2] at hi';cases hi'
       | some r=>
        rw[e2] at hi';simp only[Option.map_some,gL] at hi';subst hi';exact pk (R':=λv x=>Rd μ2 S2 w v x) (vals:=λj=>c.getD (i'*z+j) undef) (λj x hx=>rd (h5 i' r e2 j x hx)) j x hx
    | map kvs=>
     obtain ⟨g,es,clk,vals,h1,h2,h3,h4⟩:=this;exact ⟨g,es,clk,vals,hμ.trans h1,h2,h3,λp hp'=>(h4 p hp').mono (aH.refl _ _) hS⟩
    | iter kvs seen=>
     obtain ⟨g,es,clk,vals,had,h1,h2,h4⟩:=this;obtain ⟨m,k1,k2,k3⟩:=h2.lies;exact ⟨g,es,clk,vals,had,hμ.trans h1,⟨⟨m,k1,hS _ k2,k3⟩,h2.map,h2.last,h2.had⟩,λp hp'=>(h4 p hp').mono (aH.refl _ _) hS⟩
    | cap k z N=>
     obtain ⟨h1,g,e,h2,h3⟩:=this;simp only[IT];split
     ·exact .inl ⟨rfl,hμ.trans h1⟩
     ·rename_i hk;refine ⟨hμ.trans h1,g,e,?_,h3⟩;simp only[upd];rw[if_neg hk];exact h2
    | pin k g z N=>
     obtain ⟨h1,h2,h3⟩:=this;simp only[IT];split
     ·exact .inl ⟨rfl,hμ.trans h1⟩
     ·rename_i hk;refine ⟨hμ.trans h1,?_,h3⟩;simp only[upd];rw[if_neg hk];exact h2
 ·obtain ⟨k1,k2⟩:=m2 hg;obtain ⟨⟨b,h1⟩,h2,h3,h4⟩:=hi.dom i g k2;refine ⟨⟨IT id s rows b,?_⟩,h2,?_,h4⟩
  ·simp only at h1 ⊢;rw[gW,if_neg k1,h1];rfl
  ·rintro (h | h)
   ·exact h3 h
   ·exact k1 (hi.inj _ _ _ k2 h)
 ·rcases hb' with h | h
  ·exact hi.sb b h
  ·obtain ⟨_,h2,_,h4⟩:=hi.dom id b h;exact ⟨h4,.inr h2⟩
theorem D7 {l:List AV} {H:List (Nat×Blk)} {id e s:Nat} {rows:List (List AV)} (hb:aa H id=some (.cells e s rows)) (hp:(rows.all λrow=>row.all AV.aW)=true) :
  Le C ⟨l,H⟩ ⟨l.map (frz id s rows),ku id s rows H⟩:=λ_ _ ⟨_,_,hi⟩=>⟨_,_,BF hb hp hi⟩
theorem ZZ {l:List AV} {H:List (Nat×Blk)} (id:Nat) {e s:Nat} {rows:List (List AV)} (hb:aa H id=some (.cells e s rows)) (hp:(rows.all λrow=>row.all AV.aW)=true)
  (h:Cw P C Ret k ⟨l.map (frz id s rows),ku id s rows H⟩):Cw P C Ret k ⟨l,H⟩:=af (D7 hb hp) h
end
end Go.Eng
namespace Go.Eng
section
variable {P:Program} {T:Tab} {C:Ctx} {σ σ' s:St} {Ret:St->Prop}
theorem dQ {c:Operand} {args:List Operand} (h:∀x,x∈fV σ c++aQ σ args->bn σ s x):az s c args=az σ c args:=by
 unfold az;rw[ct (λx hx=>h x (YQ _ hx)),og (λx hx=>h x (YB _ hx))]
def eC (ops:Array Oper) (σ:St) (o:Oper) (c:Operand) (args:List Operand) (r:AV):Sp:=⟨o.dst,r,[],cd ops o.guard++(fV σ c++aQ σ args)⟩
theorem l_ (ops:Array Oper) (σ:St) (o:Oper) (c:Operand) (args:List Operand) (r:AV):(eC ops σ o c args r).app σ=σ.put o.dst r:=by simp[Sp.app,eC]
theorem iC {ops:Array Oper} {o:Oper} {x:AV} {rd:List Loc} {b:Bool} (hg:guardOf ops σ o.guard=some b) (hg0:b=true\/∃y,x=.cnd false y)
  (h:b=true->∀s,(∀l,l∈rd->bn σ s l)->eP P C o s (s.put o.dst x)):Rob P C ops o ⟨o.dst,x,[],cd ops o.guard++rd⟩ σ:=by
 intro s ha _ a w K Q hr hK;have hg':guardOf ops s o.guard=some b:=by rw[ix (λx hx=>ha x (YQ _ hx))];exact hg
 obtain ⟨μ,S,hi⟩:=hr;rw[bs hi hg'];cases b with
 | true=>exact .inl (h rfl s (λl hl=>ha l (YB _ hl)) a w K Q ⟨μ,S,hi⟩ hK)
 | false=>
  rcases hg0 with h | ⟨y,rfl⟩
  ·cases h
  ·exact hK _ _ ⟨μ,S,hi.put o.dst (.cndF y)⟩
theorem AH {ops:Array Oper} {o:Oper} {c:Operand} {args:Array Operand} {ats:Array TypeId} (ho:o.op=.call { callee:=.value c,args,argTypes:=ats }) (hg:o.guard=none) {p:Prop} {f:FuncId} {xs:List AV}
  (h:az σ c args.toList=some (p,f,xs)) (hp:p) (hc:aJ P f) (hx:aB xs=[]) {r:AV} (hr:refs r=[]) (hf:aj P f xs [] λr' _=>r'=r):Rob P C ops o (eC ops σ o c args.toList r) σ:=
 iC (b:=true) Qx (.inl rfl) λ_ _ ha=>nO ho (by rw[dQ ha];exact h) hp hc hx hr hf
def dw:List Sp->St->Prop
 | [],_=>True
 | p::ps,σ=>(∀b,b∈p.new->Loc.blk b.1∉p.rd->aa σ.hp b.1=none)/\dw ps (p.app σ)
theorem dw.get:∀{ps:List Sp} {σ:St},dw ps σ->∀(i:Nat) p,ps[i]? = some p->∀b,b∈p.new->Loc.blk b.1∉p.rd->aa (upto ps i σ).hp b.1=none
 | [],_,_,i,p,h,_,_,_=>by simp at h
 | q::ps,σ,hf,0,p,h,b,hb,hn=>by
  simp only[List.getElem?_cons_zero,gL] at h;subst h;exact hf.1 b hb hn
 | q::ps,σ,hf,i+1,p,h,b,hb,hn=>hf.2.get i p x7 b hb hn
theorem dw.append:∀{ps qs:List Sp} {σ:St},dw ps σ->dw qs (db ps σ)->dw (ps++qs) σ
 | [],_,_,_,h=>h
 | _::_,_,_,h,h2=>⟨h.1,h.2.append h2⟩
theorem dw.of_nil:∀{ps:List Sp} {σ:St},(∀p,p∈ps->p.new=[])->dw ps σ
 | [],_,_=>trivial
 | p::ps,_,h=>⟨λb hb _=>(by rw[h p w8] at hb;cases hb),dw.of_nil λq hq=>h q (by simp[hq])⟩
def an (P:Program) (C:Ctx) (ops:Array Oper) (Q:Exit->Act->World->Prop) (k n:Nat) (acc:dA) (l:List Oper) (σ:St):Prop:=
 ∃l1 l2 ps,l=l1++l2/\l1.length=ps.length/\dP P C ops l1 ps σ/\dw ps σ/\(nj ops k (acc++iO ps)&&yZ n (acc++iO ps))=true/\bp P C ops Q (k+acc.length+ps.length) (db ps σ)
theorem oX {ops:Array Oper}:∀{l1 l2:List Oper} {p1 p2:List Sp} {σ:St},l1.length=p1.length->dP P C ops l1 p1 σ->dP P C ops l2 p2 (db p1 σ)->dP P C ops (l1++l2) (p1++p2) σ
 | [],_,[],_,_,_,_,h=>h
 | _::l1,_,_::p1,_,_,hl,h,h2=>⟨h.1,oX QN h.2 h2⟩
 | [],_,_::_,_,_,hl,_,_=>by simp at hl
 | _::_,_,[],_,_,hl,_,_=>by simp at hl
theorem nS:∀(p1 p2:List Sp) (σ:St),db (p1++p2) σ=db p2 (db p1 σ)
 | [],_,_=>rfl
 | _::p1,p2,_=>nS p1 p2 _
theorem sP {ops:Array Oper} {Q:Exit->Act->World->Prop} {k n:Nat} {acc:dA} {l1 l:List Oper} {ps:List Sp} (hl:l1.length=ps.length) (hc:dP P C ops l1 ps σ) (hn:dw ps σ)
  (h:an P C ops Q k n (acc++iO ps) l (db ps σ)):an P C ops Q k n acc (l1++l) σ:=by
 obtain ⟨m1,m2,qs,rfl,h2,h3,h4,h5,h6⟩:=h;have e:acc++iO ps++iO qs=acc++iO (ps++qs):=by simp[iO]
 refine ⟨l1++m1,m2,ps++qs,by simp,by simp[hl,h2],oX hl hc h3,hn.append h4,by rw[<-e];exact h5,?_⟩;rw[nS];have e2:k+(acc++iO ps).length+qs.length=k+acc.length+(ps++qs).length:=by simp[iO];omega
 rw[<-e2];exact h6
theorem JJ (hT:TabOK P T) {ops:Array Oper} {Q:Exit->Act->World->Prop} {k n:Nat} {acc:dA} {l l':List Oper} {p:Prop} {ps:List Sp} (h:lV T ops l σ=some (p,ps,l',σ')) (hp:p) {sk:dA} (hs:iO ps=sk)
  (hk:an P C ops Q k n (acc++sk) l' σ'):an P C ops Q k n acc l σ:=by
 subst hs;obtain ⟨h1,h2,h3⟩:=pR h;obtain ⟨l1,k1,k2⟩:=jQ (P:=P) (C:=C) hT ops l σ h hp (l2:=[]) (ps2:=[]) trivial w8;simp only[List.append_nil] at k2;subst k1;refine sP Zb k2 (.of_nil λp hp=>?_) (by rw[h2];exact hk);obtain ⟨i,hi⟩:=W9 hp;exact h3 i p hi
theorem pS {ops:Array Oper} {Q:Exit->Act->World->Prop} {k n:Nat} {acc:dA} {o:Oper} {l:List Oper} {q:Sp} (hq:Rob P C ops o q σ) (hn:∀b,b∈q.new->Loc.blk b.1∉q.rd->aa σ.hp b.1=none) {sk:List Loc×List Loc} (hs:(q.wr,q.rd)=sk) (ha:q.app σ=σ')
  (hk:an P C ops Q k n (acc++[sk]) l σ'):an P C ops Q k n acc (o::l) σ:=by
 subst hs ha;exact sP (l1:=[o]) (ps:=[q]) rfl ⟨hq,trivial⟩ ⟨hn,trivial⟩ hk
theorem km {ops:Array Oper} {Q:Exit->Act->World->Prop} {k n:Nat} {acc:dA} {o:Oper} {l:List Oper} {q:Sp} (hq:Rob P C ops o q σ) (hn:q.new=[]) {sk:List Loc×List Loc} (hs:(q.wr,q.rd)=sk) (ha:q.app σ=σ')
  (hk:an P C ops Q k n (acc++[sk]) l σ'):an P C ops Q k n acc (o::l) σ:=by
 subst hs ha;exact sP (l1:=[o]) (ps:=[q]) rfl ⟨hq,trivial⟩ (.of_nil λp hp=>by rw[List.mem_singleton.1 hp];exact hn) hk
theorem Hc {ops:Array Oper} {Q:Exit->Act->World->Prop} {k n:Nat} {acc:dA} {o:Oper} {l:List Oper} {c:Operand} {args:Array Operand} {ats:Array TypeId} (ho:o.op=.call { callee:=.value c,args,argTypes:=ats }) (hg:o.guard=none) {p:Prop} {f:FuncId} {xs:List AV}
  (h:az σ c args.toList=some (p,f,xs)) (hp:p) (hc:aJ P f) (hx:aB xs=[]) {r:AV} (hf:aj P f xs [] λr' _=>r'=r) (hr:refs r=[]) {sk:List Loc×List Loc} (hs:((eC ops σ o c args.toList r).wr,(eC ops σ o c args.toList r).rd)=sk)
  (ha:σ.put o.dst r=σ') (hk:an P C ops Q k n (acc++[sk]) l σ'):an P C ops Q k n acc (o::l) σ:=
 km (AH ho hg h hp hc hx hr hf) rfl hs Wp hk
theorem yq {ops:Array Oper} {Q:Exit->Act->World->Prop} {k n:Nat} {acc:dA} {l:List Oper} (hc:(nj ops k acc&&yZ n acc)=true) {j:Nat} (hj:k+acc.length=j) (h:bp P C ops Q j σ):an P C ops Q k n acc l σ:=by
 subst hj;exact ⟨[],l,[],rfl,rfl,trivial,trivial,by simpa[iO] using hc,h⟩
theorem ZS {ops:Array Oper} {Q:Exit->Act->World->Prop} {k:Nat} {l:List Oper} (hl:ops.toList.drop k=l) (h:an P C ops Q k σ.tm.length [] l σ):bp P C ops Q k σ:=by
 subst hl;obtain ⟨l1,l2,ps,h1,h2,h3,h4,h5,h6⟩:=h;rw[Bool.and_eq_true] at h5;simp only[List.nil_append] at h5;refine FT (l:=l1) (ps:=ps) h5.1 h2 (λi hi=>?_) (λi q hq b hb hn=>h4.get i q hq b hb hn) h3 (by simpa using h6);rw[<-Array.getElem?_toList,<-List.getElem?_drop,h1,YP z8]
theorem vK (hT:TabOK P T) {ops:Array Oper} {Q:Exit->Act->World->Prop} {k:Nat} {o:Oper} (ho:ops[k]? = some o) (hc:Region.ready .any ops (bj ops.size k)=[k]) (hg:o.guard=none) {p:Prop} (h:eE T σ o.dst o.op=some (p,σ')) (hp:p)
  {j:Nat} (hj:k+1=j) (hk:bp P C ops Q j σ'):bp P C ops Q k σ:=by
 subst hj;refine yX ho hc (λa w K Q' hr hK=>?_) hk;obtain ⟨μ,S,hi⟩:=hr;rw[bs hi (show guardOf ops σ o.guard=some true from by rw[hg];rfl)];exact .inl (cn hT o h hp a w K Q' ⟨μ,S,hi⟩ hK)
theorem ff {ops:Array Oper} {Q:Exit->Act->World->Prop} {k:Nat} {o:Oper} (ho:ops[k]? = some o) (hc:Region.ready .any ops (bj ops.size k)=[k]) (hg:o.guard=none) (h:eP P C o σ σ')
  {j:Nat} (hj:k+1=j) (hk:bp P C ops Q j σ'):bp P C ops Q k σ:=by
 subst hj;refine yX ho hc (λa w K Q' hr hK=>?_) hk;obtain ⟨μ,S,hi⟩:=hr;rw[bs hi (show guardOf ops σ o.guard=some true from by rw[hg];rfl)];exact .inl (h a w K Q' ⟨μ,S,hi⟩ hK)
theorem dL {k:List It} {all:Array Oper} {o:Oper} {l:List Oper} {c:Operand} {args:Array Operand} {ats:Array TypeId} (ho:o.op=.call { callee:=.value c,args,argTypes:=ats }) (hg:o.guard=none) {p:Prop} {f:FuncId} {xs:List AV}
  (h:az σ c args.toList=some (p,f,xs)) (hp:p) (hc:aJ P f) (hx:aB xs=[]) {r:AV} (hf:aj P f xs [] λr' _=>r'=r) (hr:refs r=[]) (ha:σ.put o.dst r=σ') (hk:Cw P C Ret (.ops all l::k) σ'):Cw P C Ret (.ops all (o::l)::k) σ:=by
 subst ha;exact bE Qx (nO ho h hp hc hx hr hf) hk
theorem FM {k:List It} {all:Array Oper} {o:Oper} {l:List Oper} {c:Operand} {args:Array Operand} {ats:Array TypeId} (ids:List Nat) (off:Nat) (ho:o.op=.call { callee:=.value c,args,argTypes:=ats }) (hg:o.guard=none) {p:Prop} {f:FuncId} {xs:List AV}
  (h:az σ c args.toList=some (p,f,xs)) (hp:p) (hc:aJ P f) {H K:List (Nat×Blk)} {r:AV} (hH:sub ids σ.hp=H)
  (hf:aj P f xs H λr' H'=>r'=r/\∀id b,aa K id=some b->aa H' id=some b)
  (hck:(aB xs).all ids.contains=true) (hc1:(H.all λp=>(ay p.2).all ids.contains)=true) (hc2:((del ids σ.hp).all λp=>(ay p.2).all λi=>!ids.contains i)=true)
  (hc3:closed K (refs r)=true) (hc4:(K.all λp=>(aa σ.hp (p.1+off)).isNone)=true) (hτ:(⟨σ.tm.map (iR ids),sg off K++del ids σ.hp⟩:St).put o.dst (ren off r)=σ')
  (hk:Cw P C Ret (.ops all l::k) σ'):Cw P C Ret (.ops all (o::l)::k) σ:=
 bE Qx (uQ ho h hp hc ids off hH hck hc1 hc2 hc3 hc4 hf hτ) hk
theorem CT (hT:TabOK P T) (n:Nat) {k:List It} {all:Array Oper} {l l1 l2:List Oper} {p:Prop} (h1:l.take n=l1) (h2:l.drop n=l2) (h:jZ T all l1 σ=some (p,[],σ')) (hp:p) (hk:Cw P C Ret (.ops all l2::k) σ'):Cw P C Ret (.ops all l::k) σ:=by
 subst h1 h2;intro a w hr;have:=k_ (P:=P) (C:=C) hT all (l.drop n) (l.take n) σ (Q:=aft (eI C Ret) (sem P C (eI C Ret) k)) h hp (λa w hr=>hk a w hr);rw[List.take_append_drop] at this;exact this a w hr
theorem AL (hT:TabOK P T) (m:Nat) {ops:Array Oper} {Q:Exit->Act->World->Prop} {k n:Nat} {acc:dA} {l l1 l2:List Oper} {p:Prop} {ps:List Sp} (h1:l.take m=l1) (h2:l.drop m=l2) (h:lV T ops l1 σ=some (p,ps,[],σ')) (hp:p) {sk:dA} (hs:iO ps=sk)
  (hk:an P C ops Q k n (acc++sk) l2 σ'):an P C ops Q k n acc l σ:=by
 subst hs h1 h2;obtain ⟨g1,g2,g3⟩:=pR h;obtain ⟨q1,k1,k2⟩:=jQ (P:=P) (C:=C) hT ops (l.take m) σ h hp (l2:=[]) (ps2:=[]) trivial w8;simp only[List.append_nil] at k1 k2;subst k1;have:=sP (l1:=l.take m) (l:=l.drop m) (by simpa using g1) k2 (.of_nil λp hp=>by
  obtain ⟨i,hi⟩:=W9 hp;exact g3 i p hi) (by rw[g2];exact hk)
 rwa [List.take_append_drop] at this
end
end Go.Eng
namespace Go.Eng
section
variable {P:Program}
theorem GP {μ:Nat->Option Nat} {S:Nat->Prop} {w:World} {v:Value} {id s off len e:Nat} {rows:List (List AV)} (hv:Rd μ S w v (.osl id s off len)) (hB:cR μ S w id (.cells e s rows))
  (hp:(rows.all λrow=>row.all AV.aW)=true) (hle:off+len<=rows.length):RdP (λb=>S b\/μ id=some b) w v (.sl ((rows.drop off).take len)):=by
 have hpure:∀(i:Nat) row,rows[i]? = some row->∀(j:Nat) x,row[j]? = some x->x.aW=true:=λi row hi j x hj=>List.all_eq_true.1 (List.all_eq_true.1 hp row (W3 hi)) x (W3 hj)
 obtain ⟨A,cap,rfl,hc,h⟩:=hv.bZ;have hl:((rows.drop off).take len).length=len:=by simp;omega
 rcases h with ⟨rfl,h2⟩ | ⟨g,e',n,h1,rfl,h3,h4⟩
 ·exact .sl A 0 cap _ s 0 0 (λ_ _=>undef) hl hc (λrow h=>by simp at h) (λh=>by omega) (λi j h=>by omega) (λi row h=>by simp at h)
 ·rcases hB with ⟨_,k2⟩ | ⟨g',c,k1,k2,k3,k4,k5⟩
  ·rw[k2] at h1;cases h1
  ·rw[k1] at h1;injection h1 with h1;subst h1
   refine .sl _ len cap _ s g' (off*s) (λi j=>c.getD ((off+i)*s+j) undef) hl hc (λrow h=>k4 row (YY (YF h))) (λ_=>⟨rfl,.inr k1⟩) (λi' j hi' hj=>?_) (λi' row h j x hx=>?_)
   ·have hlt:(off+i')*s+s<=rows.length*s:=by
     have:=YJ s (show off+i'+1<=rows.length by omega)
     rwa [Yy] at this
    rw[show off*s+(i'*s+j)=(off+i')*s+j from by rw[Nat.add_mul];omega,cell_of k2,Array.getD_eq_getD_getElem?,YC z8];rfl
   ·rw[YU] at h;split at h
    ·rw[List.getElem?_drop] at h;exact ((k5 _ row h j x hx).toP (hpure _ _ h _ _ hx)).mono (aH.refl _ _) (λ_ h=>.inl h)
    ·cases h
theorem aj.read {f:FuncId} {args:List AV} {H:List (Nat×Blk)} {id s e:Nat} {rows:List (List AV)} (h:aj P f args H λr H'=>r=.osl id s 0 rows.length/\∀i b,aa [(id,.cells e s rows)] i=some b->aa H' i=some b)
  (hp:(rows.all λrow=>row.all AV.aW)=true):aj P f args H λr _=>r=.sl rows:=by
 intro R0 μ w0 vs hl ha hH hR;refine (h R0 μ w0 vs hl ha hH hR).mono ?_;rintro e' w' ⟨v,r,H',μ',S',rfl,⟨rfl,hb⟩,h4,h5,h6,h7,h8⟩;have hb:=hb id (.cells e s rows) (by simp only[aa,if_true]);have hrd:=GP h4 (h5.blk id _ hb) hp z8;simp only[List.drop_zero,W4] at hrd;refine ⟨v,_,[],λ_=>none,_,rfl,rfl,.pure hrd,⟨λi b h=>by simp[aa] at h,λi g h=>Ql,λi j g h=>Ql,h5.glob.nil⟩,h6,λi g h=>Ql,λb hb'=>?_⟩
 rcases hb' with h | h
 ·exact h8 b h
 ·refine ⟨(h5.dom id b h).2.2,?_⟩
  rcases h7 id b h with h | h
  ·exact .inr (.inl h)
  ·exact .inr (.inr h)
end
end Go.Eng
namespace Go.Eng
section
variable {P:Program} {T:Tab} {C:Ctx} {σ σ' s:St} {Ret:St->Prop}
theorem LD (d:Option Tmp) (r:AV):Le C (s.put d r) (s.put d (.cnd true r)):=by
 intro a w ⟨μ,S,hi⟩;cases d with
 | none=>exact ⟨μ,S,hi⟩
 | some t=>
  refine ⟨μ,S,{ hi with size:=by have:=hi.size;simp only[St.put,YN] at this ⊢;exact this,tm:=λi x hx=>?_ }⟩
  by_cases e:t=i
  ·subst e;simp only[St.put,YM,if_true] at hx;split at hx
   ·rename_i hl;injection hx with hx
    subst hx;exact .cndT _ _ (hi.tm t r (by simp only[St.put,YM,if_true];rw[if_pos hl]))
   ·cases hx
  ·refine hi.tm i x ?_;simp only[St.put,YM,if_neg e] at hx ⊢;exact hx
theorem eP.cnd {o:Oper} {r:AV} (h:eP P C o s (s.put o.dst r)):eP P C o s (s.put o.dst (.cnd true r)):=
 λa w K Q hr hK=>h a w K Q hr λa' w' h'=>hK a' w' (LD o.dst r a' w' h')
theorem ED {ops:Array Oper} {o:Oper} {c:Operand} {args:Array Operand} {ats:Array TypeId} (ho:o.op=.call { callee:=.value c,args,argTypes:=ats }) {b:Bool} (hg:guardOf ops σ o.guard=some b) {p:Prop} {f:FuncId} {xs:List AV}
  (h:az σ c args.toList=some (p,f,xs)) (hp:b=true->p) (hc:aJ P f) (hx:aB xs=[]) {r:AV} (hr:refs r=[]) (hf:b=true->aj P f xs [] λr' _=>r'=r):Rob P C ops o (eC ops σ o c args.toList (.cnd b r)) σ:=by
 refine iC (b:=b) hg ?_ λhb s ha=>?_
 ·cases b with
  | true=>exact .inl rfl
  | false=>exact .inr ⟨r,rfl⟩
 ·subst hb;exact (nO ho (by rw[dQ ha];exact h) (hp rfl) hc hx hr (hf rfl)).cnd
theorem EP {ops:Array Oper} {Q:Exit->Act->World->Prop} {k n:Nat} {acc:dA} {o:Oper} {l:List Oper} {c:Operand} {args:Array Operand} {ats:Array TypeId} (ho:o.op=.call { callee:=.value c,args,argTypes:=ats }) {b:Bool} (hg:guardOf ops σ o.guard=some b) {p:Prop} {f:FuncId} {xs:List AV}
  (h:az σ c args.toList=some (p,f,xs)) (hp:b=true->p) (hc:aJ P f) (hx:aB xs=[]) {r:AV} (hf:b=true->aj P f xs [] λr' _=>r'=r) (hr:refs r=[]) {sk:List Loc×List Loc} (hs:((eC ops σ o c args.toList (.cnd b r)).wr,(eC ops σ o c args.toList (.cnd b r)).rd)=sk)
  (ha:σ.put o.dst (.cnd b r)=σ') (hk:an P C ops Q k n (acc++[sk]) l σ'):an P C ops Q k n acc (o::l) σ:=
 km (ED ho hg h hp hc hx hr hf) rfl hs Wp hk
theorem yU {k:List It} {all:Array Oper} {o:Oper} {l:List Oper} {c:Operand} {args:Array Operand} {ats:Array TypeId} (ho:o.op=.call { callee:=.value c,args,argTypes:=ats }) {b:Bool} (hg:guardOf all σ o.guard=some b) {p:Prop} {f:FuncId} {xs:List AV}
  (h:az σ c args.toList=some (p,f,xs)) (hp:b=true->p) (hc:aJ P f) (hx:aB xs=[]) {r:AV} (hf:b=true->aj P f xs [] λr' _=>r'=r) (hr:refs r=[]) (ha:σ.put o.dst (.cnd b r)=σ') (hk:Cw P C Ret (.ops all l::k) σ'):Cw P C Ret (.ops all (o::l)::k) σ:=by
 subst ha;intro a w hrel
 show wpList P all _ (o::l) a w
 unfold wpList;obtain ⟨μ,S,hi⟩:=hrel;rw[bs hi hg];cases b with
 | false=>exact hk _ _ ⟨μ,S,hi.put o.dst (.cndF r)⟩
 | true=>exact .inl ((nO ho h (hp rfl) hc hx hr (hf rfl)).cnd a w _ _ ⟨μ,S,hi⟩ λa' w' h'=>hk a' w' h')
end
end Go.Eng
namespace Go.Eng
section
variable {P:Program} {T:Tab} {C:Ctx} {σ σ' s:St} {Ret:St->Prop}
mutual
theorem CB {h h':List (Nat×Blk)}:∀(x:AV),(∀id,id∈refs x->aa h' id=aa h id)->view h' x=view h x
 | .osl id s off len,he=>by simp only[view];rw[he id s8]
 | .ptr id s row off,he=>by simp only[view];rw[he id s8]
 | .mp id,he=>by simp only[view];rw[he id s8]
 | .fn f caps,he=>by simp only[view];rw[ko caps (λid hid=>he id WG)]
 | .agg cells,he=>by simp only[view];rw[ko cells (λid hid=>he id WG)]
 | .any,_=>rfl
 | .tup _,_=>rfl
 | .cnd ..,_=>rfl
 | .int ..,_=>rfl
 | .bool _,_=>rfl
 | .str _,_=>rfl
 | .exs ..,_=>rfl
 | .nilp,_=>rfl
 | .nili,_=>rfl
 | .ifc,_=>rfl
 | .nils,_=>rfl
 | .nilm,_=>rfl
 | .sl _,_=>rfl
 | .rp ..,_=>rfl
 | .rm _,_=>rfl
theorem ko {h h':List (Nat×Blk)}:∀(l:List AV),(∀id,id∈aB l->aa h' id=aa h id)->fD h' l=fD h l
 | [],_=>rfl
 | x::r,he=>by
  simp only[fD];rw[CB x (λid hid=>he id (by simp[aB,hid])),ko r (λid hid=>he id (by simp[aB,hid]))]
end
theorem qm {id:Nat}:∀{os:List Operand},id∈aB (eN σ os).2->Loc.blk id∈aQ σ os
 | [],h=>by simp[eN,aB] at h
 | o::r,h=>by
  simp only[eN,aB,List.mem_append] at h;simp only[aQ,List.mem_append]
  rcases h with h | h
  ·refine .inl ?_;have h':=uM (ev σ o) id h;cases o with
   | tmp t=>exact List.mem_cons_of_mem _ (W5.2 ⟨id,h',rfl⟩)
   | const v=>
    simp only[ev,ofValue] at h';split at h'<;>simp[refs] at h'
   | func f=>simp[ev,refs,aB] at h'
   | global g=>simp[ev,refs] at h'
  ·exact .inr (qm h)
theorem yl (l m:List AV):aB (l++m)=aB l++aB m:=by
 induction l with
 | nil=>rfl
 | cons x r ih=>simp only[List.cons_append,aB,ih,List.append_assoc]
theorem ve {c:Operand} {args:List Operand} {p:Prop} {f:FuncId} {xs:List AV} (h:az σ c args=some (p,f,xs)) {id:Nat} (hid:id∈aB xs):Loc.blk id∈fV σ c++aQ σ args:=by
 unfold az at h;split at h
 ·rename_i q g caps he;simp only[gL,gM] at h;obtain ⟨_,_,rfl⟩:=h;rw[yl,List.mem_append] at hid
  rcases hid with hid | hid
  ·exact YB _ (qm hid)
  ·refine YQ _ ?_;have:id∈aB (eN σ [c]).2:=by
    simp only[eN,he,aB,refs,List.mem_append];exact .inl hid
   simpa[aQ] using qm this
 ·cases h
theorem nx {k:List It} {all:Array Oper} {o:Oper} {l:List Oper} {c:Operand} {args:Array Operand} {ats:Array TypeId} (ho:o.op=.call { callee:=.value c,args,argTypes:=ats }) (hg:o.guard=none) {p q:Prop} {f:FuncId} {xs ys:List AV}
  (h:az σ c args.toList=some (p,f,xs)) (hp:p) (hv:fD σ.hp xs=some (q,ys)) (hq:q) (hc:aJ P f) {r:AV} (hf:aj P f ys [] λr' _=>r'=r) (hr:r.scalar=true) (ha:σ.put o.dst r=σ') (hk:Cw P C Ret (.ops all l::k) σ'):Cw P C Ret (.ops all (o::l)::k) σ:=by
 subst ha;exact bE Qx (xk ho h hp hv hq hc hr hf) hk
theorem yG {c:Operand} {args:List Operand} {p:Prop} {f:FuncId} {xs:List AV} (h:az σ c args=some (p,f,xs)) (ha:∀x,x∈fV σ c++aQ σ args->bn σ s x):fD s.hp xs=fD σ.hp xs:=
 ko xs λ_ hid=>ha _ (ve h hid)
theorem EF {ops:Array Oper} {o:Oper} {c:Operand} {args:Array Operand} {ats:Array TypeId} (ho:o.op=.call { callee:=.value c,args,argTypes:=ats }) {b:Bool} (hg:guardOf ops σ o.guard=some b) {p q:Prop} {f:FuncId} {xs ys:List AV}
  (h:az σ c args.toList=some (p,f,xs)) (hp:b=true->p) (hv:fD σ.hp xs=some (q,ys)) (hq:b=true->q) (hc:aJ P f) {r:AV} (hr:r.scalar=true) (hf:b=true->aj P f ys [] λr' _=>r'=r):Rob P C ops o (eC ops σ o c args.toList (.cnd b r)) σ:=by
 refine iC (b:=b) hg ?_ λhb s ha=>?_
 ·cases b with
  | true=>exact .inl rfl
  | false=>exact .inr ⟨r,rfl⟩
 ·subst hb;exact (xk ho (by rw[dQ ha];exact h) (hp rfl) (by rw[yG h ha];exact hv) (hq rfl) hc hr (hf rfl)).cnd
theorem ER {ops:Array Oper} {Q:Exit->Act->World->Prop} {k n:Nat} {acc:dA} {o:Oper} {l:List Oper} {c:Operand} {args:Array Operand} {ats:Array TypeId} (ho:o.op=.call { callee:=.value c,args,argTypes:=ats }) {b:Bool} (hg:guardOf ops σ o.guard=some b) {p q:Prop} {f:FuncId} {xs ys:List AV}
  (h:az σ c args.toList=some (p,f,xs)) (hp:b=true->p) (hv:fD σ.hp xs=some (q,ys)) (hq:b=true->q) (hc:aJ P f) {r:AV} (hf:b=true->aj P f ys [] λr' _=>r'=r) (hr:r.scalar=true) {sk:List Loc×List Loc} (hs:((eC ops σ o c args.toList (.cnd b r)).wr,(eC ops σ o c args.toList (.cnd b r)).rd)=sk)
  (ha:σ.put o.dst (.cnd b r)=σ') (hk:an P C ops Q k n (acc++[sk]) l σ'):an P C ops Q k n acc (o::l) σ:=
 km (EF ho hg h hp hv hq hc hr hf) rfl hs Wp hk
theorem AM (x:AV) {ops:Array Oper} {Q:Exit->Act->World->Prop} {k n:Nat} {acc:dA} {o:Oper} {l:List Oper} (hg:guardOf ops σ o.guard=some false) {sk:List Loc×List Loc}
  (hs:((⟨o.dst,.cnd false x,[],cd ops o.guard++[]⟩:Sp).wr,cd ops o.guard)=sk) (ha:σ.put o.dst (.cnd false x)=σ') (hk:an P C ops Q k n (acc++[sk]) l σ'):an P C ops Q k n acc (o::l) σ:=
 km (iC (rd:=[]) hg (.inr ⟨x,rfl⟩) (λh=>nomatch h)) rfl (by rw[<-hs,List.append_nil]) Ze hk
def mV (T:Tab) (σ:St) (d:Nat) (op:Op):Option (Prop×Blk×AV):=
 match op with
 | .buildSlice t n parts=>
  match dx T σ t n parts.toList with
  | some (p,e,rows)=>some (p,.cells e (T.siz e) rows,.osl d (T.siz e) 0 n)
  | none=>none
 | .alloc t=>some (T.siz t≠0/\(T.zer t).length=T.siz t,.cells t (T.siz t) [T.zer t],.ptr d (T.siz t) 0 0)
 | .box t x=>
  match kc T t (evS σ x).2 with
  | some xs=>some ((evS σ x).1/\xs.length=T.siz t/\xs.all AV.leaf=true,.cells t (T.siz t) [xs],.ptr d (T.siz t) 0 0)
  | none=>none
 | .makeMap _ none=>some (True,.map [],.mp d)
 | _=>none
theorem pG {e n:Nat}:∀{parts:List (Nat×Operand)},(∀q,q∈parts->evS s q.2=evS σ q.2)->lQ T s e n parts=lQ T σ e n parts
 | [],_=>rfl
 | (j,o)::r,h=>by
  simp only[lQ];rw[h (j,o) w8,pG (λq hq=>h q (by simp[hq]))]
theorem rG {d:Nat} {op:Op} (h:∀x,x∈aQ σ op.operands.toList->bn σ s x):mV T s d op=mV T σ d op:=by
 have he:∀o,o∈op.operands.toList->evS s o=evS σ o:=λo ho=>ct λx hx=>h x (dh ho x hx)
 unfold mV;split
 ·rename_i t n parts;have:dx T s t n parts.toList=dx T σ t n parts.toList:=by
   unfold dx;split
   ·rw[pG (λq hq=>he q.2 (by
     simp only[Op.operands,List.toList_toArray];exact W5.2 ⟨q,hq,rfl⟩))]
   ·rfl
  rw[this]
 ·rfl
 ·rw[he _ j5]
 ·rfl
 ·rfl
theorem EG {d:Nat} (h:aa s.hp d=none):s.room d=(True,s):=by unfold St.room;rw[h]
theorem rH (hT:TabOK P T) {o:Oper} {d:Nat} (hd:o.dst=some d) {p:Prop} {b:Blk} {x:AV} (h:mV T s d o.op=some (p,b,x)) (hp:p) (hf:aa s.hp d=none) :
  eP P C o s (St.put ⟨s.tm,(d,b)::s.hp⟩ (some d) x):=by
 have hr:=EG hf;unfold mV at h;split at h
 ·rename_i t n parts ho;split at h
  ·rename_i q e rows hb;simp only[gL,gM] at h;obtain ⟨rfl,rfl,rfl⟩:=h;refine cn hT o (p:=q/\True) ?_ ⟨hp,trivial⟩;rw[hd,ho];simp only[eE,hr,hb]
  ·cases h
 ·rename_i t ho;simp only[gL,gM] at h;obtain ⟨rfl,rfl,rfl⟩:=h;refine cn hT o (p:=T.siz t≠0/\(T.zer t).length=T.siz t/\True) ?_ ⟨hp.1,hp.2,trivial⟩;rw[hd,ho];simp only[eE,hr]
 ·rename_i t y ho;split at h
  ·rename_i xs hx;simp only[gL,gM] at h;obtain ⟨rfl,rfl,rfl⟩:=h;refine cn hT o (p:=(evS s y).1/\xs.length=T.siz t/\xs.all AV.leaf=true/\True) ?_ ⟨hp.1,hp.2.1,hp.2.2,trivial⟩;rw[hd,ho];simp only[eE,hr,hx]
  ·cases h
 ·rename_i t ho;simp only[gL,gM] at h;obtain ⟨rfl,rfl,rfl⟩:=h;refine cn hT o (p:=True) ?_ trivial;rw[hd,ho];simp only[eE,hr]
 ·cases h
theorem JI (hT:TabOK P T) {ops:Array Oper} {Q:Exit->Act->World->Prop} {k n:Nat} {acc:dA} {o:Oper} {l:List Oper} {d:Nat} (hd:o.dst=some d) (hg:guardOf ops σ o.guard=some true) {p:Prop} {b:Blk} {x:AV} (h:mV T σ d o.op=some (p,b,x)) (hp:p) (hf:aa σ.hp d=none)
  {sk:List Loc×List Loc} (hs:([Loc.tm d,Loc.blk d],cd ops o.guard++aQ σ o.op.operands.toList)=sk) (ha:St.put ⟨σ.tm,(d,b)::σ.hp⟩ (some d) x=σ') (hk:an P C ops Q k n (acc++[sk]) l σ'):an P C ops Q k n acc (o::l) σ:=by
 refine pS (q:=⟨some d,x,[(d,b)],cd ops o.guard++aQ σ o.op.operands.toList⟩) ?_ (λc hc _=>by rw[List.mem_singleton.1 hc];exact hf) (by rw[<-hs];rfl) (by rw[<-ha];rfl) hk;intro s hagree hfree a w K Q' hr hK;have hg':guardOf ops s o.guard=some true:=by rw[ix (λx hx=>hagree x (YQ _ hx))];exact hg
 obtain ⟨μ,S,hi⟩:=hr;rw[bs hi hg'];refine .inl ?_;have hn:mV T s d o.op=some (p,b,x):=by rw[rG (λx hx=>hagree x (YB _ hx))];exact h
 have hfd:aa s.hp d=none:=by
  by_cases h:Loc.blk d∈cd ops o.guard++aQ σ o.op.operands.toList
  ·exact (hagree _ h).trans hf
  ·exact hfree (d,b) w8 h
 exact rH hT hd hn hp hfd a w K Q' ⟨μ,S,hi⟩ hK
attribute [go_sem] mV
end
end Go.Eng
namespace Go.Eng
attribute [go_sem] go jZ mkc eE eX evS ev eN strip ofValue guardOf Gg St.put St.room aa aG dT lJ Eng.loadCells KD.isA gN kc putAt
 yg CP KD.isBool BD sY Hl iw ph iz pq jI pV rF fE lR lQ xH dx lY fz cW
 kill refs aB bo ez jT ek AV.leaf pN B_ yo one az view fD AV.aW AV.scalar nM exitTo St.drop
 oY tl yV uv mapOf yI KD.wc qJ AV.kF lV np fV aQ cd Op.operands Call.operands db Sp.app Sp.wr iO zS iN bS ren gP B8 sg Eng.sub Eng.del iR closed wk nQ Bt JT frz dq ku eC tk
attribute [go_sem] List.getD_cons_zero List.getD_cons_succ List.set_cons_zero List.set_cons_succ List.getD_nil List.map_cons List.map_nil List.length_cons List.length_nil Option.map_some Option.map_none
 List.replicate_succ List.replicate_zero List.cons_append List.nil_append List.all_cons List.all_nil List.drop_succ_cons List.drop_zero List.take_succ_cons List.take_zero
 true_and and_true if_true if_false Option.bind_some Bool.false_eq_true Bool.and_true Y0 Bool.and_self ne_eq Nat.reduceEqDiff List.toList_toArray Option.bind_some Option.toList Option.bind_none List.append_nil List.length_map List.append_toArray List.length_append W4 W7 List.any_nil List.any_cons List.all_append Option.isSome_some Option.isSome_none Option.isNone_none Option.isNone_some List.all_nil List.contains_nil List.contains_cons Y1 Yc Nat.add_zero Int.toNat_natCast
attribute [go_sem] Nat.reduceLT Nat.reduceBEq Nat.reduceLeDiff Nat.reduceAdd Nat.reduceMul Nat.reduceSub Nat.reduceEqDiff Int.reduceNeg Int.reduceToNat Int.reduceAdd Int.reduceSub
end Go.Eng
namespace Go.Eng
section
variable {P:Program} {T:Tab} {C:Ctx} {σ σ':St} {Ret:St->Prop} {k:List It}
def goR:Nat->List It->Option (List It)
 | 0,k=>some k
 | n+1,k=>
  match k with
  | .code (.seq x y)::k=>goR n (.code x::.code y::k)
  | .code (.block id c)::k=>goR n (.code c::.blk id::k)
  | .code .skip::k=>goR n k
  | .blk _::k=>goR n k
  | .code (.exit id)::k=>
   match exitTo id k with
   | some k'=>goR n k'
   | none=>none
  | .code (.region _ ops false)::k=>goR n (.ops ops ops.toList::k)
  | .ops _ []::k=>goR n k
  | k=>some k
theorem mq:∀(n:Nat) {k k':List It},goR n k=some k'->Cw P C Ret k' σ->Cw P C Ret k σ
 | 0,k,k',h,hk=>by
  simp only[goR,gL] at h;subst h;exact hk
 | n+1,k,k',h,hk=>by
  unfold goR at h;split at h
  ·exact qh (mq n h hk)
  ·exact yT (mq n h hk)
  ·exact CV (mq n h hk)
  ·exact FL (mq n h hk)
  ·split at h
   ·rename_i k1 he;exact CS he (mq n h hk)
   ·cases h
  ·exact vI (mq n h hk)
  ·exact jz (mq n h hk)
  ·simp only[gL] at h;subst h;exact hk
theorem AO {l:List AV} {t:Nat} {x:AV} (h:l.getD t .any=x) (hx:x≠.any):l.set t x=l:=by
 apply List.ext_getElem?
 intro i;rw[YM];split
 ·rename_i e;subst e;rw[List.getD_eq_getElem?_getD] at h;cases e:l[t]? with
  | none=>rw[e] at h;exact absurd h.symm hx
  | some y=>
   rw[e] at h;simp only[Option.getD_some] at h;subst h;rw[if_pos (W6.1 e).1]
 ·rfl
theorem II (t:Nat) {b:Bool} (h:σ.tm.getD t .any=.bool b) (hk:∀c,b=c->Cw P C Ret k ⟨σ.tm.set t (.bool c),σ.hp⟩):Cw P C Ret k σ:=by
 have:=hk b rfl
 rwa [AO h (λh=>nomatch h)] at this
theorem ep (t:Nat) {b:Bool} {ops:Array Oper} {Q:Exit->Act->World->Prop} {k n:Nat} {acc:dA} {l:List Oper} (h:σ.tm.getD t .any=.bool b) (hk:∀c,b=c->an P C ops Q k n acc l ⟨σ.tm.set t (.bool c),σ.hp⟩):an P C ops Q k n acc l σ:=by
 have:=hk b rfl
 rwa [AO h (λh=>nomatch h)] at this
theorem tr {c:Operand} {x y:Code} {b:Bool} {p:Prop} (hc:evS σ c=(p,.bool b)) (hp:p) (hb:b=true) (ht:Cw P C Ret (.code x::k) σ):Cw P C Ret (.code (.cond c x y)::k) σ:=
 su hc hp (λ_=>ht) (λh=>by rw[hb] at h;cases h)
theorem tp {c:Operand} {x y:Code} {b:Bool} {p:Prop} (hc:evS σ c=(p,.bool b)) (hp:p) (hb:b=false) (hf:Cw P C Ret (.code y::k) σ):Cw P C Ret (.code (.cond c x y)::k) σ:=
 su hc hp (λh=>by rw[hb] at h;cases h) (λ_=>hf)
mutual
def nrm:AV->AV
 | .nils=>.sl []
 | .sl rows=>.sl (jb rows)
 | .rp cells off=>.rp (fq cells) off
 | .agg cells=>.agg (fq cells)
 | .tup vs=>.tup (fq vs)
 | .fn f caps=>.fn f (fq caps)
 | x=>x
def fq:List AV->List AV
 | []=>[]
 | x::r=>nrm x::fq r
def jb:List (List AV)->List (List AV)
 | []=>[]
 | x::r=>fq x::jb r
end
theorem eh:∀l,fq l=l.map nrm
 | []=>rfl
 | x::r=>by simp[fq,eh r]
theorem dV:∀l,jb l=l.map fq
 | []=>rfl
 | x::r=>by simp[jb,dV r]
theorem RdP.nrm {S:Nat->Prop} {w:World} {v:Value} {x:AV} (h:RdP S w v x):RdP S w v (Eng.nrm x):=by
 have key:∀{l:List AV} {f:Nat->Value},(∀j x,l[j]? = some x->RdP S w (f j) (Eng.nrm x))->∀j x,(fq l)[j]? = some x->RdP S w (f j) x:=fun {l f} h j x hx=>by
  rw[eh,W2] at hx;cases e:l[j]? with
  | none=>rw[e] at hx;cases hx
  | some y=>rw[e] at hx;simp only[Option.map_some,gL] at hx;subst hx;exact h j y e
 induction h with
 | int k n=>exact .int k n
 | bool b=>exact .bool b
 | str s l h=>exact .str s l h
 | nilp=>exact .nilp
 | nili=>exact .nili
 | ifc t p=>exact .ifc t p
 | nils=>exact .sl none 0 0 [] 0 0 0 (λ_ _=>undef) rfl (W7 _) (λrow h=>by simp at h) (λh=>by omega) (λi j h=>by omega) (λi row h=>by simp at h)
 | nilm=>exact .nilm
 | sl A len cap rows size g off vals hl hc hsz hA hcell hr ih=>
  refine .sl A len cap (jb rows) size g off vals (by rw[dV,List.length_map];exact hl) hc (λrow hrow=>?_) hA hcell (λi row hi j x hx=>?_)
  ·rw[dV] at hrow;obtain ⟨r,hr',rfl⟩:=W5.1 hrow;rw[eh,List.length_map];exact hsz r hr'
  ·rw[dV,W2] at hi;cases e:rows[i]? with
   | none=>rw[e] at hi;cases hi
   | some r=>
    rw[e] at hi;simp only[Option.map_some,gL] at hi;subst hi;exact key (f:=vals i) (ih i r e) j x hx
 | rp g o off cells vals hS hcell hr ih=>
  refine .rp g o off (fq cells) vals hS (λj hj=>hcell j (by rw[eh,List.length_map] at hj;exact hj)) (key ih)
 | rm g es clk kvs vals hS hg hm hr ih=>exact .rm g es clk kvs vals hS hg hm hr
 | fn f vals caps hl hr ih=>exact .fn f vals _ QO (key ih)
 | agg cs cells hl hr ih=>exact .agg cs _ QO (key ih)
theorem Rd.nrm {μ:Nat->Option Nat} {S:Nat->Prop} {w:World} {v:Value} {x:AV} (h:Rd μ S w v x):Rd μ S w v (Eng.nrm x):=by
 have key:∀{l:List AV} {f:Nat->Value},(∀j x,l[j]? = some x->Rd μ S w (f j) (Eng.nrm x))->∀j x,(fq l)[j]? = some x->Rd μ S w (f j) x:=fun {l f} h j x hx=>by
  rw[eh,W2] at hx;cases e:l[j]? with
  | none=>rw[e] at hx;cases hx
  | some y=>rw[e] at hx;simp only[Option.map_some,gL] at hx;subst hx;exact h j y e
 induction h with
 | any v=>exact .any v
 | pure h=>exact .pure h.nrm
 | agg cs cells hl hr ih=>exact .agg cs _ QO (key ih)
 | tup vs xs hl hr ih=>exact .tup vs _ QO (key ih)
 | fn f vals caps hl hr ih=>exact .fn f vals _ QO (key ih)
 | ptr id size row off g hg=>exact .ptr id size row off g hg
 | osl id size off len cap A hc h=>exact .osl id size off len cap A hc h
 | mp id g hg=>exact .mp id g hg
 | exs id size off len cap g e n hc hg hr hn=>exact .exs id size off len cap g e n hc hg hr hn
 | cndT v x h ih=>exact .cndT v x h
 | cndF x=>exact .cndF x
theorem aj.nrm {f:FuncId} {args args':List AV} {H:List (Nat×Blk)} {post:AV->List (Nat×Blk)->Prop} (hn:fq args=args') (h:aj P f args' H post):aj P f args H post:=by
 intro R0 μ w0 vs hl hr hH hR;subst hn;refine h R0 μ w0 vs QO (λj x hx=>?_) hH hR;rw[eh,W2] at hx;cases e:args[j]? with
 | none=>rw[e] at hx;cases hx
 | some y=>rw[e] at hx;simp only[Option.map_some,gL] at hx;subst hx;exact (hr j y e).nrm
attribute [go_sem] goR
end
end Go.Eng
namespace Go.Eng
section
variable {P:Program} {T:Tab} {C:Ctx} {σ σ':St} {Ret:St->Prop} {k:List It} {μ:Nat->Option Nat} {S:Nat->Prop} {a:Act} {w:World}
theorem fF (x:AV) {all:Array Oper} {o:Oper} {l:List Oper} (hg:guardOf all σ o.guard=some false) (h:Cw P C Ret (.ops all l::k) (σ.put o.dst (.cnd false x))):Cw P C Ret (.ops all (o::l)::k) σ:=by
 intro a w hr
 show wpList P all _ (o::l) a w
 unfold wpList;obtain ⟨μ,S,hi⟩:=hr;rw[bs hi hg];exact h _ _ ⟨μ,S,hi.put o.dst (.cndF _)⟩
theorem Inv.Mx (hi:Inv C μ S σ a w) {id s e n g d N:Nat} {rows:List (List AV)} (hb:aa σ.hp id=some (.cells e s rows)) (hg:μ id=some g) (hr:ag w g=some (n,N*s)) (hs:s≠0) (hf:aa σ.hp d=none) :
  rows.length<=N/\Inv C μ S ⟨σ.tm,(d,.cap id s N)::aG σ.hp id (.cells e s (rows++List.replicate (N-rows.length) (List.replicate s .any)))⟩ a w:=by
 rcases hi.hp id _ hb with ⟨_,k2⟩ | ⟨g',c,k1,k2,k3,k4,k5⟩
 ·rw[k2] at hg;cases hg
 ·rw[k1] at hg;injection hg with hg;subst hg
  have hcs:c.size=N*s:=by
   have:=hr;rw[ag,k2] at this;simp only[gL,gM] at this;exact this.2
  have hle:rows.length<=N:=Nat.le_of_mul_le_mul_right (by rw[<-hcs];exact k3) (Nat.pos_of_ne_zero hs);have hid:d≠id:=by rintro rfl;rw[hb] at hf;cases hf
  refine ⟨hle,hi.size,hi.defers,hi.tm,λi b hb'=>?_,λi q hq=>?_,hi.inj,hi.frm,hi.sb⟩
  ·simp only[aa] at hb';split at hb'
   ·rename_i hd;injection hb' with hb'
    subst hd hb';exact ⟨hi.fresh hf,g',n,k1,hr⟩
   ·rw[ai] at hb';split at hb'
    ·rename_i hi2;injection hb' with hb'
     subst hi2 hb';refine .inr ⟨g',c,k1,k2,by rw[List.length_append,Yr,hcs];exact Nat.le_of_eq (by congr 1;omega),λrow hrow=>?_,λi row hrow j x hx=>?_⟩
     ·rcases List.mem_append.1 hrow with h | h
      ·exact k4 row h
      ·rw[(Yz.1 h).2];simp
     ·by_cases hil:i<rows.length
      ·rw[YP hil] at hrow;exact k5 i row hrow j x hx
      ·rw[YO z8,Ys] at hrow;split at hrow
       ·injection hrow with hrow
        subst hrow;rw[Ys] at hx;split at hx
        ·injection hx with hx;subst hx;exact .any _
        ·cases hx
       ·cases hrow
    ·exact hi.hp i b hb'
  ·obtain ⟨⟨b,h1⟩,h2⟩:=hi.dom i q hq;refine ⟨?_,h2⟩;simp only[aa];split
   ·exact ⟨_,rfl⟩
   ·rw[ai];split
    ·exact ⟨_,rfl⟩
    ·exact ⟨b,h1⟩
theorem FN (hT:TabOK P T) {all:Array Oper} {o:Oper} {l:List Oper} {x:Operand} {t e:TypeId} {d:Nat} (ho:o.op=.call { callee:=.builtin .cap,args:=#[x],argTypes:=#[t] }) (hd:o.dst=some d) (hg:o.guard=none) (ht:T.und t=.sl e)
  {id s off len e':Nat} {rows:List (List AV)} (hx:evS σ x=(True,.osl id s off len)) (hb:aa σ.hp id=some (.cells e' s rows)) (h0:0<len) (hs:s≠0) (hf:aa σ.hp d=none)
  (h:∀c:Nat,len<=c->rows.length<=off+c->Cw P C Ret (.ops all l::k) (St.put ⟨σ.tm,(d,.cap id s (off+c))::aG σ.hp id (.cells e' s (rows++List.replicate (off+c-rows.length) (List.replicate s .any)))⟩ (some d) (.int .i64 c))) :
  Cw P C Ret (.ops all (o::l)::k) σ:=by
 intro a w ⟨μ,S,hi⟩;have hv:=hi.evS x u7;rw[hx] at hv;obtain ⟨A,cap,hv',hc,hor⟩:=hv.bZ;have hty:P.underlying t=some (.slice e):=by have:=hT.und t;rw[ht] at this;exact this
 rcases hor with ⟨h1,_⟩ | ⟨g,n,m,h1,_,h3,h4⟩
 ·omega
 ·obtain ⟨hle,hi'⟩:=hi.Mx (d:=d) (N:=off+cap) hb h1 (by rw[h3,h4]) hs hf
  show wpList P all _ (o::l) a w
  unfold wpList;rw[bs hi (show guardOf all σ o.guard=some true from by rw[hg];rfl)];refine .inl ?_;unfold Oper.wp;have hrun:(execOp a.eval o).run P w=.ok (.value (.int .i64 cap)) w:=by
   have hv2:a.eval x=.slice A len cap:=hv';simp[execOp,ho,hv2,resolve,invoke,builtin,Builtin.cap_,run_underlying hty,goInt]
  rw[hrun,Oper.upon_value,hd];exact h cap hc hle _ _ ⟨μ,S,hi'.put (some d) (.pure (.int _ _))⟩
theorem pW (hT:TabOK P T) {o:Oper} {x hi:Operand} {t e:TypeId} (ho:o.op=.slice t x none (some hi) none) (ht:T.und t=.sl e) {id s off len h j N:Nat} (hx:evS σ x=(True,.osl id s off len)) (hh:evS σ hi=(True,.int .i64 (h:Nat)))
  (hcap:aa σ.hp j=some (.cap id s N)) (hN:off+h<=N) (h0:0<len) (hs:T.siz e=s) (hs0:s≠0):eP P C o σ (σ.put o.dst (.osl id s off h)):=by
 refine ec λμ S a w hi'=>?_
 have hv:=hi'.evS x u7;have hu:=hi'.evS hi Ws;rw[hx] at hv;rw[hh] at hu;obtain ⟨A,cap,hv',hc,hor⟩:=hv.bZ;have hu':=hu.aL;have hty:P.underlying t=some (.slice e):=by have:=hT.und t;rw[ht] at this;exact this
 rcases hor with ⟨h1,_⟩ | ⟨g,n,m,h1,hA,h3,h4⟩
 ·omega
 ·obtain ⟨_,g',e',k1,k2⟩:=hi'.hp j _ hcap;rw[k1] at h1;injection h1 with h1;subst h1
  rw[h3] at k2;simp only[gL,gM] at k2;have hNc:off+cap=N:=Nat.eq_of_mul_eq_mul_right (Nat.pos_of_ne_zero hs0) (h4.trans k2.2);subst hA;have hrun:(Instr.sliceAt t (.slice (some ⟨g',off*s,none⟩) len cap) none (some (.int .i64 (h:Nat))) none).run P w=.ok (.slice (some ⟨g',off*s,none⟩) h cap) w:=by
   have hb:=fN (P:=P) (w:=w) true len cap 0 h none (some (.int .i64 (h:Nat))) (show gf none 0 0 from rfl) (show gf (some (.int .i64 (h:Nat))) len h from ⟨.i64,rfl⟩) (Yp _) z8
   by_cases hc0:cap=0
   ·subst hc0;simp[Instr.sliceAt,Instr.slice,run_underlying hty,hb,bD hT (t:=e) Qz]
   ·simp[Instr.sliceAt,Instr.slice,run_underlying hty,hb,bD hT (t:=e) Qz,hc0,Addr.add]
  refine ⟨.slice (some ⟨g',off*s,none⟩) h cap,?_,.osl id s off h cap _ z8 (.inr ⟨g',n,m,k1,rfl,h3,h4⟩)⟩;have e1:a.eval x=.slice (some ⟨g',off*s,none⟩) len cap:=hv';have e2:a.eval hi=.int .i64 (h:Nat):=hu';simp only[execOp,ho,e1,Option.map_none,Option.map_some,e2,Sem.run_bind,hrun];rfl
theorem qS (hT:TabOK P T) {t u e ty:TypeId} (ht:P.underlying t=some (.slice e)) (hu:P.underlying u=some (.int .i64)) (hs:T.siz e≠0) (hb:T.byt e≠0) {A:Option Addr} {len cap:Nat} {R:List (List AV)} {olds:List Value}
  (ho:Src μ S w (T.siz e) (.slice A len cap) R olds) (hlen:R.length=len) (n:Nat) (hn:n≠0) (hg:¬len+n<=cap) (hsz:(2*(len+n)+768)*T.byt e<=281474976710656) :
  ∃(nc:Nat) (z zs:Array Value),len+n<=nc/\z.size=(nc-(len+n))*T.siz e/\(∀(μ:Nat->Option Nat) (S:Nat->Prop) (w:World),RdR μ S w (T.siz e) zs (List.replicate n (T.zer e))) /\
   (Builtin.append_ #[t,u] ty #[.slice A len cap,.int .i64 (n:Nat)]).run P w=.ok (.slice (some ⟨w.heap.size,0,none⟩) (len+n) nc) (w.drew.alloc (.cells (olds.toArray++zs++z) e)):=by
 obtain ⟨i,hi,hi1,hi2,z,hz,_,hzs,_⟩:=hT.siz e hs;obtain ⟨z0,r1,r2,r3⟩:=nP hT (e:=e) n hs;have hzz:z0=z:=by
  have:=r1 w;simp[zeroValue,typeInfo,hi,hz] at this;exact this.symm
 subst hzz;have hnx:=oD (len+n) cap z8;have hfit:Builtin.nextslicecap (len+n) cap*i.bytes<=281474976710656:=by
  rw[hi2];exact Yl (YJ _ hnx) hsz
 have hw1:Src μ S w.drew (T.siz e) (.slice A len cap) R olds:=⟨ho.form,ho.len,ho.rlen,λi row hi j x hx=>(ho.rd i row hi j x hx).mono (λ_ _=>rfl) (λ_ h=>h) (λ_ _ h=>h) (λ_ _ _=>rfl)⟩;have g1:=jv (P:=P) hw1;rw[hlen] at g1;have hb':i.bytes≠0:=by rw[hi2];exact hb
 have hnb:n*i.bytes<=281474976710656:=by
  rw[hi2];exact Yl (YJ _ z8) hsz
 have hbl:n<=281474976710656:=Yl (Nat.le_mul_of_pos_right n (Nat.pos_of_ne_zero hb')) hnb;have hneed:len+n<=281474976710656:=by
  have h1:(len+n)*T.byt e<=281474976710656:=Yl (YJ _ z8) hsz;exact Yl (Nat.le_mul_of_pos_right _ (Nat.pos_of_ne_zero hb)) h1
 have hwrap:IntKind.i64.wrap (n:Int)=n:=wrap_small z8 z8;have hnn:¬((n:Int)<0):=by omega
 have hm1:¬281474976710656<(n:Int)*(i.bytes:Int):=by
  have h0:((n*i.bytes:Nat):Int)<=((281474976710656:Nat):Int):=Int.ofNat_le.2 hnb;rw[Int.natCast_mul] at h0;omega
 have hm2:¬9223372036854775807<(len:Int)+(n:Int):=by omega
 have hns:n*T.siz e≠0:=Nat.mul_ne_zero hn hs;refine ⟨grownCap w (len+n) cap e,Builtin.zeroCells z0.cells (grownCap w (len+n) cap e-(len+n)),Builtin.zeroCells z0.cells n,grownCap_ge w _ _ _,by simp[Builtin.zeroCells,hzs],λμ S w=>?_,?_⟩
 ·have:=r3 μ S w;simp only[r2] at this;rw[Builtin.zeroCells,r2];exact this
 ·simp[Builtin.append_,run_underlying ht,run_underlying hu,sizeOf,typeInfo,hi,hi1,hwrap,hnn,hm1,hm2,hg,hb',hns,show ¬281474976710656<Builtin.nextslicecap (len+n) cap*i.bytes by omega,g1,Question.forced,zeroValue,hz,lW,grownCap,asInt,asIntOf]
theorem uT (hT:TabOK P T) {o:Oper} {x y:Operand} {t u e:TypeId} (ho:o.op=.call { callee:=.builtin .append,args:=#[x,y],argTypes:=#[t,u] }) (ht:T.und t=.sl e) (hu:P.underlying u=some (.int .i64))
  {id s len n j N d e':Nat} {R:List (List AV)} (hx:evS σ x=(True,.osl id s 0 len)) (hy:evS σ y=(True,.int .i64 (n:Nat))) (hcap:aa σ.hp j=some (.cap id s N)) (hN:N<len+n) (hn:n≠0)
  (hb0:aa σ.hp id=some (.cells e' s R)) (hR:len<=R.length) (hs:T.siz e=s) (hs0:s≠0) (hb:T.byt e≠0) (hsz:(2*(len+n)+768)*T.byt e<=281474976710656) (hd:aa σ.hp d=none) :
  eP P C o σ (St.put ⟨σ.tm,(d,.cells e s (R.take len++List.replicate n (T.zer e)))::σ.hp⟩ o.dst (.osl d s 0 (len+n))):=by
 subst hs;intro a w K Q ⟨μ,S,hi⟩ hK;have hv:=hi.evS x u7;have hvy:=hi.evS y Qk;rw[hx] at hv;rw[hy] at hvy;have hvy':=hvy.aL;have hRl:rowsOf (T.siz e) (R.take len):=by
  rcases hi.hp id _ hb0 with ⟨rfl,_⟩ | ⟨g,c,_,_,_,k4,_⟩
  ·intro row hrow;simp at hrow
  ·exact λrow hrow=>k4 row (YF hrow)
 have hRt:(R.take len).length=len:=by simp;omega
 obtain ⟨olds,hol⟩:=ma hi (x:=.osl id (T.siz e) 0 len) (rows:=R.take len) (size:=T.siz e) (by simp[cW,hb0]) hv hRl (λ_ _ _ _ h=>by injection h with _ _ _ h;rw[hRt,h]);obtain ⟨A,cap,hv',hc,hor⟩:=hv.bZ;have hty:P.underlying t=some (.slice e):=by have:=hT.und t;rw[ht] at this;exact this
 have hcN:cap<=N:=by
  rcases hor with ⟨h1,h2⟩ | ⟨g,n',m,h1,_,h3,h4⟩
  ·omega
  ·obtain ⟨_,g',e2,k1,k2⟩:=hi.hp j _ hcap;rw[k1] at h1;injection h1 with h1;subst h1
   rw[h3] at k2;simp only[gL,gM] at k2;have:=Nat.eq_of_mul_eq_mul_right (Nat.pos_of_ne_zero hs0) (h4.trans k2.2);omega
 rw[hv'] at hol;obtain ⟨nc,z,zs,h1,h2,h3,h4⟩:=qS (ty:=o.type) hT hty hu hs0 hb hol hRt n hn z8 hsz;have hfr:(execOp a.eval o).run P w=.ok (.value (.slice (some ⟨w.heap.size,0,none⟩) (len+n) nc)) (w.drew.alloc (.cells (olds.toArray++zs++z) e)):=by
  have e1:a.eval x=.slice A len cap:=hv';have e2:a.eval y=.int .i64 (n:Nat):=hvy';simp[execOp,ho,e1,e2,resolve,invoke,builtin,h4,-Array.append_assoc]
 have hi1:=hi.drew;have hnod:μ d=none:=hi.fresh hd;have hm:∀{v x},Rd μ S w v x->Rd (upd μ d (some w.heap.size)) S (World.alloc w.drew (.cells (olds.toArray++zs++z) e)) v x:=λh=>
  (h.mono (w':=w.drew) (λ_ _=>rfl) (λ_ h=>h) (λ_ _ h=>h) (λ_ _ _=>rfl)).mono (λb hb=>bb _ _ b (hi1.sb b hb).1) (λ_ h=>h) (λi' g hg=>by
   unfold upd;rw[if_neg Qr];exact hg) (λi' g hg=>aN (bb _ _ g (hi1.dom i' g hg).2.2.2))
 have hzl:rowsOf (T.siz e) (List.replicate n (T.zer e)):=λrow hrow=>(h3 μ S w).len row hrow
 have hzr:=h3 (upd μ d (some w.heap.size)) S (World.alloc w.drew (.cells (olds.toArray++zs++z) e));have hzn:zs.size=n*T.siz e:=by have:=hzr.size;rwa [Yr] at this
 have aa:∀k,k<olds.length+zs.toList.length->(olds.toArray++zs++z).getD k undef=(olds++zs.toList).getD k undef:=λk hk=>by
  rw[Array.getD_eq_getD_getElem?,List.getD_eq_getElem?_getD,Yh Z4];rw[<-Array.getElem?_toList];simp
 have key:=jo (μ:=upd μ d (some w.heap.size)) (S:=S) (w:=World.alloc w.drew (.cells (olds.toArray++zs++z) e)) (R:=R.take len) (rows:=List.replicate n (T.zer e)) (cs:=olds.toArray++zs++z) (s:=T.siz e) (olds:=olds) (vs:=zs.toList)
  hol.len hRl hzl (λi row hi' j x hx=>hm (hol.rd i row hi' j x hx)) (λi row hi' j x hx=>by
   have:=hzr.rd i row hi' j x hx
   rwa [Array.getD_eq_getD_getElem?,<-Array.getElem?_toList,<-List.getD_eq_getElem?_getD] at this) (by simpa using hzr.size) aa
 have hsize:(olds.toArray++zs++z).size=nc*T.siz e:=by
  simp only[Array.size_append,List.size_toArray,hol.len,hRt,hzn,h2,<-Nat.add_mul]
  congr 1;omega
 unfold Oper.wp;rw[hfr]
 show K (a.put o.dst _) _
 refine hK _ _ ⟨_,S,Inv.put (hi1.new d hd _ (.cells e (T.siz e) (R.take len++List.replicate n (T.zer e))) (.inr ⟨w.heap.size,_,by simp[upd],bh w _,?_,λrow hrow=>?_,key⟩)) o.dst (.osl d _ 0 _ nc _ h1 (.inr ⟨w.heap.size,e,nc*T.siz e,by simp[upd],by simp,?_,by simp⟩))⟩
 ·rw[List.length_append,hRt,Yr,hsize];exact YJ _ h1
 ·rcases List.mem_append.1 hrow with h | h
  ·exact hRl row h
  ·exact hzl row h
 ·unfold ag;rw[bh]
  show some (e,_)=some (e,_)
  rw[hsize]
theorem uP (hT:TabOK P T) {o:Oper} {c x y:Operand} {ats:Array TypeId} (ho:o.op=.call { callee:=.value c,args:=#[x,y],argTypes:=ats }) {f:FuncId} {fn:Func} {tS tR e:TypeId} (hc:evS σ c=(True,.fn f []))
  (hf:P.funcs[f]? = some fn) (hname:(fn.name == "runtime.NumGoroutine")=false) (hbody:fn.body.isNone=true) (hnx:Extern.findNext fn=none) (hfind:Extern.find fn=some (Extern.SlicesOverlaps.overlaps #[tS,tS] #[tR])) (ht:T.und tS=.sl e) (hs:T.siz e≠0)
  {i1 i2 s1 s2 o1 o2 l1 l2 e1 e2 z1 z2:Nat} {R1 R2:List (List AV)} (hx:evS σ x=(True,.osl i1 s1 o1 l1)) (hy:evS σ y=(True,.osl i2 s2 o2 l2)) (hne:i1≠i2) (hl1:0<l1) (hl2:0<l2) (hz2:s2≠0)
  (hb1:aa σ.hp i1=some (.cells e1 z1 R1)) (_hb2:aa σ.hp i2=some (.cells e2 z2 R2)):eP P C o σ (σ.put o.dst (.bool false)):=by
 refine ec λμ S a w hi=>?_
 have hv:=hi.evS x u7;have hu:=hi.evS y Qk;have hg:=hi.evS c (by rw[hc];trivial);rw[hx] at hv;rw[hy] at hu;rw[hc] at hg;obtain ⟨A,ca,ha,hca,hor⟩:=hv.bZ;obtain ⟨B,cb,hb,hcb,hor2⟩:=hu.bZ;obtain ⟨vals,he,hl,_⟩:=hg.BE;have hv0:vals=#[]:=Array.eq_empty_of_size_eq_zero QN;subst hv0;have hty:P.underlying tS=some (.slice e):=by have:=hT.und tS;rw[ht] at this;exact this
 rcases hor with ⟨h,_⟩ | ⟨g1,n1,m1,k1,rfl,k3,k4⟩
 ·omega
 rcases hor2 with ⟨h,_⟩ | ⟨g2,n2,m2,q1,rfl,q3,q4⟩
 ·omega
 have hgne:g1≠g2:=λh=>hne (hi.inj i1 i2 g1 k1 (h▸q1))
 have hfro:∀off,w.frozen? { block:=g1,off }=false:=λoff=>by
  rcases hi.hp i1 _ hb1 with ⟨_,h⟩ | ⟨g',c',h1,h2,_⟩
  ·rw[k1] at h;cases h
  ·rw[k1] at h1;injection h1 with h1;subst h1
   simp[World.frozen?,h2]
 have hsh:∀{g n m},ag w g=some (n,m)->w.shape? g=some (n,m):=fun {g n m} h=>by
  unfold ag at h;unfold World.shape?;split at h
  ·rename_i h';rw[h'];exact h
  ·cases h
 have hm2:m2≠0:=by
  rw[<-q4];exact Nat.mul_ne_zero z8 hz2
 have hrun:=Lib.run_overlaps_apart (P:=P) w tS tR e hty (T.siz e) (λw=>bD hT hs) ⟨g1,o1*s1,none⟩ ⟨g2,o2*s2,none⟩ l1 ca l2 cb hgne n1 n2 m1 m2 (hsh k3) (hsh q3) hm2 (hfro _) (hfro _);have hcall:=run_callFunc_extern hf hname hbody hnx hfind #[a.eval x,a.eval y] w;rw[ha,hb,hrun] at hcall;refine ⟨.bool false,?_,.pure (.bool _)⟩;simp[execOp,ho,resolve,he,Deferred.ofValue,invoke,ha,hb,hcall]
theorem qG (n:Nat) {id e s:Nat} {rows:List (List AV)} (hb:aa σ.hp id=some (.cells e s rows)):Le C σ ⟨σ.tm,aG σ.hp id (.cells e s (rows.take n))⟩:=by
 rintro a w ⟨μ,S,hi⟩;refine ⟨μ,S,hi.size,hi.defers,hi.tm,λi b hb'=>?_,λi q hq=>?_,hi.inj,hi.frm,hi.sb⟩
 ·simp only[ai] at hb';split at hb'
  ·rename_i h1;injection hb' with hb'
   subst h1 hb'
   rcases hi.hp id _ hb with ⟨rfl,k2⟩ | ⟨g,c,k1,k2,k3,k4,k5⟩
   ·exact .inl ⟨by simp,k2⟩
   ·refine .inr ⟨g,c,k1,k2,Yl (YJ _ QI) k3,λrow hr=>k4 row (YF hr),λi row hr j x hx=>?_⟩;rw[YU] at hr;split at hr
    ·exact k5 i row hr j x hx
    ·cases hr
  ·exact hi.hp i b hb'
 ·obtain ⟨⟨b,h1⟩,h2⟩:=hi.dom i q hq;refine ⟨?_,h2⟩;simp only[ai];split
  ·exact ⟨_,rfl⟩
  ·exact ⟨b,h1⟩
def Aj:AV->AV
 | .nils=>.sl []
 | x=>x
theorem Rd.Aj {v:Value} {x:AV} (h:Rd μ S w v x):Rd μ S w v (Aj x):=by
 cases x<;>try exact h
 exact h.nrm
theorem aj.K8 {f:FuncId} {args:List AV} {H:List (Nat×Blk)} {s e n:Nat} {rows rows':List (List AV)} (k:Nat) (h:aj P f args H λr H'=>∃j,r=.osl j s 0 n/\aa H' j=some (.cells e s rows))
  (hr:rows.map (λrow=>row.map Aj)=rows') (hp:∀row,row∈rows->∀x,x∈row->refs x=[]):aj P f args H λr H'=>r=.osl k s 0 n/\∀i b,aa [(k,.cells e s rows')] i=some b->aa H' i=some b:=by
 subst hr;intro R0 μ w0 vs hl ha hH hR;refine (h R0 μ w0 vs hl ha hH hR).mono ?_;rintro e' w' ⟨v,r,H',μ',S',rfl,⟨j,rfl,hb⟩,h4,h5,h6,h7,h8⟩
 let ν:Nat->Option Nat:=λi=>if i=k then μ' j else none
 have hν:∀{i g},ν i=some g->i=k/\μ' j=some g:=fun {i g} h=>by
  simp only[ν] at h;split at h
  ·exact ⟨by assumption,h⟩
  ·cases h
 have hνk:ν k=μ' j:=by simp[ν]
 refine ⟨v,_,[(k,.cells e s (rows.map (λrow=>row.map Aj)))],ν,S',rfl,⟨rfl,λi b h=>h⟩,?_,⟨λi b h=>?_,λi g h=>?_,λi i' g h h'=>by rw[(hν h).1,(hν h').1],h5.glob.sub λi g h=>⟨j,(hν h).2⟩⟩,h6,λi g h=>h7 j g (hν h).2,h8⟩
 ·obtain ⟨A,cap,rfl,hc,hor⟩:=h4.bZ;refine .osl k s 0 n cap A hc ?_
  rcases hor with h | ⟨g,e2,m,k1,k2,k3,k4⟩
  ·exact .inl h
  ·exact .inr ⟨g,e2,m,hνk.trans k1,k2,k3,k4⟩
 ·simp only[aa] at h;split at h
  ·rename_i hk;injection h with h
   subst hk h
   rcases h5.blk j _ hb with ⟨k1,k2⟩ | ⟨g,c,k1,k2,k3,k4,k5⟩
   ·exact .inl ⟨by rw[k1];rfl,hνk.trans k2⟩
   ·refine .inr ⟨g,c,hνk.trans k1,k2,by rw[List.length_map];exact k3,λrow hrow=>?_,λi row hi q x hx=>?_⟩
    ·obtain ⟨r0,h0,rfl⟩:=W5.1 hrow;rw[List.length_map];exact k4 r0 h0
    ·rw[W2] at hi;cases e0:rows[i]? with
     | none=>rw[e0] at hi;cases hi
     | some r0=>
      rw[e0] at hi;simp only[Option.map_some,gL] at hi;subst hi;rw[W2] at hx;cases e1:r0[q]? with
      | none=>rw[e1] at hx;cases hx
      | some y=>
       rw[e1] at hx;simp only[Option.map_some,gL] at hx;subst hx;exact ((k5 i r0 e0 q y e1).free (hp r0 (W3 e0) y (W3 e1))).Aj
  ·cases h
 ·obtain ⟨h1,h2⟩:=hν h;subst h1;exact ⟨⟨.cells e s (rows.map (λrow=>row.map Aj)),by simp[aa]⟩,(h5.dom j g h2).2⟩
end
end Go.Eng
namespace Go.Eng
open Go.Proofs.Tryz
def JV:TypeId->KD
 | 2=>(.int .i64)
 | 3=>(.int .i64)
 | 4=>.bool
 | 5=>(.int .u8)
 | 6=>(.int .u8)
 | 7=>.struct
 | 8=>.struct
 | 9=>.str
 | 10=>.str
 | 11=>.str
 | 12=>(.int .u64)
 | 13=>.struct
 | 14=>.struct
 | 15=>(.ptr 309)
 | 16=>(.ptr 312)
 | 17=>(.ptr 321)
 | 18=>.struct
 | 19=>.struct
 | 21=>(.int .i32)
 | 24=>(.sl 5)
 | 25=>.struct
 | 26=>.struct
 | 28=>(.sl 26)
 | 29=>(.sl 94)
 | 30=>(.sl 79)
 | 31=>.struct
 | 32=>.struct
 | 33=>(.sl 47)
 | 34=>.struct
 | 35=>.struct
 | 36=>(.sl 42)
 | 37=>(.int .i64)
 | 40=>(.sl 3)
 | 41=>.struct
 | 42=>.struct
 | 43=>(.sl 138)
 | 44=>(.sl 51)
 | 45=>(.sl 118)
 | 46=>.struct
 | 47=>.struct
 | 48=>.struct
 | 49=>.struct
 | 50=>.struct
 | 51=>.struct
 | 65=>(.map 3 94)
 | 66=>(.map 3 94)
 | 70=>(.sl 76)
 | 74=>(.map 3 3)
 | 75=>.struct
 | 76=>.struct
 | 78=>.struct
 | 79=>.struct
 | 92=>(.sl 96)
 | 93=>.struct
 | 94=>.struct
 | 95=>.struct
 | 96=>.struct
 | 97=>(.ptr 47)
 | 100=>(.ptr 103)
 | 101=>(.sl 40)
 | 102=>.struct
 | 103=>.struct
 | 104=>(.sl 162)
 | 117=>.struct
 | 118=>.struct
 | 119=>(.ptr 121)
 | 120=>.struct
 | 121=>.struct
 | 122=>(.sl 9)
 | 137=>.struct
 | 138=>.struct
 | 144=>(.ptr 146)
 | 145=>.struct
 | 146=>.struct
 | 148=>(.ptr 26)
 | 157=>(.sl 49)
 | 161=>.struct
 | 162=>.struct
 | 163=>(.map 3 4)
 | 183=>(.ptr 94)
 | 187=>(.ptr 49)
 | 198=>(.ptr 200)
 | 199=>.struct
 | 200=>.struct
 | 203=>(.ptr 51)
 | 214=>.struct
 | 215=>.struct
 | 226=>(.ptr 228)
 | 227=>.struct
 | 228=>.struct
 | 244=>(.int .u64)
 | 263=>(.int .i64)
 | 270=>(.int .u32)
 | 272=>(.int .u64)
 | 286=>(.int .u64)
 | 290=>(.ptr 3)
 | 296=>(.ptr 286)
 | 300=>.struct
 | 301=>.struct
 | 308=>.struct
 | 309=>.struct
 | 314=>(.int .u8)
 | 315=>(.int .u8)
 | 317=>(.ptr 5)
 | 318=>(.int .i32)
 | 319=>(.int .i32)
 | _=>.other
def Cs:TypeId->Nat
 | 2=>1
 | 3=>1
 | 4=>1
 | 5=>1
 | 6=>1
 | 7=>4
 | 8=>4
 | 9=>1
 | 10=>1
 | 11=>1
 | 12=>1
 | 13=>2
 | 14=>2
 | 15=>1
 | 16=>1
 | 17=>1
 | 18=>1
 | 19=>1
 | 21=>1
 | 24=>1
 | 25=>6
 | 26=>6
 | 28=>1
 | 29=>1
 | 30=>1
 | 31=>3
 | 32=>3
 | 33=>1
 | 34=>4
 | 35=>4
 | 36=>1
 | 37=>1
 | 40=>1
 | 41=>4
 | 42=>4
 | 43=>1
 | 44=>1
 | 45=>1
 | 46=>10
 | 47=>10
 | 48=>7
 | 49=>7
 | 50=>9
 | 51=>9
 | 65=>1
 | 66=>1
 | 70=>1
 | 74=>1
 | 75=>4
 | 76=>4
 | 78=>8
 | 79=>8
 | 92=>1
 | 93=>5
 | 94=>5
 | 95=>2
 | 96=>2
 | 97=>1
 | 100=>1
 | 101=>1
 | 102=>2
 | 103=>2
 | 104=>1
 | 117=>2
 | 118=>2
 | 119=>1
 | 120=>13
 | 121=>13
 | 122=>1
 | 137=>8
 | 138=>8
 | 144=>1
 | 145=>13
 | 146=>13
 | 148=>1
 | 157=>1
 | 161=>2
 | 162=>2
 | 163=>1
 | 183=>1
 | 187=>1
 | 198=>1
 | 199=>6
 | 200=>6
 | 203=>1
 | 214=>4
 | 215=>4
 | 226=>1
 | 227=>9
 | 228=>9
 | 244=>1
 | 263=>1
 | 270=>1
 | 272=>1
 | 286=>1
 | 290=>1
 | 296=>1
 | 300=>2
 | 301=>2
 | 308=>4
 | 309=>4
 | 314=>1
 | 315=>1
 | 317=>1
 | 318=>1
 | 319=>1
 | _=>0
def Mu:TypeId->Nat
 | 2=>8
 | 3=>8
 | 4=>1
 | 5=>1
 | 6=>1
 | 7=>24
 | 8=>24
 | 9=>16
 | 10=>16
 | 11=>16
 | 12=>8
 | 13=>24
 | 14=>24
 | 15=>8
 | 16=>8
 | 17=>8
 | 18=>8
 | 19=>8
 | 21=>4
 | 24=>24
 | 25=>80
 | 26=>80
 | 28=>24
 | 29=>24
 | 30=>24
 | 31=>56
 | 32=>56
 | 33=>24
 | 34=>80
 | 35=>80
 | 36=>24
 | 37=>8
 | 40=>24
 | 41=>48
 | 42=>48
 | 43=>24
 | 44=>24
 | 45=>24
 | 46=>144
 | 47=>144
 | 48=>88
 | 49=>88
 | 50=>104
 | 51=>104
 | 65=>8
 | 66=>8
 | 70=>24
 | 74=>8
 | 75=>32
 | 76=>32
 | 78=>96
 | 79=>96
 | 92=>24
 | 93=>72
 | 94=>72
 | 95=>24
 | 96=>24
 | 97=>8
 | 100=>8
 | 101=>24
 | 102=>48
 | 103=>48
 | 104=>24
 | 117=>24
 | 118=>24
 | 119=>8
 | 120=>200
 | 121=>200
 | 122=>24
 | 137=>96
 | 138=>96
 | 144=>8
 | 145=>200
 | 146=>200
 | 148=>8
 | 157=>24
 | 161=>16
 | 162=>16
 | 163=>8
 | 183=>8
 | 187=>8
 | 198=>8
 | 199=>64
 | 200=>64
 | 203=>8
 | 214=>64
 | 215=>64
 | 226=>8
 | 227=>120
 | 228=>120
 | 244=>8
 | 263=>8
 | 270=>4
 | 272=>8
 | 286=>8
 | 290=>8
 | 296=>8
 | 300=>2
 | 301=>2
 | 308=>40
 | 309=>40
 | 314=>1
 | 315=>1
 | 317=>8
 | 318=>4
 | 319=>4
 | _=>0
def Mw:TypeId->List AV
 | 2=>[.int .i64 0]
 | 3=>[.int .i64 0]
 | 4=>[.bool false]
 | 5=>[.int .u8 0]
 | 6=>[.int .u8 0]
 | 7=>[.int .i64 0,.int .i64 0,.bool false,.int .u8 0]
 | 8=>[.int .i64 0,.int .i64 0,.bool false,.int .u8 0]
 | 9=>[.str []]
 | 10=>[.str []]
 | 11=>[.str []]
 | 12=>[.int .u64 0]
 | 13=>[.str [],.int .u64 0]
 | 14=>[.str [],.int .u64 0]
 | 15=>[.nilp]
 | 16=>[.nilp]
 | 17=>[.nilp]
 | 18=>[.nilp]
 | 19=>[.nilp]
 | 21=>[.int .i32 0]
 | 24=>[.nils]
 | 25=>[.int .i64 0,.int .i64 0,.int .i64 0,.str [],.str [],.nils]
 | 26=>[.int .i64 0,.int .i64 0,.int .i64 0,.str [],.str [],.nils]
 | 28=>[.nils]
 | 29=>[.nils]
 | 30=>[.nils]
 | 31=>[.nils,.int .i64 0,.nils]
 | 32=>[.nils,.int .i64 0,.nils]
 | 33=>[.nils]
 | 34=>[.nils,.int .i64 0,.nils,.nils]
 | 35=>[.nils,.int .i64 0,.nils,.nils]
 | 36=>[.nils]
 | 37=>[.int .i64 0]
 | 40=>[.nils]
 | 41=>[.int .i64 0,.int .i64 0,.int .i64 0,.nils]
 | 42=>[.int .i64 0,.int .i64 0,.int .i64 0,.nils]
 | 43=>[.nils]
 | 44=>[.nils]
 | 45=>[.nils]
 | 46=>[.int .i64 0,.bool false,.int .i64 0,.nils,.nils,.nils,.nils,.int .i64 0,.int .i64 0,.int .i64 0]
 | 47=>[.int .i64 0,.bool false,.int .i64 0,.nils,.nils,.nils,.nils,.int .i64 0,.int .i64 0,.int .i64 0]
 | 48=>[.int .i64 0,.int .i64 0,.int .i64 0,.str [],.int .i64 0,.str [],.nils]
 | 49=>[.int .i64 0,.int .i64 0,.int .i64 0,.str [],.int .i64 0,.str [],.nils]
 | 50=>[.int .i64 0,.int .i64 0,.int .i64 0,.str [],.int .i64 0,.str [],.nils,.int .i64 0,.int .i64 0]
 | 51=>[.int .i64 0,.int .i64 0,.int .i64 0,.str [],.int .i64 0,.str [],.nils,.int .i64 0,.int .i64 0]
 | 65=>[.nilm]
 | 66=>[.nilm]
 | 70=>[.nils]
 | 74=>[.nilm]
 | 75=>[.int .i64 0,.int .i64 0,.int .i64 0,.int .i64 0]
 | 76=>[.int .i64 0,.int .i64 0,.int .i64 0,.int .i64 0]
 | 78=>[.int .i64 0,.int .i64 0,.int .i64 0,.int .i64 0,.str [],.int .i64 0,.str [],.nils]
 | 79=>[.int .i64 0,.int .i64 0,.int .i64 0,.int .i64 0,.str [],.int .i64 0,.str [],.nils]
 | 92=>[.nils]
 | 93=>[.int .i64 0,.bool false,.nils,.nils,.int .i64 0]
 | 94=>[.int .i64 0,.bool false,.nils,.nils,.int .i64 0]
 | 95=>[.str [],.int .i64 0]
 | 96=>[.str [],.int .i64 0]
 | 97=>[.nilp]
 | 100=>[.nilp]
 | 101=>[.nils]
 | 102=>[.nils,.nils]
 | 103=>[.nils,.nils]
 | 104=>[.nils]
 | 117=>[.str [],.int .i64 0]
 | 118=>[.str [],.int .i64 0]
 | 119=>[.nilp]
 | 120=>[.int .i64 0,.bool false,.int .i64 0,.nils,.nils,.nils,.nils,.int .i64 0,.int .i64 0,.int .i64 0,.nils,.int .i64 0,.nils]
 | 121=>[.int .i64 0,.bool false,.int .i64 0,.nils,.nils,.nils,.nils,.int .i64 0,.int .i64 0,.int .i64 0,.nils,.int .i64 0,.nils]
 | 122=>[.nils]
 | 137=>[.int .i64 0,.bool false,.nils,.nils,.int .i64 0,.bool false,.int .i64 0,.int .i64 0]
 | 138=>[.int .i64 0,.bool false,.nils,.nils,.int .i64 0,.bool false,.int .i64 0,.int .i64 0]
 | 144=>[.nilp]
 | 145=>[.int .i64 0,.bool false,.int .i64 0,.nils,.nils,.nils,.nils,.int .i64 0,.int .i64 0,.int .i64 0,.nils,.int .i64 0,.nils]
 | 146=>[.int .i64 0,.bool false,.int .i64 0,.nils,.nils,.nils,.nils,.int .i64 0,.int .i64 0,.int .i64 0,.nils,.int .i64 0,.nils]
 | 148=>[.nilp]
 | 157=>[.nils]
 | 161=>[.int .i64 0,.int .i64 0]
 | 162=>[.int .i64 0,.int .i64 0]
 | 163=>[.nilm]
 | 183=>[.nilp]
 | 187=>[.nilp]
 | 198=>[.nilp]
 | 199=>[.nils,.int .i64 0,.int .i64 0,.nilm,.nilm,.nilm]
 | 200=>[.nils,.int .i64 0,.int .i64 0,.nilm,.nilm,.nilm]
 | 203=>[.nilp]
 | 214=>[.nils,.nils,.nilm,.int .i64 0]
 | 215=>[.nils,.nils,.nilm,.int .i64 0]
 | 226=>[.nilp]
 | 227=>[.nils,.int .i64 0,.int .i64 0,.int .i64 0,.str [],.int .i64 0,.str [],.nils,.int .i64 0]
 | 228=>[.nils,.int .i64 0,.int .i64 0,.int .i64 0,.str [],.int .i64 0,.str [],.nils,.int .i64 0]
 | 244=>[.int .u64 0]
 | 263=>[.int .i64 0]
 | 270=>[.int .u32 0]
 | 272=>[.int .u64 0]
 | 286=>[.int .u64 0]
 | 290=>[.nilp]
 | 296=>[.nilp]
 | 300=>[.int .u8 0,.int .u8 0]
 | 301=>[.int .u8 0,.int .u8 0]
 | 308=>[.nilp,.nilp,.nilp,.str []]
 | 309=>[.nilp,.nilp,.nilp,.str []]
 | 314=>[.int .u8 0]
 | 315=>[.int .u8 0]
 | 317=>[.nilp]
 | 318=>[.int .i32 0]
 | 319=>[.int .i32 0]
 | _=>[]
def tFl:TypeId->List (TypeId×Nat)
 | 7=>[(2,0),(3,1),(4,2),(6,3)]
 | 8=>[(2,0),(3,1),(4,2),(6,3)]
 | 13=>[(9,0),(12,1)]
 | 14=>[(9,0),(12,1)]
 | 18=>[(17,0)]
 | 19=>[(17,0)]
 | 25=>[(3,0),(3,1),(3,2),(9,3),(9,4),(24,5)]
 | 26=>[(3,0),(3,1),(3,2),(9,3),(9,4),(24,5)]
 | 31=>[(29,0),(3,1),(30,2)]
 | 32=>[(29,0),(3,1),(30,2)]
 | 34=>[(32,0),(33,3)]
 | 35=>[(32,0),(33,3)]
 | 41=>[(37,0),(3,1),(3,2),(24,3)]
 | 42=>[(37,0),(3,1),(3,2),(24,3)]
 | 46=>[(3,0),(4,1),(3,2),(43,3),(44,4),(44,5),(45,6),(3,7),(3,8),(3,9)]
 | 47=>[(3,0),(4,1),(3,2),(43,3),(44,4),(44,5),(45,6),(3,7),(3,8),(3,9)]
 | 48=>[(3,0),(3,1),(3,2),(9,3),(3,4),(9,5),(24,6)]
 | 49=>[(3,0),(3,1),(3,2),(9,3),(3,4),(9,5),(24,6)]
 | 50=>[(49,0),(3,7),(3,8)]
 | 51=>[(49,0),(3,7),(3,8)]
 | 75=>[(3,0),(3,1),(3,2),(3,3)]
 | 76=>[(3,0),(3,1),(3,2),(3,3)]
 | 78=>[(3,0),(49,1)]
 | 79=>[(3,0),(49,1)]
 | 93=>[(3,0),(4,1),(24,2),(92,3),(3,4)]
 | 94=>[(3,0),(4,1),(24,2),(92,3),(3,4)]
 | 95=>[(9,0),(3,1)]
 | 96=>[(9,0),(3,1)]
 | 102=>[(70,0),(101,1)]
 | 103=>[(70,0),(101,1)]
 | 117=>[(9,0),(3,1)]
 | 118=>[(9,0),(3,1)]
 | 120=>[(47,0),(32,10)]
 | 121=>[(47,0),(32,10)]
 | 137=>[(94,0),(4,5),(3,6),(3,7)]
 | 138=>[(94,0),(4,5),(3,6),(3,7)]
 | 145=>[(47,0),(32,10)]
 | 146=>[(47,0),(32,10)]
 | 161=>[(37,0),(3,1)]
 | 162=>[(37,0),(3,1)]
 | 199=>[(29,0),(3,1),(3,2),(74,3),(163,4),(163,5)]
 | 200=>[(29,0),(3,1),(3,2),(74,3),(163,4),(163,5)]
 | 214=>[(104,0),(157,1),(66,2),(3,3)]
 | 215=>[(104,0),(157,1),(66,2),(3,3)]
 | 227=>[(29,0),(49,1),(3,8)]
 | 228=>[(29,0),(49,1),(3,8)]
 | 300=>[(5,0),(5,1)]
 | 301=>[(5,0),(5,1)]
 | 308=>[(17,0),(17,1),(17,2),(9,3)]
 | 309=>[(17,0),(17,1),(17,2),(9,3)]
 | _=>[]
def Me (t:TypeId) (j:Nat):Option (TypeId×Nat):=(tFl t)[j]?
def tab:Tab:=⟨JV,Cs,Mu,Mw,Me⟩
@[go_sem] theorem tu2:tab.und 2=(.int .i64):=rfl
@[go_sem] theorem ts2:tab.siz 2=1:=rfl
@[go_sem] theorem tz2:tab.zer 2=[.int .i64 0]:=rfl
@[go_sem] theorem tu3:tab.und 3=(.int .i64):=rfl
@[go_sem] theorem ts3:tab.siz 3=1:=rfl
@[go_sem] theorem tb3:tab.byt 3=8:=rfl
@[go_sem] theorem tz3:tab.zer 3=[.int .i64 0]:=rfl
@[go_sem] theorem tu4:tab.und 4=.bool:=rfl
@[go_sem] theorem ts4:tab.siz 4=1:=rfl
@[go_sem] theorem tz4:tab.zer 4=[.bool false]:=rfl
@[go_sem] theorem tu5:tab.und 5=(.int .u8):=rfl
@[go_sem] theorem ts5:tab.siz 5=1:=rfl
@[go_sem] theorem tb5:tab.byt 5=1:=rfl
@[go_sem] theorem tz5:tab.zer 5=[.int .u8 0]:=rfl
@[go_sem] theorem tu6:tab.und 6=(.int .u8):=rfl
@[go_sem] theorem ts6:tab.siz 6=1:=rfl
@[go_sem] theorem tz6:tab.zer 6=[.int .u8 0]:=rfl
@[go_sem] theorem tu7:tab.und 7=.struct:=rfl
@[go_sem] theorem ts7:tab.siz 7=4:=rfl
@[go_sem] theorem tz7:tab.zer 7=[.int .i64 0,.int .i64 0,.bool false,.int .u8 0]:=rfl
@[go_sem] theorem K_:tab.fld 7 0=some (2,0):=rfl
@[go_sem] theorem K':tab.fld 7 1=some (3,1):=rfl
@[go_sem] theorem Lb:tab.fld 7 2=some (4,2):=rfl
@[go_sem] theorem Lc:tab.fld 7 3=some (6,3):=rfl
@[go_sem] theorem tu8:tab.und 8=.struct:=rfl
@[go_sem] theorem ts8:tab.siz 8=4:=rfl
@[go_sem] theorem tz8:tab.zer 8=[.int .i64 0,.int .i64 0,.bool false,.int .u8 0]:=rfl
@[go_sem] theorem Ld:tab.fld 8 0=some (2,0):=rfl
@[go_sem] theorem Lf:tab.fld 8 1=some (3,1):=rfl
@[go_sem] theorem Lg:tab.fld 8 2=some (4,2):=rfl
@[go_sem] theorem Lh:tab.fld 8 3=some (6,3):=rfl
@[go_sem] theorem tu9:tab.und 9=.str:=rfl
@[go_sem] theorem ts9:tab.siz 9=1:=rfl
@[go_sem] theorem tb9:tab.byt 9=16:=rfl
@[go_sem] theorem tz9:tab.zer 9=[.str []]:=rfl
@[go_sem] theorem OX:tab.und 21=(.int .i32):=rfl
@[go_sem] theorem Ow:tab.siz 21=1:=rfl
@[go_sem] theorem Po:tab.zer 21=[.int .i32 0]:=rfl
@[go_sem] theorem OY:tab.und 24=(.sl 5):=rfl
@[go_sem] theorem Ox:tab.siz 24=1:=rfl
@[go_sem] theorem Pp:tab.zer 24=[.nils]:=rfl
@[go_sem] theorem OZ:tab.und 26=.struct:=rfl
@[go_sem] theorem Oy:tab.siz 26=6:=rfl
@[go_sem] theorem Oj:tab.byt 26=80:=rfl
@[go_sem] theorem Pq:tab.zer 26=[.int .i64 0,.int .i64 0,.int .i64 0,.str [],.str [],.nils]:=rfl
@[go_sem] theorem JW:tab.fld 26 0=some (3,0):=rfl
@[go_sem] theorem JX:tab.fld 26 1=some (3,1):=rfl
@[go_sem] theorem JY:tab.fld 26 2=some (3,2):=rfl
@[go_sem] theorem JZ:tab.fld 26 3=some (9,3):=rfl
@[go_sem] theorem J0:tab.fld 26 4=some (9,4):=rfl
@[go_sem] theorem J1:tab.fld 26 5=some (24,5):=rfl
@[go_sem] theorem O0:tab.und 28=(.sl 26):=rfl
@[go_sem] theorem Oz:tab.siz 28=1:=rfl
@[go_sem] theorem Pr:tab.zer 28=[.nils]:=rfl
@[go_sem] theorem O1:tab.und 29=(.sl 94):=rfl
@[go_sem] theorem OA:tab.siz 29=1:=rfl
@[go_sem] theorem Ps:tab.zer 29=[.nils]:=rfl
@[go_sem] theorem O2:tab.und 30=(.sl 79):=rfl
@[go_sem] theorem OB:tab.siz 30=1:=rfl
@[go_sem] theorem Pt:tab.zer 30=[.nils]:=rfl
@[go_sem] theorem O3:tab.und 32=.struct:=rfl
@[go_sem] theorem OC:tab.siz 32=3:=rfl
@[go_sem] theorem Pu:tab.zer 32=[.nils,.int .i64 0,.nils]:=rfl
@[go_sem] theorem J2:tab.fld 32 0=some (29,0):=rfl
@[go_sem] theorem J3:tab.fld 32 1=some (3,1):=rfl
@[go_sem] theorem J4:tab.fld 32 2=some (30,2):=rfl
@[go_sem] theorem O4:tab.und 33=(.sl 47):=rfl
@[go_sem] theorem OD:tab.siz 33=1:=rfl
@[go_sem] theorem Pv:tab.zer 33=[.nils]:=rfl
@[go_sem] theorem O5:tab.und 35=.struct:=rfl
@[go_sem] theorem OE:tab.siz 35=4:=rfl
@[go_sem] theorem Pw:tab.zer 35=[.nils,.int .i64 0,.nils,.nils]:=rfl
@[go_sem] theorem J5:tab.fld 35 0=some (32,0):=rfl
@[go_sem] theorem J6:tab.fld 35 1=some (33,3):=rfl
@[go_sem] theorem O6:tab.und 37=(.int .i64):=rfl
@[go_sem] theorem OF:tab.siz 37=1:=rfl
@[go_sem] theorem Px:tab.zer 37=[.int .i64 0]:=rfl
@[go_sem] theorem O7:tab.und 40=(.sl 3):=rfl
@[go_sem] theorem OG:tab.siz 40=1:=rfl
@[go_sem] theorem Ol:tab.byt 40=24:=rfl
@[go_sem] theorem Py:tab.zer 40=[.nils]:=rfl
@[go_sem] theorem O8:tab.und 42=.struct:=rfl
@[go_sem] theorem OH:tab.siz 42=4:=rfl
@[go_sem] theorem Pz:tab.zer 42=[.int .i64 0,.int .i64 0,.int .i64 0,.nils]:=rfl
@[go_sem] theorem J7:tab.fld 42 0=some (37,0):=rfl
@[go_sem] theorem J8:tab.fld 42 1=some (3,1):=rfl
@[go_sem] theorem J9:tab.fld 42 2=some (3,2):=rfl
@[go_sem] theorem J_:tab.fld 42 3=some (24,3):=rfl
@[go_sem] theorem O9:tab.und 43=(.sl 138):=rfl
@[go_sem] theorem OI:tab.siz 43=1:=rfl
@[go_sem] theorem PA:tab.zer 43=[.nils]:=rfl
@[go_sem] theorem O_:tab.und 44=(.sl 51):=rfl
@[go_sem] theorem OJ:tab.siz 44=1:=rfl
@[go_sem] theorem PB:tab.zer 44=[.nils]:=rfl
@[go_sem] theorem O':tab.und 45=(.sl 118):=rfl
@[go_sem] theorem OK:tab.siz 45=1:=rfl
@[go_sem] theorem PC:tab.zer 45=[.nils]:=rfl
@[go_sem] theorem Pa:tab.und 47=.struct:=rfl
@[go_sem] theorem OL:tab.siz 47=10:=rfl
@[go_sem] theorem Om:tab.byt 47=144:=rfl
@[go_sem] theorem PD:tab.zer 47=[.int .i64 0,.bool false,.int .i64 0,.nils,.nils,.nils,.nils,.int .i64 0,.int .i64 0,.int .i64 0]:=rfl
@[go_sem] theorem J':tab.fld 47 0=some (3,0):=rfl
@[go_sem] theorem Ka:tab.fld 47 1=some (4,1):=rfl
@[go_sem] theorem Kb:tab.fld 47 2=some (3,2):=rfl
@[go_sem] theorem Kc:tab.fld 47 3=some (43,3):=rfl
@[go_sem] theorem Kd:tab.fld 47 4=some (44,4):=rfl
@[go_sem] theorem Ke:tab.fld 47 5=some (44,5):=rfl
@[go_sem] theorem Kf:tab.fld 47 6=some (45,6):=rfl
@[go_sem] theorem Kg:tab.fld 47 7=some (3,7):=rfl
@[go_sem] theorem Kh:tab.fld 47 8=some (3,8):=rfl
@[go_sem] theorem Ki:tab.fld 47 9=some (3,9):=rfl
@[go_sem] theorem Pb:tab.und 49=.struct:=rfl
@[go_sem] theorem OM:tab.siz 49=7:=rfl
@[go_sem] theorem On:tab.byt 49=88:=rfl
@[go_sem] theorem PE:tab.zer 49=[.int .i64 0,.int .i64 0,.int .i64 0,.str [],.int .i64 0,.str [],.nils]:=rfl
@[go_sem] theorem Kj:tab.fld 49 0=some (3,0):=rfl
@[go_sem] theorem Kk:tab.fld 49 1=some (3,1):=rfl
@[go_sem] theorem Kl:tab.fld 49 2=some (3,2):=rfl
@[go_sem] theorem Km:tab.fld 49 3=some (9,3):=rfl
@[go_sem] theorem Kn:tab.fld 49 4=some (3,4):=rfl
@[go_sem] theorem Ko:tab.fld 49 5=some (9,5):=rfl
@[go_sem] theorem Kq:tab.fld 49 6=some (24,6):=rfl
@[go_sem] theorem Pc:tab.und 51=.struct:=rfl
@[go_sem] theorem ON:tab.siz 51=9:=rfl
@[go_sem] theorem Oo:tab.byt 51=104:=rfl
@[go_sem] theorem PF:tab.zer 51=[.int .i64 0,.int .i64 0,.int .i64 0,.str [],.int .i64 0,.str [],.nils,.int .i64 0,.int .i64 0]:=rfl
@[go_sem] theorem Kr:tab.fld 51 0=some (49,0):=rfl
@[go_sem] theorem Ks:tab.fld 51 1=some (3,7):=rfl
@[go_sem] theorem Kt:tab.fld 51 2=some (3,8):=rfl
@[go_sem] theorem Pd:tab.und 66=(.map 3 94):=rfl
@[go_sem] theorem OO:tab.siz 66=1:=rfl
@[go_sem] theorem PG:tab.zer 66=[.nilm]:=rfl
@[go_sem] theorem Pe:tab.und 70=(.sl 76):=rfl
@[go_sem] theorem OP:tab.siz 70=1:=rfl
@[go_sem] theorem PH:tab.zer 70=[.nils]:=rfl
@[go_sem] theorem Pf:tab.und 74=(.map 3 3):=rfl
@[go_sem] theorem OQ:tab.siz 74=1:=rfl
@[go_sem] theorem PI:tab.zer 74=[.nilm]:=rfl
@[go_sem] theorem Pg:tab.und 76=.struct:=rfl
@[go_sem] theorem OR:tab.siz 76=4:=rfl
@[go_sem] theorem Oq:tab.byt 76=32:=rfl
@[go_sem] theorem PJ:tab.zer 76=[.int .i64 0,.int .i64 0,.int .i64 0,.int .i64 0]:=rfl
@[go_sem] theorem Ku:tab.fld 76 0=some (3,0):=rfl
@[go_sem] theorem Kv:tab.fld 76 1=some (3,1):=rfl
@[go_sem] theorem Kw:tab.fld 76 2=some (3,2):=rfl
@[go_sem] theorem Kx:tab.fld 76 3=some (3,3):=rfl
@[go_sem] theorem Ph:tab.und 79=.struct:=rfl
@[go_sem] theorem OS:tab.siz 79=8:=rfl
@[go_sem] theorem Ot:tab.byt 79=96:=rfl
@[go_sem] theorem PK:tab.zer 79=[.int .i64 0,.int .i64 0,.int .i64 0,.int .i64 0,.str [],.int .i64 0,.str [],.nils]:=rfl
@[go_sem] theorem Ky:tab.fld 79 0=some (3,0):=rfl
@[go_sem] theorem Kz:tab.fld 79 1=some (49,1):=rfl
@[go_sem] theorem Pj:tab.und 92=(.sl 96):=rfl
@[go_sem] theorem OT:tab.siz 92=1:=rfl
@[go_sem] theorem PL:tab.zer 92=[.nils]:=rfl
@[go_sem] theorem Pk:tab.und 94=.struct:=rfl
@[go_sem] theorem OU:tab.siz 94=5:=rfl
@[go_sem] theorem Ou:tab.byt 94=72:=rfl
@[go_sem] theorem PM:tab.zer 94=[.int .i64 0,.bool false,.nils,.nils,.int .i64 0]:=rfl
@[go_sem] theorem KB:tab.fld 94 0=some (3,0):=rfl
@[go_sem] theorem KC:tab.fld 94 1=some (4,1):=rfl
@[go_sem] theorem KE:tab.fld 94 2=some (24,2):=rfl
@[go_sem] theorem KF:tab.fld 94 3=some (92,3):=rfl
@[go_sem] theorem KG:tab.fld 94 4=some (3,4):=rfl
@[go_sem] theorem Pl:tab.und 96=.struct:=rfl
@[go_sem] theorem OV:tab.siz 96=2:=rfl
@[go_sem] theorem Ov:tab.byt 96=24:=rfl
@[go_sem] theorem PN:tab.zer 96=[.str [],.int .i64 0]:=rfl
@[go_sem] theorem KH:tab.fld 96 0=some (9,0):=rfl
@[go_sem] theorem KI:tab.fld 96 1=some (3,1):=rfl
@[go_sem] theorem Pm:tab.und 97=(.ptr 47):=rfl
@[go_sem] theorem OW:tab.siz 97=1:=rfl
@[go_sem] theorem PO:tab.zer 97=[.nilp]:=rfl
@[go_sem] theorem Nh:tab.und 100=(.ptr 103):=rfl
@[go_sem] theorem MM:tab.siz 100=1:=rfl
@[go_sem] theorem NP:tab.zer 100=[.nilp]:=rfl
@[go_sem] theorem Ni:tab.und 101=(.sl 40):=rfl
@[go_sem] theorem MN:tab.siz 101=1:=rfl
@[go_sem] theorem NQ:tab.zer 101=[.nils]:=rfl
@[go_sem] theorem Nj:tab.und 103=.struct:=rfl
@[go_sem] theorem MO:tab.siz 103=2:=rfl
@[go_sem] theorem NR:tab.zer 103=[.nils,.nils]:=rfl
@[go_sem] theorem HK:tab.fld 103 0=some (70,0):=rfl
@[go_sem] theorem HL:tab.fld 103 1=some (101,1):=rfl
@[go_sem] theorem Nk:tab.und 104=(.sl 162):=rfl
@[go_sem] theorem MP:tab.siz 104=1:=rfl
@[go_sem] theorem NS:tab.zer 104=[.nils]:=rfl
@[go_sem] theorem Nl:tab.und 118=.struct:=rfl
@[go_sem] theorem MQ:tab.siz 118=2:=rfl
@[go_sem] theorem MJ:tab.byt 118=24:=rfl
@[go_sem] theorem NT:tab.zer 118=[.str [],.int .i64 0]:=rfl
@[go_sem] theorem HN:tab.fld 118 0=some (9,0):=rfl
@[go_sem] theorem HO:tab.fld 118 1=some (3,1):=rfl
@[go_sem] theorem Nn:tab.und 119=(.ptr 121):=rfl
@[go_sem] theorem MR:tab.siz 119=1:=rfl
@[go_sem] theorem NU:tab.zer 119=[.nilp]:=rfl
@[go_sem] theorem Np:tab.und 121=.struct:=rfl
@[go_sem] theorem MS:tab.siz 121=13:=rfl
@[go_sem] theorem NV:tab.zer 121=[.int .i64 0,.bool false,.int .i64 0,.nils,.nils,.nils,.nils,.int .i64 0,.int .i64 0,.int .i64 0,.nils,.int .i64 0,.nils]:=rfl
@[go_sem] theorem HP:tab.fld 121 0=some (47,0):=rfl
@[go_sem] theorem HQ:tab.fld 121 1=some (32,10):=rfl
@[go_sem] theorem Nq:tab.und 122=(.sl 9):=rfl
@[go_sem] theorem MT:tab.siz 122=1:=rfl
@[go_sem] theorem NW:tab.zer 122=[.nils]:=rfl
@[go_sem] theorem Nr:tab.und 138=.struct:=rfl
@[go_sem] theorem MU:tab.siz 138=8:=rfl
@[go_sem] theorem MK:tab.byt 138=96:=rfl
@[go_sem] theorem NX:tab.zer 138=[.int .i64 0,.bool false,.nils,.nils,.int .i64 0,.bool false,.int .i64 0,.int .i64 0]:=rfl
@[go_sem] theorem HR:tab.fld 138 0=some (94,0):=rfl
@[go_sem] theorem HS:tab.fld 138 1=some (4,5):=rfl
@[go_sem] theorem HT:tab.fld 138 2=some (3,6):=rfl
@[go_sem] theorem HU:tab.fld 138 3=some (3,7):=rfl
@[go_sem] theorem Ns:tab.und 144=(.ptr 146):=rfl
@[go_sem] theorem MV:tab.siz 144=1:=rfl
@[go_sem] theorem NY:tab.zer 144=[.nilp]:=rfl
@[go_sem] theorem Nt:tab.und 146=.struct:=rfl
@[go_sem] theorem MW:tab.siz 146=13:=rfl
@[go_sem] theorem NZ:tab.zer 146=[.int .i64 0,.bool false,.int .i64 0,.nils,.nils,.nils,.nils,.int .i64 0,.int .i64 0,.int .i64 0,.nils,.int .i64 0,.nils]:=rfl
@[go_sem] theorem HV:tab.fld 146 0=some (47,0):=rfl
@[go_sem] theorem HW:tab.fld 146 1=some (32,10):=rfl
@[go_sem] theorem Nu:tab.und 148=(.ptr 26):=rfl
@[go_sem] theorem MX:tab.siz 148=1:=rfl
@[go_sem] theorem N0:tab.zer 148=[.nilp]:=rfl
@[go_sem] theorem Nv:tab.und 157=(.sl 49):=rfl
@[go_sem] theorem MY:tab.siz 157=1:=rfl
@[go_sem] theorem N1:tab.zer 157=[.nils]:=rfl
@[go_sem] theorem Nw:tab.und 162=.struct:=rfl
@[go_sem] theorem MZ:tab.siz 162=2:=rfl
@[go_sem] theorem ML:tab.byt 162=16:=rfl
@[go_sem] theorem N2:tab.zer 162=[.int .i64 0,.int .i64 0]:=rfl
@[go_sem] theorem HX:tab.fld 162 0=some (37,0):=rfl
@[go_sem] theorem HY:tab.fld 162 1=some (3,1):=rfl
@[go_sem] theorem Nx:tab.und 163=(.map 3 4):=rfl
@[go_sem] theorem M0:tab.siz 163=1:=rfl
@[go_sem] theorem N3:tab.zer 163=[.nilm]:=rfl
@[go_sem] theorem Ny:tab.und 183=(.ptr 94):=rfl
@[go_sem] theorem M1:tab.siz 183=1:=rfl
@[go_sem] theorem N4:tab.zer 183=[.nilp]:=rfl
@[go_sem] theorem Nz:tab.und 187=(.ptr 49):=rfl
@[go_sem] theorem M3:tab.siz 187=1:=rfl
@[go_sem] theorem N5:tab.zer 187=[.nilp]:=rfl
@[go_sem] theorem NA:tab.und 198=(.ptr 200):=rfl
@[go_sem] theorem M4:tab.siz 198=1:=rfl
@[go_sem] theorem N6:tab.zer 198=[.nilp]:=rfl
@[go_sem] theorem NB:tab.und 200=.struct:=rfl
@[go_sem] theorem M5:tab.siz 200=6:=rfl
@[go_sem] theorem N7:tab.zer 200=[.nils,.int .i64 0,.int .i64 0,.nilm,.nilm,.nilm]:=rfl
@[go_sem] theorem HZ:tab.fld 200 0=some (29,0):=rfl
@[go_sem] theorem H0:tab.fld 200 1=some (3,1):=rfl
@[go_sem] theorem H3:tab.fld 200 2=some (3,2):=rfl
@[go_sem] theorem H4:tab.fld 200 3=some (74,3):=rfl
@[go_sem] theorem H5:tab.fld 200 4=some (163,4):=rfl
@[go_sem] theorem H6:tab.fld 200 5=some (163,5):=rfl
@[go_sem] theorem NC:tab.und 203=(.ptr 51):=rfl
@[go_sem] theorem M6:tab.siz 203=1:=rfl
@[go_sem] theorem N8:tab.zer 203=[.nilp]:=rfl
@[go_sem] theorem ND:tab.und 215=.struct:=rfl
@[go_sem] theorem M7:tab.siz 215=4:=rfl
@[go_sem] theorem N9:tab.zer 215=[.nils,.nils,.nilm,.int .i64 0]:=rfl
@[go_sem] theorem H7:tab.fld 215 0=some (104,0):=rfl
@[go_sem] theorem H8:tab.fld 215 1=some (157,1):=rfl
@[go_sem] theorem H9:tab.fld 215 2=some (66,2):=rfl
@[go_sem] theorem H_:tab.fld 215 3=some (3,3):=rfl
@[go_sem] theorem NF:tab.und 226=(.ptr 228):=rfl
@[go_sem] theorem M8:tab.siz 226=1:=rfl
@[go_sem] theorem N_:tab.zer 226=[.nilp]:=rfl
@[go_sem] theorem NG:tab.und 228=.struct:=rfl
@[go_sem] theorem M9:tab.siz 228=9:=rfl
@[go_sem] theorem N':tab.zer 228=[.nils,.int .i64 0,.int .i64 0,.int .i64 0,.str [],.int .i64 0,.str [],.nils,.int .i64 0]:=rfl
@[go_sem] theorem Ia:tab.fld 228 0=some (29,0):=rfl
@[go_sem] theorem Ib:tab.fld 228 1=some (49,1):=rfl
@[go_sem] theorem Ic:tab.fld 228 2=some (3,8):=rfl
@[go_sem] theorem NH:tab.und 244=(.int .u64):=rfl
@[go_sem] theorem M_:tab.siz 244=1:=rfl
@[go_sem] theorem Oa:tab.zer 244=[.int .u64 0]:=rfl
@[go_sem] theorem NI:tab.und 263=(.int .i64):=rfl
@[go_sem] theorem M':tab.siz 263=1:=rfl
@[go_sem] theorem Ob:tab.zer 263=[.int .i64 0]:=rfl
@[go_sem] theorem NJ:tab.und 270=(.int .u32):=rfl
@[go_sem] theorem Na:tab.siz 270=1:=rfl
@[go_sem] theorem Oc:tab.zer 270=[.int .u32 0]:=rfl
@[go_sem] theorem NK:tab.und 272=(.int .u64):=rfl
@[go_sem] theorem Nb:tab.siz 272=1:=rfl
@[go_sem] theorem Od:tab.zer 272=[.int .u64 0]:=rfl
@[go_sem] theorem NL:tab.und 286=(.int .u64):=rfl
@[go_sem] theorem Nc:tab.siz 286=1:=rfl
@[go_sem] theorem Oe:tab.zer 286=[.int .u64 0]:=rfl
@[go_sem] theorem NM:tab.und 290=(.ptr 3):=rfl
@[go_sem] theorem Nd:tab.siz 290=1:=rfl
@[go_sem] theorem Og:tab.zer 290=[.nilp]:=rfl
@[go_sem] theorem NN:tab.und 296=(.ptr 286):=rfl
@[go_sem] theorem Nf:tab.siz 296=1:=rfl
@[go_sem] theorem Oh:tab.zer 296=[.nilp]:=rfl
@[go_sem] theorem NO:tab.und 301=.struct:=rfl
@[go_sem] theorem Ng:tab.siz 301=2:=rfl
@[go_sem] theorem Oi:tab.zer 301=[.int .u8 0,.int .u8 0]:=rfl
@[go_sem] theorem Ie:tab.fld 301 0=some (5,0):=rfl
@[go_sem] theorem Ig:tab.fld 301 1=some (5,1):=rfl
theorem Cv:∀t,jX prog t (JV t):=by
 intro t;unfold JV;split
 ·exact underlying2
 ·exact underlying3
 ·exact underlying4
 ·exact underlying5
 ·exact underlying6
 ·exact ⟨_,underlying7,by intro f hf;simp at hf;rcases hf with rfl | rfl | rfl | rfl<;>kernel_rfl⟩
 ·exact ⟨_,underlying8,by intro f hf;simp at hf;rcases hf with rfl | rfl | rfl | rfl<;>kernel_rfl⟩
 ·exact underlying9
 ·exact underlying10
 ·exact underlying11
 ·exact underlying12
 ·exact ⟨_,underlying13,by intro f hf;simp at hf;rcases hf with rfl | rfl<;>kernel_rfl⟩
 ·exact ⟨_,underlying14,by intro f hf;simp at hf;rcases hf with rfl | rfl<;>kernel_rfl⟩
 ·exact underlying15
 ·exact underlying16
 ·exact underlying17
 ·exact ⟨_,underlying18,by intro f hf;simp at hf;rcases hf with rfl<;>kernel_rfl⟩
 ·exact ⟨_,underlying19,by intro f hf;simp at hf;rcases hf with rfl<;>kernel_rfl⟩
 ·exact underlying21
 ·exact underlying24
 ·exact ⟨_,underlying25,by intro f hf;simp at hf;rcases hf with rfl | rfl | rfl | rfl | rfl | rfl<;>kernel_rfl⟩
 ·exact ⟨_,underlying26,by intro f hf;simp at hf;rcases hf with rfl | rfl | rfl | rfl | rfl | rfl<;>kernel_rfl⟩
 ·exact underlying28
 ·exact underlying29
 ·exact underlying30
 ·exact ⟨_,underlying31,by intro f hf;simp at hf;rcases hf with rfl | rfl | rfl<;>kernel_rfl⟩
 ·exact ⟨_,underlying32,by intro f hf;simp at hf;rcases hf with rfl | rfl | rfl<;>kernel_rfl⟩
 ·exact underlying33
 ·exact ⟨_,underlying34,by intro f hf;simp at hf;rcases hf with rfl | rfl<;>kernel_rfl⟩
 ·exact ⟨_,underlying35,by intro f hf;simp at hf;rcases hf with rfl | rfl<;>kernel_rfl⟩
 ·exact underlying36
 ·exact underlying37
 ·exact underlying40
 ·exact ⟨_,underlying41,by intro f hf;simp at hf;rcases hf with rfl | rfl | rfl | rfl<;>kernel_rfl⟩
 ·exact ⟨_,underlying42,by intro f hf;simp at hf;rcases hf with rfl | rfl | rfl | rfl<;>kernel_rfl⟩
 ·exact underlying43
 ·exact underlying44
 ·exact underlying45
 ·exact ⟨_,underlying46,by intro f hf;simp at hf;rcases hf with rfl | rfl | rfl | rfl | rfl | rfl | rfl | rfl | rfl | rfl<;>kernel_rfl⟩
 ·exact ⟨_,underlying47,by intro f hf;simp at hf;rcases hf with rfl | rfl | rfl | rfl | rfl | rfl | rfl | rfl | rfl | rfl<;>kernel_rfl⟩
 ·exact ⟨_,underlying48,by intro f hf;simp at hf;rcases hf with rfl | rfl | rfl | rfl | rfl | rfl | rfl<;>kernel_rfl⟩
 ·exact ⟨_,underlying49,by intro f hf;simp at hf;rcases hf with rfl | rfl | rfl | rfl | rfl | rfl | rfl<;>kernel_rfl⟩
 ·exact ⟨_,underlying50,by intro f hf;simp at hf;rcases hf with rfl | rfl | rfl<;>kernel_rfl⟩
 ·exact ⟨_,underlying51,by intro f hf;simp at hf;rcases hf with rfl | rfl | rfl<;>kernel_rfl⟩
 ·exact underlying65
 ·exact underlying66
 ·exact underlying70
 ·exact underlying74
 ·exact ⟨_,underlying75,by intro f hf;simp at hf;rcases hf with rfl | rfl | rfl | rfl<;>kernel_rfl⟩
 ·exact ⟨_,underlying76,by intro f hf;simp at hf;rcases hf with rfl | rfl | rfl | rfl<;>kernel_rfl⟩
 ·exact ⟨_,underlying78,by intro f hf;simp at hf;rcases hf with rfl | rfl<;>kernel_rfl⟩
 ·exact ⟨_,underlying79,by intro f hf;simp at hf;rcases hf with rfl | rfl<;>kernel_rfl⟩
 ·exact underlying92
 ·exact ⟨_,underlying93,by intro f hf;simp at hf;rcases hf with rfl | rfl | rfl | rfl | rfl<;>kernel_rfl⟩
 ·exact ⟨_,underlying94,by intro f hf;simp at hf;rcases hf with rfl | rfl | rfl | rfl | rfl<;>kernel_rfl⟩
 ·exact ⟨_,underlying95,by intro f hf;simp at hf;rcases hf with rfl | rfl<;>kernel_rfl⟩
 ·exact ⟨_,underlying96,by intro f hf;simp at hf;rcases hf with rfl | rfl<;>kernel_rfl⟩
 ·exact underlying97
 ·exact underlying100
 ·exact underlying101
 ·exact ⟨_,underlying102,by intro f hf;simp at hf;rcases hf with rfl | rfl<;>kernel_rfl⟩
 ·exact ⟨_,underlying103,by intro f hf;simp at hf;rcases hf with rfl | rfl<;>kernel_rfl⟩
 ·exact underlying104
 ·exact ⟨_,underlying117,by intro f hf;simp at hf;rcases hf with rfl | rfl<;>kernel_rfl⟩
 ·exact ⟨_,underlying118,by intro f hf;simp at hf;rcases hf with rfl | rfl<;>kernel_rfl⟩
 ·exact underlying119
 ·exact ⟨_,underlying120,by intro f hf;simp at hf;rcases hf with rfl | rfl<;>kernel_rfl⟩
 ·exact ⟨_,underlying121,by intro f hf;simp at hf;rcases hf with rfl | rfl<;>kernel_rfl⟩
 ·exact underlying122
 ·exact ⟨_,underlying137,by intro f hf;simp at hf;rcases hf with rfl | rfl | rfl | rfl<;>kernel_rfl⟩
 ·exact ⟨_,underlying138,by intro f hf;simp at hf;rcases hf with rfl | rfl | rfl | rfl<;>kernel_rfl⟩
 ·exact underlying144
 ·exact ⟨_,underlying145,by intro f hf;simp at hf;rcases hf with rfl | rfl<;>kernel_rfl⟩
 ·exact ⟨_,underlying146,by intro f hf;simp at hf;rcases hf with rfl | rfl<;>kernel_rfl⟩
 ·exact underlying148
 ·exact underlying157
 ·exact ⟨_,underlying161,by intro f hf;simp at hf;rcases hf with rfl | rfl<;>kernel_rfl⟩
 ·exact ⟨_,underlying162,by intro f hf;simp at hf;rcases hf with rfl | rfl<;>kernel_rfl⟩
 ·exact underlying163
 ·exact underlying183
 ·exact underlying187
 ·exact underlying198
 ·exact ⟨_,underlying199,by intro f hf;simp at hf;rcases hf with rfl | rfl | rfl | rfl | rfl | rfl<;>kernel_rfl⟩
 ·exact ⟨_,underlying200,by intro f hf;simp at hf;rcases hf with rfl | rfl | rfl | rfl | rfl | rfl<;>kernel_rfl⟩
 ·exact underlying203
 ·exact ⟨_,underlying214,by intro f hf;simp at hf;rcases hf with rfl | rfl | rfl | rfl<;>kernel_rfl⟩
 ·exact ⟨_,underlying215,by intro f hf;simp at hf;rcases hf with rfl | rfl | rfl | rfl<;>kernel_rfl⟩
 ·exact underlying226
 ·exact ⟨_,underlying227,by intro f hf;simp at hf;rcases hf with rfl | rfl | rfl<;>kernel_rfl⟩
 ·exact ⟨_,underlying228,by intro f hf;simp at hf;rcases hf with rfl | rfl | rfl<;>kernel_rfl⟩
 ·exact underlying244
 ·exact underlying263
 ·exact underlying270
 ·exact underlying272
 ·exact underlying286
 ·exact underlying290
 ·exact underlying296
 ·exact ⟨_,underlying300,by intro f hf;simp at hf;rcases hf with rfl | rfl<;>kernel_rfl⟩
 ·exact ⟨_,underlying301,by intro f hf;simp at hf;rcases hf with rfl | rfl<;>kernel_rfl⟩
 ·exact ⟨_,underlying308,by intro f hf;simp at hf;rcases hf with rfl | rfl | rfl | rfl<;>kernel_rfl⟩
 ·exact ⟨_,underlying309,by intro f hf;simp at hf;rcases hf with rfl | rfl | rfl | rfl<;>kernel_rfl⟩
 ·exact underlying314
 ·exact underlying315
 ·exact underlying317
 ·exact underlying318
 ·exact underlying319
 ·trivial
theorem tq {t s b:Nat} {m:List AV} {a:Option Bool} (i:TypeInfo) {z:Value} (h:(prog).info? t=some i:=by kernel_rfl) (h1:i.size=s:=by rfl) (h2:i.bytes=b:=by rfl) (h3:i.zero=some z:=by rfl) (h4:z.cells.toList.map ofValue=m:=by rfl) (h5:z.cells.size=s:=by rfl) (h6:a=some (match (generalizing:=false) z with | .agg _=>true | _=>false):=by rfl) (_:s≠0):∃i,(prog).info? t=some i/\i.size=s/\i.bytes=b/\∃z,i.zero=some z/\z.cells.toList.map ofValue=m/\z.cells.size=s/\a=some (match z with | .agg _=>true | _=>false):=⟨i,h,h1,h2,z,h3,h4,h5,h6⟩
theorem Cu:∀t,Cs t≠0->∃i,(prog).info? t=some i/\i.size=Cs t/\i.bytes=Mu t/\∃z,i.zero=some z/\z.cells.toList.map ofValue=Mw t/\z.cells.size=Cs t /\
  (JV t).isA=some (match z with | .agg _=>true | _=>false):=by
 intro t h
 revert h
 unfold Cs;split
 ·exact tq t2
 ·exact tq t3
 ·exact tq t4
 ·exact tq t5
 ·exact tq t6
 ·exact tq t7
 ·exact tq t8
 ·exact tq t9
 ·exact tq t10
 ·exact tq t11
 ·exact tq t12
 ·exact tq t13
 ·exact tq t14
 ·exact tq t15
 ·exact tq t16
 ·exact tq t17
 ·exact tq t18
 ·exact tq t19
 ·exact tq t21
 ·exact tq t24
 ·exact tq t25
 ·exact tq t26
 ·exact tq t28
 ·exact tq t29
 ·exact tq t30
 ·exact tq t31
 ·exact tq t32
 ·exact tq t33
 ·exact tq t34
 ·exact tq t35
 ·exact tq t36
 ·exact tq t37
 ·exact tq t40
 ·exact tq t41
 ·exact tq t42
 ·exact tq t43
 ·exact tq t44
 ·exact tq t45
 ·exact tq t46
 ·exact tq t47
 ·exact tq t48
 ·exact tq t49
 ·exact tq t50
 ·exact tq t51
 ·exact tq t65
 ·exact tq t66
 ·exact tq t70
 ·exact tq t74
 ·exact tq t75
 ·exact tq t76
 ·exact tq t78
 ·exact tq t79
 ·exact tq t92
 ·exact tq t93
 ·exact tq t94
 ·exact tq t95
 ·exact tq t96
 ·exact tq t97
 ·exact tq t100
 ·exact tq t101
 ·exact tq t102
 ·exact tq t103
 ·exact tq t104
 ·exact tq t117
 ·exact tq t118
 ·exact tq t119
 ·exact tq t120
 ·exact tq t121
 ·exact tq t122
 ·exact tq t137
 ·exact tq t138
 ·exact tq t144
 ·exact tq t145
 ·exact tq t146
 ·exact tq t148
 ·exact tq t157
 ·exact tq t161
 ·exact tq t162
 ·exact tq t163
 ·exact tq t183
 ·exact tq t187
 ·exact tq t198
 ·exact tq t199
 ·exact tq t200
 ·exact tq t203
 ·exact tq t214
 ·exact tq t215
 ·exact tq t226
 ·exact tq t227
 ·exact tq t228
 ·exact tq t244
 ·exact tq t263
 ·exact tq t270
 ·exact tq t272
 ·exact tq t286
 ·exact tq t290
 ·exact tq t296
 ·exact tq t300
 ·exact tq t301
 ·exact tq t308
 ·exact tq t309
 ·exact tq t314
 ·exact tq t315
 ·exact tq t317
 ·exact tq t318
 ·exact tq t319
 ·exact λh=>absurd rfl h
theorem E5:∀t,tFl t=[]\/∃F:Array Field,(prog).underlying t=some (.struct F)/\F.toList.map (λf=>(f.type,f.offset))=tFl t/\∀x,x∈tFl t->Cs x.1≠0:=by
 intro t;unfold tFl;split
 ·exact .inr ⟨_,underlying7,rfl,by decide⟩
 ·exact .inr ⟨_,underlying8,rfl,by decide⟩
 ·exact .inr ⟨_,underlying13,rfl,by decide⟩
 ·exact .inr ⟨_,underlying14,rfl,by decide⟩
 ·exact .inr ⟨_,underlying18,rfl,by decide⟩
 ·exact .inr ⟨_,underlying19,rfl,by decide⟩
 ·exact .inr ⟨_,underlying25,rfl,by decide⟩
 ·exact .inr ⟨_,underlying26,rfl,by decide⟩
 ·exact .inr ⟨_,underlying31,rfl,by decide⟩
 ·exact .inr ⟨_,underlying32,rfl,by decide⟩
 ·exact .inr ⟨_,underlying34,rfl,by decide⟩
 ·exact .inr ⟨_,underlying35,rfl,by decide⟩
 ·exact .inr ⟨_,underlying41,rfl,by decide⟩
 ·exact .inr ⟨_,underlying42,rfl,by decide⟩
 ·exact .inr ⟨_,underlying46,rfl,by decide⟩
 ·exact .inr ⟨_,underlying47,rfl,by decide⟩
 ·exact .inr ⟨_,underlying48,rfl,by decide⟩
 ·exact .inr ⟨_,underlying49,rfl,by decide⟩
 ·exact .inr ⟨_,underlying50,rfl,by decide⟩
 ·exact .inr ⟨_,underlying51,rfl,by decide⟩
 ·exact .inr ⟨_,underlying75,rfl,by decide⟩
 ·exact .inr ⟨_,underlying76,rfl,by decide⟩
 ·exact .inr ⟨_,underlying78,rfl,by decide⟩
 ·exact .inr ⟨_,underlying79,rfl,by decide⟩
 ·exact .inr ⟨_,underlying93,rfl,by decide⟩
 ·exact .inr ⟨_,underlying94,rfl,by decide⟩
 ·exact .inr ⟨_,underlying95,rfl,by decide⟩
 ·exact .inr ⟨_,underlying96,rfl,by decide⟩
 ·exact .inr ⟨_,underlying102,rfl,by decide⟩
 ·exact .inr ⟨_,underlying103,rfl,by decide⟩
 ·exact .inr ⟨_,underlying117,rfl,by decide⟩
 ·exact .inr ⟨_,underlying118,rfl,by decide⟩
 ·exact .inr ⟨_,underlying120,rfl,by decide⟩
 ·exact .inr ⟨_,underlying121,rfl,by decide⟩
 ·exact .inr ⟨_,underlying137,rfl,by decide⟩
 ·exact .inr ⟨_,underlying138,rfl,by decide⟩
 ·exact .inr ⟨_,underlying145,rfl,by decide⟩
 ·exact .inr ⟨_,underlying146,rfl,by decide⟩
 ·exact .inr ⟨_,underlying161,rfl,by decide⟩
 ·exact .inr ⟨_,underlying162,rfl,by decide⟩
 ·exact .inr ⟨_,underlying199,rfl,by decide⟩
 ·exact .inr ⟨_,underlying200,rfl,by decide⟩
 ·exact .inr ⟨_,underlying214,rfl,by decide⟩
 ·exact .inr ⟨_,underlying215,rfl,by decide⟩
 ·exact .inr ⟨_,underlying227,rfl,by decide⟩
 ·exact .inr ⟨_,underlying228,rfl,by decide⟩
 ·exact .inr ⟨_,underlying300,rfl,by decide⟩
 ·exact .inr ⟨_,underlying301,rfl,by decide⟩
 ·exact .inr ⟨_,underlying308,rfl,by decide⟩
 ·exact .inr ⟨_,underlying309,rfl,by decide⟩
 ·exact .inl rfl
theorem Ct:∀t j ft off,Me t j=some (ft,off)->∃F f,(prog).underlying t=some (.struct F)/\F[j]? = some f/\f.type=ft/\f.offset=off/\Cs ft≠0:=by
 intro t j ft off h;unfold Me at h
 rcases E5 t with e | ⟨F,h1,h2,h3⟩
 ·rw[e] at h;simp at h
 ·have h4:=h3 _ (W3 h);rw[<-h2,W2,Array.getElem?_toList] at h;cases e:F[j]? with
  | none=>rw[e] at h;cases h
  | some f=>
   rw[e] at h;simp only[Option.map_some,gL,gM] at h;exact ⟨F,f,h1,e,h.1,h.2,h4⟩
theorem tK:TabOK prog tab:=⟨Cv,Cu,Ct⟩
instance:TabC prog tab:=⟨tK⟩
end Go.Eng
namespace La
open Go Go.Eng
structure Entry where
 name:List UInt8
 fid:Int
deriving DecidableEq,Inhabited
structure Node where
 fid:Int
 dir:Bool
 data:List UInt8
 entries:List Entry
 version:Int
deriving DecidableEq,Inhabited
structure Act where
 kind:Int
 fid:Int
 dir:Int
 name:List UInt8
 to:Int
 toName:List UInt8
 data:List UInt8
deriving DecidableEq,Inhabited
structure Rec where
 act:Act
 version:Int
 id:Int
deriving DecidableEq,Inhabited
def i (n:Int):AV:=.int .i64 n
def ZY (b:UInt8):List AV:=[.int .u8 (b.toNat:Int)]
def ZI (n:Int):List AV:=[.int .i64 n]
def ZE (e:Entry):List AV:=[.str e.name,.int .i64 e.fid]
def ZN (n:Node):List AV:=[.int .i64 n.fid,.bool n.dir,.sl (n.data.map ZY),.sl (n.entries.map ZE),.int .i64 n.version]
def ZA (a:Act):List AV:=[.int .i64 a.kind,.int .i64 a.fid,.int .i64 a.dir,.str a.name,.int .i64 a.to,.str a.toName,.sl (a.data.map ZY)]
def ZR (r:Rec):List AV:=[.int .i64 r.act.kind,.int .i64 r.act.fid,.int .i64 r.act.dir,.str r.act.name,.int .i64 r.act.to,.str r.act.toName,.sl (r.act.data.map ZY),.int .i64 r.version,.int .i64 r.id]
structure Fam {α:Type} (f:α->List AV) (n:Nat):Prop where
 len:∀a,(f a).length=n
 leaf:∀a,(f a).all AV.leaf=true
 pure:∀a,(f a).all AV.aW=true
 free:∀a,aB (f a)=[]
section
variable {α:Type} {f:α->List AV} {n:Nat}
theorem Fam.rowsOf (h:Fam f n) (l:List α):Eng.rowsOf n (l.map f):=by
 intro row hr;obtain ⟨a,_,rfl⟩:=W5.1 hr;exact h.len a
theorem Fam.kb (h:Fam f n) (l:List α):((l.map f).all λrow=>row.all AV.leaf)=true:=by
 rw[List.all_eq_true];intro row hr;obtain ⟨a,_,rfl⟩:=W5.1 hr;exact h.leaf a
theorem Fam.eJ (h:Fam f n) (l:List α):((l.map f).all λrow=>row.all AV.aW)=true:=by
 rw[List.all_eq_true];intro row hr;obtain ⟨a,_,rfl⟩:=W5.1 hr;exact h.pure a
theorem Fam.jJ (h:Fam f n) (id:Nat) (l:List α):((l.map f).all λrow=>row.all λx=>!(refs x).contains id)=true:=by
 rw[List.all_eq_true];intro row hr;obtain ⟨a,_,rfl⟩:=W5.1 hr;rw[List.all_eq_true];intro x hx;obtain ⟨j,hj⟩:=W9 hx;have:refs x=[]:=by
  have h1:∀i,i∈refs x->i∈aB (f a):=λi hi=>aX hj hi
  rw[h.free a] at h1;exact List.eq_nil_iff_forall_not_mem.2 λi hi=>by simpa using h1 i hi
 rw[this];rfl
theorem Fam.ay (h:Fam f n) (e s:Nat) (l:List α):Eng.ay (.cells e s (l.map f))=[]:=by
 simp only[Eng.ay]
 induction l with
 | nil=>rfl
 | cons a r ih=>simp only[List.map_cons,List.flatMap_cons,h.free a,ih,List.nil_append]
theorem Fam.gP (h:∀a (off:Nat),Eng.gP off (f a)=f a) (off:Nat) (l:List α):(l.map f).map (Eng.gP off)=l.map f:=by
 induction l with
 | nil=>rfl
 | cons a r ih=>simp only[List.map_cons,h a off,ih]
theorem Fam.dq (h:∀a (id s:Nat) (rows:List (List AV)),Eng.dq id s rows (f a)=f a) (id s:Nat) (rows:List (List AV)) (l:List α):(l.map f).map (Eng.dq id s rows)=l.map f:=by
 induction l with
 | nil=>rfl
 | cons a r ih=>simp only[List.map_cons,h a id s rows,ih]
end
@[go_sem,simp] theorem KJ {α:Type} (f:α->List AV) (l:List α):(l.map f).take l.length=l.map f:=W1 w8
theorem dI {α:Type} [Inhabited α] (f:α->List AV) {l:List α} {i:Nat} (h:i<l.length):(l.take (i+1)).map f=(l.take i).map f++[f (l.getD i default)]:=by
 rw[List.take_succ_eq_append_getElem h,List.map_append,List.getD_eq_getElem?_getD,Wz h];rfl
theorem ZT {α:Type} [Inhabited α] {l:List α} {i:Nat} (h:i<l.length):l.take (i+1)=l.take i++[l.getD i default]:=by
 rw[List.take_succ_eq_append_getElem h,List.getD_eq_getElem?_getD,Wz h];rfl
theorem cr {α:Type} [Inhabited α] {l:List α} {i:Nat} (h:i<l.length):l.drop i=l.getD i default::l.drop (i+1):=by
 rw[List.drop_eq_getElem_cons h,List.getD_eq_getElem?_getD,Wz h];rfl
def cv:Option Nat->Int
 | none=>-1
 | some k=>k
theorem eR {α:Type} {p:α->Bool}:∀{l:List α} {i:Nat} {x:α},l[i]? = some x->(∀y,y∈l.take i->p y=false)->p x=true->l.findIdx? p=some i
 | [],i,x,h,_,_=>by simp at h
 | y::r,0,x,h,_,hp=>by
  simp only[List.getElem?_cons_zero,gL] at h;subst h;simp[List.findIdx?_cons,hp]
 | y::r,i+1,x,h,hn,hp=>by
  have h0:=hn y w8;rw[List.findIdx?_cons,h0];simp only[Bool.false_eq_true,if_false];rw[eR (l:=r) (i:=i) x7 (λz hz=>hn z (by simp[hz])) hp];rfl
structure Node.Small (n:Node):Prop where
 data:n.data.length<=100000000
 entries:n.entries.length<=100000000
structure Small (l:List Node):Prop where
 len:l.length<=100000000
 each:∀n,n∈l->n.Small
theorem YG {α:Type} [Inhabited α] {l:List α} {i:Nat} (h:i<l.length):l.getD i default∈l:=by
 rw[List.getD_eq_getElem?_getD,Wz h];exact YW h
theorem Fam.getD {α:Type} [Inhabited α] {f:α->List AV} {l:List α} {i:Nat} (h:i<l.length):(l.map f).getD i []=f (l.getD i default):=by
 rw[List.getD_eq_getElem?_getD,W2,List.getD_eq_getElem?_getD,Wz h];rfl
theorem iu:Fam ZY 1:=⟨λ_=>rfl,λ_=>rfl,λ_=>rfl,λ_=>rfl⟩
@[go_sem,simp] theorem FB (l:List _):Eng.rowsOf 1 (l.map ZY):=iu.rowsOf l
@[go_sem,simp] theorem Ix (l:List _):((l.map ZY).all λrow=>row.all AV.leaf)=true:=iu.kb l
@[go_sem,simp] theorem lp (l:List _):((l.map ZY).all λrow=>row.all AV.aW)=true:=iu.eJ l
@[go_sem,simp] theorem Hx (id:Nat) (l:List _):((l.map ZY).all λrow=>row.all λx=>!(refs x).contains id)=true:=iu.jJ id l
@[go_sem,simp] theorem Hy (e s:Nat) (l:List _):ay (.cells e s (l.map ZY))=[]:=iu.ay e s l
@[go_sem,simp] theorem Iw (id s:Nat) (rows:List (List AV)) (l:List _):(l.map ZY).map (dq id s rows)=l.map ZY:=Fam.dq (λ_ _ _ _=>rfl) id s rows l
theorem tE:Fam ZI 1:=⟨λ_=>rfl,λ_=>rfl,λ_=>rfl,λ_=>rfl⟩
@[go_sem,simp] theorem I0 (e s:Nat) (l:List _):ay (.cells e s (l.map ZI))=[]:=tE.ay e s l
theorem fg:Fam ZE 2:=⟨λ_=>rfl,λ_=>rfl,λ_=>rfl,λ_=>rfl⟩
@[go_sem,simp] theorem r_ (l:List _):Eng.rowsOf 2 (l.map ZE):=fg.rowsOf l
@[go_sem,simp] theorem vh (l:List _):((l.map ZE).all λrow=>row.all AV.leaf)=true:=fg.kb l
@[go_sem,simp] theorem dB (l:List _):((l.map ZE).all λrow=>row.all AV.aW)=true:=fg.eJ l
@[go_sem,simp] theorem mA (id:Nat) (l:List _):((l.map ZE).all λrow=>row.all λx=>!(refs x).contains id)=true:=fg.jJ id l
@[go_sem,simp] theorem FY (e s:Nat) (l:List _):ay (.cells e s (l.map ZE))=[]:=fg.ay e s l
@[go_sem,simp] theorem HB (off:Nat) (l:List _):(l.map ZE).map (gP off)=l.map ZE:=Fam.gP (λ_ _=>rfl) off l
@[go_sem,simp] theorem HA (id s:Nat) (rows:List (List AV)) (l:List _):(l.map ZE).map (dq id s rows)=l.map ZE:=Fam.dq (λ_ _ _ _=>rfl) id s rows l
theorem fS:Fam ZN 5:=⟨λ_=>rfl,λ_=>rfl,λ_=>rfl,λ_=>rfl⟩
@[go_sem,simp] theorem uk (l:List _):Eng.rowsOf 5 (l.map ZN):=fS.rowsOf l
@[go_sem,simp] theorem yc (l:List _):((l.map ZN).all λrow=>row.all AV.leaf)=true:=fS.kb l
@[go_sem,simp] theorem fp (l:List _):((l.map ZN).all λrow=>row.all AV.aW)=true:=fS.eJ l
@[go_sem,simp] theorem nZ (id:Nat) (l:List _):((l.map ZN).all λrow=>row.all λx=>!(refs x).contains id)=true:=fS.jJ id l
@[go_sem,simp] theorem HI (e s:Nat) (l:List _):ay (.cells e s (l.map ZN))=[]:=fS.ay e s l
@[go_sem,simp] theorem Jo (off:Nat) (l:List _):(l.map ZN).map (gP off)=l.map ZN:=Fam.gP (λ_ _=>rfl) off l
@[go_sem,simp] theorem Jm (id s:Nat) (rows:List (List AV)) (l:List _):(l.map ZN).map (dq id s rows)=l.map ZN:=Fam.dq (λ_ _ _ _=>rfl) id s rows l
theorem lu:Fam ZA 7:=⟨λ_=>rfl,λ_=>rfl,λ_=>rfl,λ_=>rfl⟩
@[go_sem,simp] theorem re (l:List _):((l.map ZA).all λrow=>row.all AV.aW)=true:=lu.eJ l
@[go_sem,simp] theorem Ii (id:Nat) (l:List _):((l.map ZA).all λrow=>row.all λx=>!(refs x).contains id)=true:=lu.jJ id l
@[go_sem,simp] theorem Ij (e s:Nat) (l:List _):ay (.cells e s (l.map ZA))=[]:=lu.ay e s l
@[go_sem,simp] theorem KV (id s:Nat) (rows:List (List AV)) (l:List _):(l.map ZA).map (dq id s rows)=l.map ZA:=Fam.dq (λ_ _ _ _=>rfl) id s rows l
theorem gV:Fam ZR 9:=⟨λ_=>rfl,λ_=>rfl,λ_=>rfl,λ_=>rfl⟩
@[go_sem,simp] theorem vq (l:List _):Eng.rowsOf 9 (l.map ZR):=gV.rowsOf l
@[go_sem,simp] theorem Az (l:List _):((l.map ZR).all λrow=>row.all AV.leaf)=true:=gV.kb l
@[go_sem,simp] theorem dg (l:List _):((l.map ZR).all λrow=>row.all AV.aW)=true:=gV.eJ l
@[go_sem,simp] theorem jd (id:Nat) (l:List _):((l.map ZR).all λrow=>row.all λx=>!(refs x).contains id)=true:=gV.jJ id l
@[go_sem,simp] theorem JA (e s:Nat) (l:List _):ay (.cells e s (l.map ZR))=[]:=gV.ay e s l
@[go_sem,simp] theorem K7 (off:Nat) (l:List _):(l.map ZR).map (gP off)=l.map ZR:=Fam.gP (λ_ _=>rfl) off l
@[go_sem,simp] theorem K6 (id s:Nat) (rows:List (List AV)) (l:List _):(l.map ZR).map (dq id s rows)=l.map ZR:=Fam.dq (λ_ _ _ _=>rfl) id s rows l
@[go_sem,simp] theorem I1 (a):aB (ZI a)=[]:=tE.free a
@[go_sem,simp] theorem FZ (a):aB (ZE a)=[]:=fg.free a
@[go_sem,simp] theorem ky (a):aB (ZN a)=[]:=fS.free a
@[go_sem,simp] theorem Ik (a):aB (ZA a)=[]:=lu.free a
@[go_sem,simp] theorem JB (a):aB (ZR a)=[]:=gV.free a
@[go_sem,simp] theorem Mn (l:List UInt8):(l.map ZY).map Eng.byteOf=l:=by
 rw[Yf];have:Eng.byteOf∘ZY=id:=by
  funext b
  show UInt8.ofNat ((b.toNat:Int)).toNat=b
  simp
 rw[this,List.map_id]
@[go_sem,simp] theorem Lm (b:UInt8):Fk (ZY b):=⟨_,rfl⟩
end La
namespace Go.Eng
open Go.ChangeShapes Go.WideShapes Go.RowKit
section
variable {H:Type} {enc:TypeId×Value->H} {P:Program}
theorem Frm.at {W W':World} (h:Frm (λ_=>False) W W') {b:Nat} (hb:b<W.heap.size):W'.heap[b]? = W.heap[b]?:=h.block b hb (λh=>h)
theorem Frm.kept {W W':World} (h:Frm (λ_=>False) W W') (may:MemPlace->Prop):W.keptBut W' may:=by
 refine ⟨h.os,h.output,λi hi=>?_⟩;rw[h.at hi];split
 ·rename_i c t fr c' t' fr' h1 h2;rw[h1] at h2;simp only[gL,Obj.cells.injEq] at h2;obtain ⟨rfl,rfl,rfl⟩:=h2;exact ⟨rfl,rfl,rfl,λ_ _=>rfl⟩
 ·rename_i es c es' c' h1 h2;rw[h1] at h2;simp only[gL,Obj.map.injEq] at h2;obtain ⟨rfl,rfl⟩:=h2;exact .inr ⟨rfl,rfl⟩
 ·rfl
theorem rU {W W':World} (h:Frm (λ_=>False) W W') {b:Nat} {sp:Nat->Bool} {held:Bool}:∀{ts:List TypeId} {vs:List Value} {ds:List (DataW H)} {ps:List MemPlace},
  DataW.TrodAll enc P W b sp held ts vs ds ps->(∀p∈ps,p.block<W.heap.size)->DataW.TrodAll enc P W' b sp held ts vs ds ps
 | [],[],[],_,h,_=>h
 | _::_,_::_,_::_,_,⟨p,q,⟨n,h1⟩,h2,e⟩,hl=>by
  subst e;refine ⟨p,q,⟨n,DataW.trod_carry n _ _ _ h1 λx hx=>?_⟩,rU h h2 (λx hx=>hl x (YB _ hx)),rfl⟩;have hb:=hl x (YQ _ hx);cases x with
  | cell b off=>exact qe (h.at hb)
  | map b=>exact h.at hb
theorem Eo (hl:laidOutB P=true) (hm:mapsRowed P=true) (hz:∀t e,t<P.types.size->P.underlying t=some (.slice e)->0<P.cellsOf e) {f:Func} {s:ChangeSpec} {W W':World} {args:Array Value} {ds gs:List (DataW H)} {before:List MemPlace} {tb:TypeId}
  (hts:∀t∈f.params.toList,t<P.types.size) (hv:s.vars=[]) (hb:P.underlying tb=some .bool) (hr:f.resultTypes=#[tb])
  (hW:DataW.Whole enc P f.params.toList s.vars false W args.toList ds gs before) (hf:Frm (λ_=>False) W W')
  (h1:(s.fn H (ds++gs)).results=[.lit (.bool true)]) (h2:(s.fn H (ds++gs)).args=ds) (h3:(s.fn H (ds++gs)).vars=[]) :
  s.post enc P f false true false false W args (.bool true) W':=by
 have hW':=hW;obtain ⟨p,q,hA,hV,rfl,hfz,hnd⟩:=hW;rw[hv] at hV;obtain ⟨rfl,rfl⟩:=trodVars_none hV;have hlt:∀x∈p,x.block<W.heap.size:=λx hx=>hA.lt x hx
 refine ⟨ds,[],p++[],[],p,[],hW',?_,?_,?_,hf.kept _,λh=>nomatch h⟩
 ·rw[h1,hr];exact trodAll_cons_mk (shut_bool hb _) trodAll_mk0
 ·rw[h2];exact rU hf (DataW.TrodAll.respare (kids_rows hl hm) hz hts hA (λx hx=>by simpa using hlt x hx)) hlt
 ·rw[h3,hv];rfl
end
end Go.Eng
namespace La
open Go Go.Eng Go.Proofs Go.Proofs.Tryz
theorem ZM:(prog).follows .mixedOrders=true:=by kernel_rfl
theorem own:ownKnob prog.godebug=none:=by kernel_rfl
theorem laid:laidOutB prog=true:=by kernel_rfl
theorem Mt:mapsRowed prog=true:=by kernel_rfl
theorem full:∀t e,t<prog.types.size->prog.underlying t=some (.slice e)->0<prog.cellsOf e:=slices_full_of _ w9
abbrev Fo (f:FuncId) (args:List AV) (X:AV):Prop:=aj Go.Proofs.Tryz.prog f args [] λr _=>r=X
end La
namespace La
def bsearch (lt:Nat->Bool):Nat->Nat->Nat->Nat
 | 0,lo,_=>lo
 | f+1,lo,hi=>if lo<hi then (if lt ((lo+hi) / 2) then bsearch lt f ((lo+hi) / 2+1) hi else bsearch lt f lo ((lo+hi) / 2)) else lo
theorem iV (lt:Nat->Bool):∀(f g lo hi:Nat),hi-lo<=f->hi-lo<=g->bsearch lt f lo hi=bsearch lt g lo hi
 | 0,0,_,_,_,_=>rfl
 | 0,g+1,lo,hi,h,_=>by
  unfold bsearch;rw[if_neg z8]
 | f+1,0,lo,hi,_,h=>by
  unfold bsearch;rw[if_neg z8]
 | f+1,g+1,lo,hi,h1,h2=>by
  unfold bsearch
  by_cases h:lo<hi
  ·rw[if_pos h,if_pos h]
   by_cases hl:lt ((lo+hi) / 2)=true
   ·rw[if_pos hl,if_pos hl];exact iV lt f g _ _ z8 z8
   ·rw[if_neg hl,if_neg hl];exact iV lt f g _ _ z8 z8
  ·rw[if_neg h,if_neg h]
theorem iW (lt:Nat->Bool) (n:Nat) (hmono:∀i j,i<=j->j<n->lt j=true->lt i=true):∀(f lo hi:Nat),hi-lo<=f->lo<=hi->hi<=n->(∀i,i<lo->lt i=true)->(∀i,hi<=i->i<n->lt i=false) ->
  bsearch lt f lo hi<=n/\(∀i,i<bsearch lt f lo hi->lt i=true)/\∀i,bsearch lt f lo hi<=i->i<n->lt i=false
 | 0,lo,hi,h,hle,hn,h1,h2=>by
  have:lo=hi:=by omega
  subst this;exact ⟨hn,h1,h2⟩
 | f+1,lo,hi,h,hle,hn,h1,h2=>by
  unfold bsearch
  by_cases hlt:lo<hi
  ·rw[if_pos hlt]
   by_cases hl:lt ((lo+hi) / 2)=true
   ·rw[if_pos hl];exact iW lt n hmono f _ _ z8 z8 hn (λi hi'=>hmono i ((lo+hi) / 2) z8 z8 hl) h2
   ·rw[if_neg hl];refine iW lt n hmono f _ _ z8 z8 z8 h1 λi hi1 hi2=>?_
    cases e:lt i with
    | false=>rfl
    | true=>exact absurd (hmono _ i hi1 hi2 e) hl
  ·rw[if_neg hlt];have:lo=hi:=by omega
   subst this;exact ⟨hn,h1,h2⟩
theorem lk (lt:Nat->Bool):∀(f lo hi:Nat),lo<=hi->lo<=bsearch lt f lo hi/\bsearch lt f lo hi<=hi
 | 0,lo,hi,h=>⟨W7 _,h⟩
 | f+1,lo,hi,h=>by
  unfold bsearch
  by_cases hlt:lo<hi
  ·rw[if_pos hlt];split
   ·have:=lk lt f ((lo+hi) / 2+1) hi z8;omega
   ·have:=lk lt f lo ((lo+hi) / 2) z8;omega
  ·rw[if_neg hlt];omega
def placeOf (l:List Node) (fid:Int):Nat:=bsearch (λi=>decide ((l.getD i default).fid<fid)) l.length 0 l.length
def bf (l:List Node) (fid:Int):Bool:=decide (placeOf l fid<l.length)&&decide ((l.getD (placeOf l fid) default).fid=fid)
def ak (l:List Node) (fid:Int):Option Node:=if bf l fid then some (l.getD (placeOf l fid) default) else none
def aI (l:List Node) (n:Node):List Node:=if bf l n.fid then l.set (placeOf l n.fid) n else l.take (placeOf l n.fid)++n::l.drop (placeOf l n.fid)
def eQ (l:List Node) (fid:Int):List Node:=l.filter λn=>!(n.fid==fid)
theorem lU (l:List Node) (fid:Int):placeOf l fid<=l.length:=(lk _ _ _ _ (Yp _)).2
def Up (l:List Node):Prop:=l.Pairwise λa b=>a.fid<b.fid
theorem Up.lt {l:List Node} (h:Up l) {i j:Nat} (hij:i<j) (hj:j<l.length):(l.getD i default).fid<(l.getD j default).fid:=by
 have:=Yx.1 h i j z8 hj hij;rw[List.getD_eq_getElem?_getD,List.getD_eq_getElem?_getD,Wz z8,Wz hj];exact this
theorem Up.place {l:List Node} (h:Up l) (fid:Int):(∀i,i<placeOf l fid->(l.getD i default).fid<fid)/\∀i,placeOf l fid<=i->i<l.length->fid<=(l.getD i default).fid:=by
 have:=iW (λi=>decide ((l.getD i default).fid<fid)) l.length (λi j hij hj hl=>by
  rcases Nat.lt_or_eq_of_le hij with h1 | rfl
  ·have:=h.lt h1 hj;have h2:=of_decide_eq_true hl;exact decide_eq_true z8
  ·exact hl) l.length 0 l.length z8 z8 (W7 _) (λi hi=>by omega) (λi h1 h2=>by omega)
 obtain ⟨_,h2,h3⟩:=this;exact ⟨λi hi=>of_decide_eq_true (h2 i hi),λi hi hl=>by have:=of_decide_eq_false (h3 i hi hl);omega⟩
theorem lB {l:List Node} {x:Node} {i:Nat} (h:l[i]? = some x):l.getD i default=x:=by rw[List.getD_eq_getElem?_getD,h];rfl
theorem ZO {l:List Node} (h:Up l) {fid:Int} {x:Node}:ak l fid=some x↔x∈l/\x.fid=fid:=by
 obtain ⟨p1,p2⟩:=h.place fid;unfold ak bf;constructor
 ·intro hf;split at hf
  ·rename_i hc;rw[Bool.and_eq_true] at hc;have h1:=of_decide_eq_true hc.1;have h2:=of_decide_eq_true hc.2;injection hf with hf
   subst hf;exact ⟨YG h1,h2⟩
  ·cases hf
 ·rintro ⟨hx,rfl⟩;obtain ⟨i,hi⟩:=W9 hx;have hil:i<l.length:=(W6.1 hi).1;have hix:=lB hi;have hpi:placeOf l x.fid=i:=by
   rcases Nat.lt_trichotomy (placeOf l x.fid) i with h1 | h1 | h1
   ·have:=p2 _ (W7 _) z8;have h3:=h.lt h1 hil;rw[hix] at h3;omega
   ·exact h1
   ·have:=p1 i h1;rw[hix] at this;omega
  rw[hpi,hix,if_pos (by simp[hil])]
theorem eS {l:List Node} (h:Up l) {fid:Int}:ak l fid=none↔∀x,x∈l->x.fid≠fid:=by
 constructor
 ·intro hf x hx hxf;rw[(ZO h).2 ⟨hx,hxf⟩] at hf;cases hf
 ·intro hf;cases e:ak l fid with
  | none=>rfl
  | some x=>
   obtain ⟨h1,h2⟩:=(ZO h).1 e;exact absurd h2 (hf x h1)
theorem bt {l:List Node} (h:Up l) (n:Node):Up (aI l n)/\∀x,x∈aI l n↔x=n\/(x∈l/\x.fid≠n.fid):=by
 obtain ⟨p1,p2⟩:=h.place n.fid;have hle:=lU l n.fid;unfold aI;generalize hp:placeOf l n.fid=p at *;have hmem:∀x,x∈l↔x∈l.take p\/x∈l.drop p:=λx=>by
  have:=List.mem_append (a:=x) (s:=l.take p) (t:=l.drop p);rw[List.take_append_drop] at this;exact this
 have ht:∀x,x∈l.take p->x.fid<n.fid:=λx hx=>by
  obtain ⟨i,hi⟩:=W9 hx;rw[YU] at hi;split at hi
  ·rename_i hip;have:=p1 i hip
   rwa [lB hi] at this
  ·cases hi
 have hd:∀x,x∈l.drop p->n.fid<=x.fid:=λx hx=>by
  obtain ⟨i,hi⟩:=W9 hx;rw[List.getElem?_drop] at hi;have:=p2 (p+i) z8 (W6.1 hi).1
  rwa [lB hi] at this
 by_cases hat:bf l n.fid=true
 ·rw[if_pos hat];unfold bf at hat;rw[Bool.and_eq_true] at hat;have hpl:p<l.length:=by have:=of_decide_eq_true hat.1;omega
  have hpf:(l.getD p default).fid=n.fid:=by have:=of_decide_eq_true hat.2;rw[hp] at this;exact this
  have aG:l.set p n=l.take p++n::l.drop (p+1):=by
   rw[List.set_eq_take_append_cons_drop,if_pos hpl]
  have hdd:l.drop p=l.getD p default::l.drop (p+1):=cr hpl;have hd1:∀x,x∈l.drop (p+1)->n.fid<x.fid:=λx hx=>by
   obtain ⟨i,hi⟩:=W9 hx;rw[List.getElem?_drop] at hi;have:=h.lt (i:=p) (j:=p+1+i) z8 (W6.1 hi).1;rw[lB hi,hpf] at this;exact this
  rw[aG];refine ⟨?_,λx=>?_⟩
  ·refine List.pairwise_append.2 ⟨h.sublist (List.take_sublist _ _),List.pairwise_cons.2 ⟨hd1,h.sublist (List.drop_sublist _ _)⟩,λa ha b hb=>?_⟩
   rcases List.mem_cons.1 hb with rfl | hb
   ·exact ht a ha
   ·have:=ht a ha;have:=hd1 b hb;omega
  ·rw[hmem,hdd];simp only[List.mem_append,List.mem_cons];constructor
   ·rintro (h1 | h1 | h1)
    ·exact .inr ⟨.inl h1,by have:=ht x h1;omega⟩
    ·exact .inl h1
    ·exact .inr ⟨.inr (.inr h1),by have:=hd1 x h1;omega⟩
   ·rintro (h1 | ⟨h1 | rfl | h1,h2⟩)
    ·exact .inr (.inl h1)
    ·exact .inl h1
    ·exact absurd hpf h2
    ·exact .inr (.inr h1)
 ·rw[if_neg hat];have hd1:∀x,x∈l.drop p->n.fid<x.fid:=λx hx=>by
   obtain ⟨i,hi⟩:=W9 hx;rw[List.getElem?_drop] at hi;have hil:p+i<l.length:=(W6.1 hi).1;have h0:¬(l.getD p default).fid=n.fid:=by
    intro e
    apply hat
    unfold bf;rw[hp,Bool.and_eq_true];exact ⟨decide_eq_true z8,decide_eq_true e⟩
   have h1:=p2 p (W7 _) z8
   by_cases hi0:i=0
   ·subst hi0;rw[Nat.add_zero] at hi;rw[lB hi] at h0 h1;omega
   ·have:=h.lt (i:=p) (j:=p+i) z8 hil;rw[lB hi] at this;omega
  refine ⟨?_,λx=>?_⟩
  ·refine List.pairwise_append.2 ⟨h.sublist (List.take_sublist _ _),List.pairwise_cons.2 ⟨hd1,h.sublist (List.drop_sublist _ _)⟩,λa ha b hb=>?_⟩
   rcases List.mem_cons.1 hb with rfl | hb
   ·exact ht a ha
   ·have:=ht a ha;have:=hd1 b hb;omega
  ·rw[hmem];simp only[List.mem_append,List.mem_cons];constructor
   ·rintro (h1 | h1 | h1)
    ·exact .inr ⟨.inl h1,by have:=ht x h1;omega⟩
    ·exact .inl h1
    ·exact .inr ⟨.inr h1,by have:=hd1 x h1;omega⟩
   ·rintro (h1 | ⟨h1 | h1,h2⟩)
    ·exact .inr (.inl h1)
    ·exact .inl h1
    ·exact .inr (.inr h1)
theorem ir {l:List Node} (h:Up l) (fid:Int):Up (eQ l fid)/\∀x,x∈eQ l fid↔x∈l/\x.fid≠fid:=
 ⟨h.sublist Yw,λx=>by unfold eQ;rw[YI];simp⟩
theorem B4 {l:List Node} (h:Up l) (n:Node):ak (aI l n) n.fid=some n:=by
 obtain ⟨h1,h2⟩:=bt h n;exact (ZO h1).2 ⟨(h2 n).2 (.inl rfl),rfl⟩
theorem B5 {l:List Node} (h:Up l) (n:Node) {other:Int} (ho:other≠n.fid):ak l other=ak (aI l n) other:=by
 obtain ⟨h1,h2⟩:=bt h n;cases e:ak l other with
 | none=>
  symm
  rw[eS h1];intro x hx
  rcases (h2 x).1 hx with rfl | ⟨hx,_⟩
  ·exact Ne.symm ho
  ·exact (eS h).1 e x hx
 | some x=>
  obtain ⟨k1,k2⟩:=(ZO h).1 e
  symm
  exact (ZO h1).2 ⟨(h2 x).2 (.inr ⟨k1,by rw[k2];exact ho⟩),k2⟩
end La
namespace Go.Eng
section
variable {P:Program} {T:Tab} {C:Ctx} {σ σ':St} {Ret:St->Prop} {k:List It}
theorem Dq:∀H,sub [] H=[]
 | []=>rfl
 | p::r=>by simp[sub,Dq r]
theorem CW:∀H,del [] H=H
 | []=>rfl
 | p::r=>by simp[del,CW r]
theorem D4 (l:List AV):l.map (iR [])=l:=by
 have:iR []=id:=by funext x;simp[iR]
 rw[this,List.map_id]
theorem ib {ops:Array Oper} {Q:Exit->Act->World->Prop} {k n:Nat} {acc:dA} {o:Oper} {l:List Oper} {c:Operand} {args:Array Operand} {ats:Array TypeId} (off:Nat) (ho:o.op=.call { callee:=.value c,args,argTypes:=ats }) (hg:o.guard=none) {p:Prop} {f:FuncId} {xs:List AV}
  (h:az σ c args.toList=some (p,f,xs)) (hp:p) (hc:aJ P f) (hx:aB xs=[]) {K:List (Nat×Blk)} {r:AV} (hf:aj P f xs [] λr' H'=>r'=r/\∀id b,aa K id=some b->aa H' id=some b) (hc3:closed K (refs r)=true)
  {r2:AV} (hr:ren off r=r2) {K2:List (Nat×Blk)} (hK:sg off K=K2) (hn:(K2.all λb=>(aa σ.hp b.1).isNone)=true)
  {sk:List Loc×List Loc} (hs:((Sp.mk o.dst r2 K2 (cd ops o.guard++(fV σ c++aQ σ args.toList))).wr,cd ops o.guard++(fV σ c++aQ σ args.toList))=sk)
  (ha:St.put ⟨σ.tm,K2++σ.hp⟩ o.dst r2=σ') (hk:an P C ops Q k n (acc++[sk]) l σ'):an P C ops Q k n acc (o::l) σ:=by
 subst hr hK;refine pS (q:=⟨o.dst,ren off r,sg off K,cd ops o.guard++(fV σ c++aQ σ args.toList)⟩) ?_ (λb hb _=>?_) (by rw[<-hs]) (by rw[<-ha];rfl) hk
 ·intro s hagree hfree a w Kp Q' hr hKp;have hg':guardOf ops s o.guard=some true:=by rw[hg];rfl
  obtain ⟨μ,S,hi⟩:=hr;rw[bs hi hg'];refine .inl ?_;refine uQ ho (by rw[dQ (λx hx=>hagree x (YB _ hx))];exact h) hp hc [] off (H:=[]) (K:=K) (r:=r) (Dq _) (by rw[hx];rfl) rfl w8 hc3 ?_ hf ?_ a w Kp Q' ⟨μ,S,hi⟩ hKp
  ·rw[List.all_eq_true];intro q hq;have hm:(q.1+off,B8 off q.2)∈sg off K:=W5.2 ⟨q,hq,rfl⟩;have h0:aa s.hp (q.1+off)=none:=by
    by_cases h:Loc.blk (q.1+off)∈cd ops o.guard++(fV σ c++aQ σ args.toList)
    ·have h1:=List.all_eq_true.1 hn _ hm;have h2:aa σ.hp (q.1+off)=none:=by simpa using h1
     exact (hagree _ h).trans h2
    ·exact hfree _ hm h
   rw[h0];rfl
  ·rw[D4,CW];rfl
 ·have:=List.all_eq_true.1 hn b hb;simpa using this
theorem le_empty (id e s:Nat) (hf:aa σ.hp id=none):Le C σ ⟨σ.tm,(id,.cells e s [])::σ.hp⟩:=by
 rintro a w ⟨μ,S,hi⟩;refine ⟨μ,S,hi.size,hi.defers,hi.tm,λi b hb=>?_,λi q hq=>?_,hi.inj,hi.frm,hi.sb⟩
 ·simp only[aa] at hb;split at hb
  ·rename_i h1;injection hb with hb
   subst h1 hb;exact .inl ⟨rfl,hi.fresh hf⟩
  ·exact hi.hp i b hb
 ·obtain ⟨⟨b,h1⟩,h2⟩:=hi.dom i q hq;refine ⟨?_,h2⟩;simp only[aa];split
  ·exact ⟨_,rfl⟩
  ·exact ⟨b,h1⟩
theorem aY (ref id:Nat) {e s:Nat} {rows rows':List (List AV)} (hb:aa σ.hp id=some (.cells e s rows)) (hr:rows.map (λrow=>row.map (kill ref))=rows'):Le C σ ⟨σ.tm,aG σ.hp id (.cells e s rows')⟩:=by
 subst hr;rintro a w ⟨μ,S,hi⟩;refine ⟨μ,S,hi.size,hi.defers,hi.tm,λi b hb'=>?_,λi q hq=>?_,hi.inj,hi.frm,hi.sb⟩
 ·simp only[ai] at hb';split at hb'
  ·rename_i h1;injection hb' with hb'
   subst h1 hb'
   rcases hi.hp id _ hb with ⟨rfl,k2⟩ | ⟨g,c,k1,k2,k3,k4,k5⟩
   ·exact .inl ⟨by simp,k2⟩
   ·refine .inr ⟨g,c,k1,k2,by rw[List.length_map];exact k3,λrow hrow=>?_,λi row hi' q x hx=>?_⟩
    ·obtain ⟨r0,h0,rfl⟩:=W5.1 hrow;rw[List.length_map];exact k4 r0 h0
    ·rw[W2] at hi';cases e0:rows[i]? with
     | none=>rw[e0] at hi';cases hi'
     | some r0=>
      rw[e0] at hi';simp only[Option.map_some,gL] at hi';subst hi';rw[W2] at hx;cases e1:r0[q]? with
      | none=>rw[e1] at hx;cases hx
      | some y=>
       rw[e1] at hx;simp only[Option.map_some,gL] at hx;subst hx;unfold kill;split
       ·exact .any _
       ·exact k5 i r0 e0 q y e1
  ·exact hi.hp i b hb'
 ·obtain ⟨⟨b,h1⟩,h2⟩:=hi.dom i q hq;refine ⟨?_,h2⟩;simp only[ai];split
  ·exact ⟨_,rfl⟩
  ·exact ⟨b,h1⟩
theorem aj.jb {f:FuncId} {args:List AV} {H:List (Nat×Blk)} {X Y:AV} (h:aj P f args H λr _=>r=X) (hn:Eng.nrm X=Y):aj P f args H λr _=>r=Y:=by
 subst hn;intro R0 μ w0 vs hl ha hH hR;refine (h R0 μ w0 vs hl ha hH hR).mono ?_;rintro e' w' ⟨v,r,H',μ',S',rfl,rfl,h4,h5⟩;exact ⟨v,_,H',μ',S',rfl,rfl,h4.nrm,h5⟩
structure Sim (σ τ:St):Prop where
 tm:σ.tm=τ.tm
 hp:∀id,aa σ.hp id=aa τ.hp id
theorem Sim.app {σ τ:St} (h:Sim σ τ) (p:Sp):Sim (p.app σ) (p.app τ):=by
 refine ⟨?_,λid=>?_⟩
 ·unfold Sp.app St.put;cases p.dst<;>simp[h.tm]
 ·unfold Sp.app;rw[St.hY,St.hY]
  show aa (p.new++σ.hp) id=aa (p.new++τ.hp) id
  rw[aA,aA,h.hp id]
theorem Sim.db {σ τ:St}:∀(ps:List Sp),Sim σ τ->Sim (Eng.db ps σ) (Eng.db ps τ):=λps=>by
 induction ps generalizing σ τ with
 | nil=>exact id
 | cons p r ih=>exact λh=>ih (h.app p)
theorem Sim.agree {σ τ s:St} (h:Sim σ τ) {x:Loc} (hx:bn σ s x):bn τ s x:=by
 cases x with
 | tm t=>show _=_;rw[<-h.tm];exact hx
 | blk id=>show _=_;rw[<-h.hp];exact hx
theorem Sim.rob {σ τ:St} (h:Sim σ τ) {ops:Array Oper} {o:Oper} {p:Sp} (hr:Rob P C ops o p τ):Rob P C ops o p σ:=λs ha hf=>hr s (λx hx=>h.agree (ha x hx)) hf
theorem Sim.chain {ops:Array Oper}:∀(l:List Oper) (ps:List Sp) {σ τ:St},Sim σ τ->dP P C ops l ps τ->dP P C ops l ps σ
 | [],[],_,_,_,h=>h
 | _::l,p::ps,_,_,h,hr=>⟨h.rob hr.1,Sim.chain l ps (h.app p) hr.2⟩
 | [],_::_,_,_,_,h=>h
 | _::_,[],_,_,_,h=>h
theorem Sim.fresh:∀(ps:List Sp) {σ τ:St},Sim σ τ->dw ps τ->dw ps σ
 | [],_,_,_,h=>h
 | p::ps,_,_,h,hf=>⟨λb hb hn=>by rw[h.hp];exact hf.1 b hb hn,Sim.fresh ps (h.app p) hf.2⟩
theorem bp.sim {ops:Array Oper} {Q:Exit->Act->World->Prop} {k:Nat} {σ τ:St} (h:Sim σ τ) (hd:bp P C ops Q k τ):bp P C ops Q k σ:=λa w hr=>
 hd a w (jO (by rw[h.tm]) (λt=>by rw[h.tm]) h.hp a w hr)
theorem an.sim {ops:Array Oper} {Q:Exit->Act->World->Prop} {k n:Nat} {acc:dA} {l:List Oper} {σ τ:St} (h:Sim σ τ) (hs:an P C ops Q k n acc l τ):an P C ops Q k n acc l σ:=by
 obtain ⟨l1,l2,ps,h1,h2,h3,h4,h5,h6⟩:=hs;exact ⟨l1,l2,ps,h1,h2,h.chain _ _ h3,h.fresh _ h4,h5,bp.sim (h.db ps) h6⟩
theorem ey (hT:TabOK P T) {ops:Array Oper} {Q:Exit->Act->World->Prop} {k n:Nat} {acc:dA} {o:Oper} {l:List Oper} {t:TypeId} {x y:Operand} (ho:o.op=.store t x y) (hd:o.dst=none) (hg:guardOf ops σ o.guard=some true) {id size row off:Nat} (hx:evS σ x=(True,.ptr id size row off))
  {q:Prop} {v:AV} (hy:evS σ y=(q,v)) (hq:q) {p:Prop} {H:List (Nat×Blk)} (h:gN T σ t (.ptr id size row off) v=some (p,H)) (hp:p) {b:Blk} (hH:aa H id=some b)
  {sk:List Loc×List Loc} (hs:([Loc.blk id],cd ops o.guard++(aQ σ [x,y]++[Loc.blk id]))=sk) (ha:(⟨σ.tm,aG σ.hp id b⟩:St)=σ') (hk:an P C ops Q k n (acc++[sk]) l σ'):an P C ops Q k n acc (o::l) σ:=by
 subst hs ha;have hform:H=aG σ.hp id b:=by
  unfold gN at h;split at h
  ·rename_i id' size' row' off' xs heq1 heq2;injection heq1 with e1 e2 e3 e4
   subst e1 e2 e3 e4;split at h
   ·split at h
    ·simp only[gL,gM] at h;obtain ⟨_,rfl⟩:=h;rw[ai,if_pos rfl] at hH;injection hH with hH
     rw[hH]
    ·cases h
   ·cases h
  ·cases h
 refine pS (q:=⟨none,.any,[(id,b)],cd ops o.guard++(aQ σ [x,y]++[Loc.blk id])⟩) (σ':=Sp.app ⟨none,.any,[(id,b)],cd ops o.guard++(aQ σ [x,y]++[Loc.blk id])⟩ σ) ?_ (λc hc hn=>?_) rfl rfl ?_
 ·intro s hagree _ a w K Q' hr hK;have hg':guardOf ops s o.guard=some true:=by rw[ix (λx hx=>hagree x (YQ _ hx))];exact hg
  obtain ⟨μ,S,hi⟩:=hr;rw[bs hi hg'];refine .inl ?_;have hl:∀z,z∈aQ σ [x,y]->bn σ s z:=λz hz=>hagree z (YB _ (YQ _ hz))
  have hx':evS s x=(True,.ptr id size row off):=by rw[ct (λz hz=>hl z (dh w8 z hz))];exact hx
  have hy':evS s y=(q,v):=by rw[ct (λz hz=>hl z (dh w8 z hz))];exact hy
  have hb:aa s.hp id=aa σ.hp id:=hagree (.blk id) (YB _ (YB _ w8));have hst:gN T s t (.ptr id size row off) v=some (p,aG s.hp id b):=by
   unfold gN at h ⊢;split at h
   ·rename_i id' size' row' off' xs heq1 heq2;injection heq1 with e1 e2 e3 e4
    subst e1 e2 e3 e4;rw[hb];split at h
    ·split at h
     ·simp only[gL,gM] at h;obtain ⟨rfl,rfl⟩:=h;rw[ai,if_pos rfl] at hH;injection hH with hH
      subst hH;rw[if_pos (by assumption)]
     ·cases h
    ·cases h
   ·cases h
  have hstep:eE T s o.dst o.op=some ((evS s x).1/\(evS s y).1/\p,⟨s.tm,aG s.hp id b⟩):=by
   rw[ho,hd]
   show (gN T s t (evS s x).2 (evS s y).2).map _=_
   rw[hx',hy',hst];rfl
  have hnd:(St.mk s.tm (aG s.hp id b)).hp=aG s.hp id b:=rfl;refine cn hT o hstep ⟨by rw[hx'];trivial,by rw[hy'];exact hq,hp⟩ a w K Q' ⟨μ,S,hi⟩ λa' w' hr'=>hK a' w' ?_
  show Rel C ⟨s.tm,(id,b)::s.hp⟩ a' w'
  refine jO (s:=⟨s.tm,aG s.hp id b⟩) (s':=⟨s.tm,(id,b)::s.hp⟩) rfl (λt=>rfl) (λi=>?_) a' w' hr'
  show aa (aG s.hp id b) i=aa ((id,b)::s.hp) i
  rw[ai];rfl
 ·have hc':=List.mem_singleton.1 hc;subst hc';exact absurd (YB _ (YB _ w8)) hn
 ·refine an.sim (τ:=⟨σ.tm,aG σ.hp id b⟩) ⟨rfl,λi=>?_⟩ hk
  show aa ((id,b)::σ.hp) i=aa (aG σ.hp id b) i
  rw[ai];rfl
end
end Go.Eng
namespace Go.Eng
section
variable {P:Program} {T:Tab} {C:Ctx} {μ:Nat->Option Nat} {S:Nat->Prop} {σ σ':St} {a:Act} {w:World} {Ret:St->Prop} {k:List It}
def eqT (T:Tab):List TypeId->List AV->List AV->Option Bool
 | [],[],[]=>some true
 | t::ts,.int k x::a,.int k' y::b=>match T.und t with
  | .int _=>if k=k' then (eqT T ts a b).map λr=>x==y&&r else none
  | _=>none
 | t::ts,.bool x::a,.bool y::b=>match T.und t with
  | .bool=>(eqT T ts a b).map λr=>x==y&&r
  | _=>none
 | t::ts,.str x::a,.str y::b=>match T.und t with
  | .str=>(eqT T ts a b).map λr=>x==y&&r
  | _=>none
 | _,_,_=>none
def jk:List Field->Nat->List TypeId->Bool
 | [],_,[]=>true
 | f::fs,j,t::ts=>f.name != "_" && f.offset==j&&f.type==t&&jk fs (j+1) ts
 | _,_,_=>false
def tD (P:Program) (t:TypeId) (tys:List TypeId):Bool:=
 match P.underlying t with
 | some (.struct F)=>!P.stoodInHeld t&&!P.eqGuardType P.depth t&&jk F.toList 0 tys
 | _=>false
theorem yp (hT:TabOK P T) {xs ys:Array Value} {A B:List AV} (hsx:xs.size=A.length) (hsy:ys.size=B.length) (hx:∀j x,A[j]? = some x->Rd μ S w (xs.getD j undef) x) (hy:∀j x,B[j]? = some x->Rd μ S w (ys.getD j undef) x) (d:Nat) :
  ∀(fs:List Field) (j:Nat) (ts:List TypeId) (r:Bool),jk fs j ts=true->eqT T ts (A.drop j) (B.drop j)=some r->(Op.eqFields (d+1) xs ys fs).run P w=.ok r w:=by
 intro fs
 induction fs with
 | nil=>
  intro j ts r h he;cases ts with
  | nil=>
   cases hA:A.drop j<;>cases hB:B.drop j<;>rw[hA,hB] at he<;>simp only[eqT,gL,reduceCtorEq] at he;subst he;simp[Op.eqFields]
  | cons t ts=>simp[jk] at h
 | cons f fs ih=>
  intro j ts r h he;cases ts with
  | nil=>simp[jk] at h
  | cons t ts=>
   simp only[jk,Bool.and_eq_true,bne_iff_ne,ne_eq,beq_iff_eq] at h;obtain ⟨⟨⟨h1,h2⟩,h3⟩,h4⟩:=h;subst h2 h3;cases hA:A.drop f.offset with
   | nil=>rw[hA] at he;cases hB:B.drop f.offset<;>rw[hB] at he<;>simp[eqT] at he
   | cons p A'=>
    cases hB:B.drop f.offset with
    | nil=>rw[hA,hB] at he;cases p<;>simp[eqT] at he
    | cons q B'=>
     have hA1:A[f.offset]? = some p:=by have:=congrArg (λl=>l[0]?) hA;simpa using this
     have hB1:B[f.offset]? = some q:=by have:=congrArg (λl=>l[0]?) hB;simpa using this
     have hA2:A.drop (f.offset+1)=A':=by rw[<-List.drop_drop,hA];rfl
     have hB2:B.drop (f.offset+1)=B':=by rw[<-List.drop_drop,hB];rfl
     have hAl:f.offset<A.length:=(W6.1 hA1).1;have hBl:f.offset<B.length:=(W6.1 hB1).1;have hpx:∀b,(T.und f.type).isA=some b->b=false->(part f.type xs f.offset).run P w=.ok (xs.getD f.offset undef) w:=λb hb hf=>by
      subst hf;simp[part,kM hT hb,hsx,hAl,Array.getD_eq_getD_getElem?]
     have hpy:∀b,(T.und f.type).isA=some b->b=false->(part f.type ys f.offset).run P w=.ok (ys.getD f.offset undef) w:=λb hb hf=>by
      subst hf;simp[part,kM hT hb,hsy,hBl,Array.getD_eq_getD_getElem?]
     have rx:=hx _ _ hA1;have ry:=hy _ _ hB1;have hk:=hT.und f.type;have ih':=λr' he'=>ih (f.offset+1) ts r' h4 he'
     rw[hA2,hB2] at ih';rw[hA,hB] at he;cases hu:T.und f.type<;>rw[hu] at hk<;>cases p<;>cases q<;>simp only[eqT,hu,reduceCtorEq] at he
     ·obtain ⟨r0,h0,rfl⟩:=YV.1 he;have e1:=rx.eU;have e2:=ry.eU;simp only[Op.eqFields,h1,not_false_eq_true,if_true,ne_eq,Sem.run_bind,hpx false Wb rfl,hpy false Wb rfl,Result.andThen_ok,e1,e2,run_equalIn_bool' w d f.type _ _ hk];rename_i b1 b2;cases hb:(b1==b2)
      ·simp
      ·simp[ih' r0 h0]
     ·split at he
      ·rename_i hkk;obtain ⟨r0,h0,rfl⟩:=YV.1 he;have e1:=rx.aL;have e2:=ry.aL;subst hkk;simp only[Op.eqFields,h1,not_false_eq_true,if_true,ne_eq,Sem.run_bind,hpx false Wb rfl,hpy false Wb rfl,Result.andThen_ok,e1,e2,run_equalIn_int w d f.type _ _ _ _ hk];rename_i b1 b2;cases hb:(b1==b2)
       ·simp
       ·simp[ih' r0 h0]
      ·cases he
     ·obtain ⟨r0,h0,rfl⟩:=YV.1 he;obtain ⟨s1,e1,q1⟩:=rx.fG;obtain ⟨s2,e2,q2⟩:=ry.fG;subst q1 q2;simp only[Op.eqFields,h1,not_false_eq_true,if_true,ne_eq,Sem.run_bind,hpx false Wb rfl,hpy false Wb rfl,Result.andThen_ok,e1,e2,run_equalIn_string w d f.type _ _ hk,ByteArray.toList_eq];cases hb:(s1.data.toList==s2.data.toList)
      ·simp
      ·simp[ih' r0 h0]
theorem EY (hT:TabOK P T) {t:TypeId} {tys:List TypeId} (hc:tD P t tys=true) {ox oy:Operand} {v u:Value} {A B:List AV} {r:Bool} (h:eqT T tys A B=some r) (hv:Rd μ S w v (.agg A)) (hu:Rd μ S w u (.agg B)) {op:BinOp} {q:Bool} (hop:(op=.eql/\q=r)\/(op=.neq/\q=!r)) :
  (do eqGuard op t ox oy v u;binOp op t v u:Sem Value).run P w=.ok (.bool q) w:=by
 obtain ⟨xs,rfl,hxl,hxr⟩:=hv.nC;obtain ⟨ys,rfl,hyl,hyr⟩:=hu.nC;unfold tD at hc;split at hc
 ·rename_i F hF;simp only[Bool.and_eq_true,Yb] at hc;obtain ⟨⟨h1,h2⟩,h3⟩:=hc;have hfo:P.fieldsOf t=F:=by simp[Program.fieldsOf,hF]
  have key:=yp (P:=P) (w:=w) hT hxl hyl hxr hyr 9998 F.toList 0 tys r h3 x7;have key2:(Op.equalIn 10000 t (.agg xs) (.agg ys)).run P w=.ok r w:=by
   rw[run_equalIn_struct w 9999 t xs ys (by rw[hfo];exact hF) h1,hfo];exact key
  rcases hop with ⟨rfl,rfl⟩ | ⟨rfl,rfl⟩
  ·simp[run_eqGuard_agg w .eql t ox oy xs ys h2,run_eql_struct w t xs ys,key2]
  ·simp[run_eqGuard_agg w .neq t ox oy xs ys h2,run_neq_struct w t xs ys,key2]
 ·cases hc
theorem uS (hT:TabOK P T) {o:Oper} {op:BinOp} {t ty:TypeId} {x y:Operand} (ho:o.op=.binOp op t x y ty) {tys:List TypeId} (hc:tD P t tys=true) {A B:List AV} {r:Bool} (hx:evS σ x=(True,.agg A)) (hy:evS σ y=(True,.agg B)) (h:eqT T tys A B=some r)
  {q:Bool} (hop:(op=.eql/\q=r)\/(op=.neq/\q=!r)):eP P C o σ (σ.put o.dst (.bool q)):=by
 refine ec λμ S a w hi=>?_
 have hv:=hi.evS x u7;have hu:=hi.evS y Qk;rw[hx] at hv;rw[hy] at hu;refine ⟨.bool q,?_,.pure (.bool _)⟩;have:=EY (ox:=x) (oy:=y) hT hc h hv hu hop;simp only[execOp,ho];have e:(do eqGuard op t x y (a.eval x) (a.eval y);binOp op t (a.eval x) (a.eval y):Sem Value).run P w=.ok (.bool q) w:=this;simp only[Sem.run_bind] at e ⊢
 revert e
 generalize (eqGuard op t x y (a.eval x) (a.eval y)).run P w=z;intro e;rw[e];rfl
attribute [go_sem] eqT
end
end Go.Eng
namespace Go.Eng
section
variable {P:Program} {T:Tab} {C:Ctx} {μ:Nat->Option Nat} {S:Nat->Prop} {σ σ':St} {a:Act} {w w':World} {Ret:St->Prop} {k:List It}
end
end Go.Eng
namespace Go.Eng
section
variable {P:Program} {T:Tab} {C:Ctx} {μ:Nat->Option Nat} {S:Nat->Prop} {σ σ':St} {Ret:St->Prop} {k:List It}
def pins (ids:List Nat) (G Y N:Nat->Nat):List (Nat×Blk):=ids.map λi=>(5000+i,.pin i (G i) (Y i) (N i))
theorem gX (G Y N:Nat->Nat) (i:Nat):∀(ids:List Nat),aa (pins ids G Y N) i=if 5000<=i/\ids.contains (i-5000)=true then some (.pin (i-5000) (G (i-5000)) (Y (i-5000)) (N (i-5000))) else none
 | []=>by simp[pins,aa]
 | j::r=>by
  have ih:=gX G Y N i r;simp only[pins,List.map_cons,aa] at ih ⊢
  by_cases e:5000+j=i
  ·subst e;rw[if_pos rfl,if_pos ⟨by omega,by rw[Yk];simp⟩,Yk]
  ·rw[if_neg e,ih]
   by_cases h:5000<=i
   ·have hne:i-5000≠j:=by omega
    simp only[h,true_and,List.contains_cons];simp[hne]
   ·rw[if_neg (λhh=>h hh.1),if_neg (λhh=>h hh.1)]
theorem dc (i:Nat):∀(K H:List (Nat×Blk)),(K.map (·.1)).Nodup->aa (bS H K) i=if (aa K i).isSome=true then aa K i else aa H i
 | [],H,_=>by simp[bS,aa]
 | (j,b)::r,H,hn=>by
  simp only[List.map_cons,List.nodup_cons] at hn;simp only[bS,aa];rw[dc i r _ hn.2,ai]
  by_cases e:j=i
  ·subst e;have h0:aa r j=none:=by
    cases h:aa r j with
    | none=>rfl
    | some c=>exact absurd (W5.2 ⟨_,aP h,rfl⟩) hn.1
   simp[h0]
  ·simp[e]
def eW:Blk->Bool
 | .cells _ s rows=>!rows.isEmpty&&s != 0
 | .map _=>true
 | _=>false
theorem B3 {w:World} {id:Nat} {b:Blk} (h:cR μ S w id b) (hp:eW b=true):∃g t n,μ id=some g/\ag w g=qM t n:=by
 cases b with
 | cells e s rows=>
  simp only[eW,Bool.and_eq_true,Yb,List.isEmpty_eq_false_iff,bne_iff_ne] at hp
  rcases h with ⟨rfl,_⟩ | ⟨g,c,h1,h2,h3,_⟩
  ·exact absurd rfl hp.1
  ·refine ⟨g,e,c.size,h1,?_⟩;have hpos:0<rows.length:=by
    rcases Nat.eq_zero_or_pos rows.length with h | h
    ·exact absurd (List.eq_nil_of_length_eq_zero h) hp.1
    ·exact h
   have:0<rows.length*s:=Nat.mul_pos hpos (Nat.pos_of_ne_zero hp.2);unfold ag qM;rw[h2,if_neg z8];rfl
 | map kvs=>
  obtain ⟨g,es,clk,vals,h1,h2,_⟩:=h;refine ⟨g,0,0,h1,?_⟩;unfold ag qM;rw[h2];rfl
 | iter kvs seen=>cases hp
 | cap id s N=>cases hp
 | pin id g t n=>cases hp
theorem eb {o:Oper} {c:Operand} {args:Array Operand} {ats:Array TypeId} (ho:o.op=.call { callee:=.value c,args,argTypes:=ats }) {p:Prop} {f:FuncId} {xs:List AV}
  (h:az σ c args.toList=some (p,f,xs)) (hp:p) (hc:aJ P f) (ids:List Nat) {H K:List (Nat×Blk)} {r:AV} (hH:sub ids σ.hp=H)
  (hck:((aB xs).all ids.contains&&(refs r).all ids.contains&&ids.all (λi=>decide (i<5000)&&(aa K i).isSome)&&K.all (λq=>ids.contains q.1))=true) (hnd:(K.map (·.1)).Nodup)
  (hpin:(ids.all λi=>match aa H i with | some b=>eW b | none=>false)=true) (hc1:(H.all λq=>(ay q.2).all ids.contains)=true) (hc2:(K.all λq=>(ay q.2).all ids.contains)=true)
  (hf:∀G Y N:Nat->Nat,aj P f xs (H++pins ids G Y N) λr' H'=>r'=r/\∀i b,aa (K++pins ids G Y N) i=some b->aa H' i=some b) {τ:St} (hτ:(⟨σ.tm,bS σ.hp K⟩:St).put o.dst r=τ):eP P C o σ τ:=by
 subst hH hτ;simp only[Bool.and_eq_true] at hck;obtain ⟨⟨⟨hx,hr⟩,hi1⟩,hK1⟩:=hck;have hxr:∀i,i∈aB xs->ids.contains i=true:=λi h=>List.all_eq_true.1 hx i h
 have hrr:∀i,i∈refs r->ids.contains i=true:=λi h=>List.all_eq_true.1 hr i h
 have hid:∀i,ids.contains i=true->i<5000/\∃b,aa K i=some b:=λi h=>by
  have:=List.all_eq_true.1 hi1 i x7;rw[Bool.and_eq_true,decide_eq_true_eq] at this;exact ⟨this.1,Yd.1 this.2⟩
 have hKi:∀i b,aa K i=some b->ids.contains i=true:=λi b h=>List.all_eq_true.1 hK1 _ (aP h)
 intro a w Kp Q ⟨μ,S,hi⟩ hKp;obtain ⟨vs,h1,h2,h3⟩:=jj hi ho h hp hc;unfold Oper.wp;rw[h3];have hpn:∀i,∃g t n,ids.contains i=true->μ i=some g/\ag w g=qM t n:=λi=>by
  by_cases e:ids.contains i=true
  ·have:=List.all_eq_true.1 hpin i Wv;cases e2:aa (sub ids σ.hp) i with
   | none=>rw[e2] at this;cases this
   | some b=>
    rw[e2] at this;have e3:aa σ.hp i=some b:=by
     rw[cB,if_pos e] at e2;exact e2
    obtain ⟨g,t,n,k1,k2⟩:=B3 (hi.hp i b e3) this;exact ⟨g,t,n,λ_=>⟨k1,k2⟩⟩
  ·exact ⟨0,0,0,λh=>absurd h e⟩
 let G:Nat->Nat:=λi=>Classical.choose (hpn i)
 let Y:Nat->Nat:=λi=>Classical.choose (YR (hpn i))
 let N:Nat->Nat:=λi=>Classical.choose (YR (YR (hpn i)))
 have hg:∀i,ids.contains i=true->μ i=some (G i)/\ag w (G i)=qM (Y i) (N i):=λi=>YR (YR (YR (hpn i)))
 let μc:Nat->Option Nat:=λi=>if ids.contains i then μ i else none
 have mc:∀{i g},μc i=some g->ids.contains i=true/\μ i=some g:=fun {i g} h=>by
  simp only[μc] at h;split at h
  ·exact ⟨by assumption,h⟩
  ·cases h
 have mc':∀{i},ids.contains i=true->μc i=μ i:=fun {i} h=>by simp only[μc,h,if_true]
 have mcn:∀{i},ids.contains i=false->μc i=none:=fun {i} h=>by simp only[μc,h,Bool.false_eq_true,if_false]
 have hsubk:∀i b,aa (sub ids σ.hp) i=some b->ids.contains i=true/\aa σ.hp i=some b:=λi b h=>by
  rw[cB] at h;split at h
  ·exact ⟨by assumption,h⟩
  ·cases h
 refine (hf G Y N S μc w vs h1 (λj x hj=>(h2 j x hj).less λid hid g hg=>by rw[mc' (hxr id (aX hj hid))];exact hg) ⟨λid b hb=>?_,λid g hg'=>?_,λid id' g hg hg'=>hi.inj id id' g (mc hg).2 (mc hg').2,hi.gok.sub λi g h=>⟨i,(mc h).2⟩⟩ (λb hb=>(hi.sb b hb).1)).mono ?_
 ·rw[aA] at hb;split at hb
  ·obtain ⟨q1,q2⟩:=hsubk id b hb;have hall:=List.all_eq_true.1 hc1 _ (aP hb);exact (hi.hp id b q2).less (mc' q1) (λi hi' g hg=>by rw[mc' (List.all_eq_true.1 hall i hi')];exact hg)
  ·rw[gX] at hb;split at hb
   ·rename_i hc5;injection hb with hb
    subst hb;have hno:ids.contains id=false:=by
     cases e:ids.contains id with
     | false=>rfl
     | true=>have:=(hid id e).1;omega
    exact ⟨mcn hno,by rw[mc' hc5.2];exact (hg _ hc5.2).1,(hg _ hc5.2).2⟩
   ·cases hb
 ·obtain ⟨k1,k2⟩:=mc hg';obtain ⟨⟨b,j1⟩,_,j3⟩:=hi.dom id g k2;refine ⟨⟨b,?_⟩,j3⟩;rw[aA,if_pos ⟨(id,b),aP Wc,rfl⟩,cB,if_pos k1];exact j1
 rintro e w' ⟨v,r',H',μ',S',rfl,⟨rfl,hKH⟩,k1,k2,k3,k4,k5⟩;have hKget:∀i b,aa K i=some b->aa H' i=some b:=λi b hb=>hKH i b (by
  rw[aA,if_pos ⟨(i,b),aP hb,rfl⟩];exact hb)
 have hPget:∀i,ids.contains i=true->aa H' (5000+i)=some (.pin i (G i) (Y i) (N i)):=λi hi'=>hKH _ _ (by
  rw[aA,if_neg (by
   rintro ⟨b,hb,hb2⟩;have:ids.contains b.1=true:=List.all_eq_true.1 hK1 b hb;have:=(hid _ this).1;omega),gX,if_pos ⟨by omega,by rw[Yk];exact hi'⟩,Yk])
 have hpin':∀i,ids.contains i=true->μ' i=some (G i)/\ag w' (G i)=qM (Y i) (N i):=λi hi'=>(k2.blk _ _ (hPget i hi')).2
 have hfr:Frm (λg=>∃id,μc id=some g) w w':=k3;have hS:aH S w w':=λb hb=>hfr.block b (hi.sb b hb).1 QK
 have hO:∀i g,μ i=some g->ids.contains i=false->w'.heap[g]? = w.heap[g]?:=λi g hg hn=>hfr.block g (hi.dom i g hg).2.2.2 (by
  rintro ⟨id,h⟩;obtain ⟨q1,q2⟩:=mc h;have:=hi.inj _ _ _ hg q2;subst this;rw[q1] at hn;cases hn)
 have hz:∀i g,μ i=some g->ag w' g=ag w g:=λi g hg'=>by
  cases e:ids.contains i with
  | false=>exact aN (hO i g hg' e)
  | true=>
   obtain ⟨q1,q2⟩:=hg i e;rw[hg'] at q1;injection q1 with q1
   rw[q1,(hpin' i e).2,q2]
 let S2:Nat->Prop:=λb=>S b\/S' b
 have hrd:∀{v x},Rd μ S w v x->Rd μ S2 w' v x:=λhv=>hv.mono hS (λ_ h=>.inl h) (λ_ _ h=>h) hz
 have inv:Inv C μ S2 ⟨σ.tm,bS σ.hp K⟩ a w':=by
  refine ⟨hi.size,hi.defers,λt x hx=>hrd (hi.tm t x hx),λi b hb=>?_,λi g hg'=>?_,hi.inj,hi.frm.step _ hfr (λg ⟨id,h⟩=>(hi.dom id g (mc h).2).2.1),λb hb=>?_⟩
  ·rw[dc i K σ.hp hnd] at hb;split at hb
   ·have hib:=hKi i b hb;have hB:=k2.blk i b (hKget i b hb);have hall:=List.all_eq_true.1 hc2 _ (aP hb);have h1:cR μ S' w' i b:=hB.less (by rw[(hg i hib).1,(hpin' i hib).1]) (λj hj q hq=>by
     have hjb:=List.all_eq_true.1 hall j hj;rw[(hpin' j hjb).1] at hq;rw[(hg j hjb).1];exact hq)
    exact h1.mono (aH.refl _ _) (λ_ h=>.inr h) (λ_ _ h=>h) (λ_ _ _=>rfl) (λh=>h) (λ_ _=>rfl)
   ·rename_i hno;have hib:ids.contains i=false:=by
     cases e:ids.contains i with
     | false=>rfl
     | true=>
      obtain ⟨_,c,hc'⟩:=hid i e;rw[hc'] at hno;exact absurd rfl hno
    exact (hi.hp i b hb).mono hS (λ_ h=>.inl h) (λ_ _ h=>h) hz (λh=>h) (λg hg'=>hO i g hg' hib)
  ·obtain ⟨⟨b,j1⟩,j2,j3,j4⟩:=hi.dom i g hg';refine ⟨?_,j2,?_,YZ j4 hfr.size⟩
   ·rw[dc i K σ.hp hnd];split
    ·rename_i hs;exact Yd.1 hs
    ·exact ⟨b,j1⟩
   ·rintro (h | h)
    ·exact j3 h
    ·cases e:ids.contains i with
     | true=>
      have:=(hg i e).1;rw[hg'] at this;injection this with this
      subst this;exact (k2.dom i _ (hpin' i e).1).2.1 h
     | false=>
      rcases (k5 g h).2 with q | ⟨id,q⟩ | q
      ·exact j3 q
      ·obtain ⟨q1,q2⟩:=mc q;have:=hi.inj _ _ _ hg' q2;subst this;rw[q1] at e;cases e
      ·omega
  ·rcases hb with h | h
   ·exact ⟨YZ (hi.sb b h).1 hfr.size,(hi.sb b h).2⟩
   ·refine ⟨(k5 b h).1,?_⟩
    rcases (k5 b h).2 with q | ⟨id,q⟩ | q
    ·exact (hi.sb b q).2
    ·rcases (hi.dom id b (mc q).2).2.1 with z | z
     ·exact .inr (.inl z)
     ·exact .inr (.inr z)
    ·have:=hi.frm.size;exact .inr (.inr z8)
 refine hKp _ _ ⟨μ,S2,inv.put o.dst ?_⟩;have h1:Rd μ S' w' v r':=k1.less λi hi' g hg'=>by
  have hib:=hrr i hi';rw[(hpin' i hib).1] at hg';rw[(hg i hib).1];exact hg'
 exact h1.mono (aH.refl _ _) (λ_ h=>.inr h) (λ_ _ h=>h) (λ_ _ _=>rfl)
theorem lS {s:St} {t:TypeId}:∀{parts:List (Nat×Operand)},(∀q,q∈parts->evS s q.2=evS σ q.2)->lR T s t parts=lR T σ t parts
 | [],_=>rfl
 | (j,o)::r,h=>by
  simp only[lR];rw[h (j,o) w8,lS (λq hq=>h q (by simp[hq]))]
theorem EO (hT:TabOK P T) {ops:Array Oper} {Q:Exit->Act->World->Prop} {k n:Nat} {acc:dA} {o:Oper} {l:List Oper} {t:TypeId} {parts:Array (Nat×Operand)} (ho:o.op=.build t parts) {b:Bool} (hg:guardOf ops σ o.guard=some b)
  {p:Prop} {x:AV} (h:fE T σ t parts.toList=some (p,x)) (hp:b=true->p) {y:AV} (hy:(bif b then x else .cnd false x)=y)
  {sk:List Loc×List Loc} (hs:((Sp.mk o.dst y [] (cd ops o.guard++aQ σ (parts.toList.map (·.2)))).wr,cd ops o.guard++aQ σ (parts.toList.map (·.2)))=sk) (ha:σ.put o.dst y=σ') (hk:an P C ops Q k n (acc++[sk]) l σ'):an P C ops Q k n acc (o::l) σ:=by
 refine km (iC (x:=y) (rd:=aQ σ (parts.toList.map (·.2))) hg (by
  cases b
  ·exact .inr ⟨x,hy.symm⟩
  ·exact .inl rfl) (λhb s hag=>?_)) rfl (by rw[<-hs]) Ze hk
 subst hb;have hyx:x=y:=hy;subst hyx;have hb2:fE T s t parts.toList=some (p,x):=by
  rw[<-h];unfold fE;rw[lS (λq hq=>ct λz hz=>hag z (dh (W5.2 ⟨q,hq,rfl⟩) z hz))]
 refine cn hT o (p:=p) ?_ (hp rfl);rw[ho];simp only[eE,hb2,Option.map_some]
attribute [go_sem] pins eW
end
end Go.Eng
