/- Texts of this claim, part 6: EngM, EngO, EngP. No condition. -/
import Derived.Test.YtmcfbfdonjllaaaGreatDoorZP5
set_option maxRecDepth 10000
set_option maxHeartbeats 4000000
set_option linter.unusedSimpArgs false
set_option linter.unusedVariables false
namespace Go.Eng
section
variable {P:Program} {T:Tab} {C:Ctx} {σ σ':St}
inductive Loc where
 | tm (t:Nat)
 | blk (id:Nat)
 deriving DecidableEq
structure Sp where
 dst:Option Tmp
 val:AV
 new:List (Nat×Blk)
 rd:List Loc
def Sp.app (p:Sp) (σ:St):St:=St.put ⟨σ.tm,p.new++σ.hp⟩ p.dst p.val
def Sp.wr (p:Sp):List Loc:=(match p.dst with | some t=>[Loc.tm t] | none=>[])++p.new.map λb=>Loc.blk b.1
def bn (σ s:St):Loc->Prop
 | .tm t=>s.tm.getD t .any=σ.tm.getD t .any
 | .blk id=>aa s.hp id=aa σ.hp id
def nT (P:Program) (C:Ctx) (ops:Array Oper) (o:Oper) (σ σ':St):Prop:=
 ∀a w (K:Act->World->Prop) (Q:Exit->Act->World->Prop),Rel C σ a w->(∀a' w',Rel C σ' a' w'->K a' w') ->
  if Region.wanted o (yielded ops a.tmps) then o.wp P a w K Q\/(o.asks P a w/\LetsOut Q) else K (a.put o.dst undef) w
def Rob (P:Program) (C:Ctx) (ops:Array Oper) (o:Oper) (p:Sp) (σ:St):Prop:=
 ∀s,(∀x,x∈p.rd->bn σ s x)->(∀b,b∈p.new->Loc.blk b.1∉p.rd->aa s.hp b.1=none)->nT P C ops o s (p.app s)
def dG (P:Program) (C:Ctx) (ops:Array Oper):List Oper->List Sp->St->Prop
 | [],[],_=>True
 | o::l,p::ps,σ=>Rob P C ops o p σ/\dG P C ops l ps (p.app σ)
 | _,_,_=>False
def cX:List Sp->St->St
 | [],σ=>σ
 | p::ps,σ=>cX ps (p.app σ)
theorem az (h k:List (Nat×Blk)) (id:Nat):aa (h++k) id=if (∃b,b∈h/\b.1=id) then aa h id else aa k id:=by
 induction h with
 | nil=>simp
 | cons p r ih=>
  obtain ⟨i,c⟩:=p;simp only[List.cons_append,aa]
  by_cases e:i=id
  ·subst e;simp
  ·rw[if_neg e,if_neg e,ih]
   by_cases h2:∃b,b∈r/\b.1=id
   ·rw[if_pos h2];obtain ⟨b,h3,h4⟩:=h2;rw[if_pos ⟨b,List.mem_cons_of_mem _ h3,h4⟩]
   ·rw[if_neg h2,if_neg];rintro ⟨b,h3,h4⟩
    rcases List.mem_cons.1 h3 with h5 | h5
    ·subst h5;exact e h4
    ·exact h2 ⟨b,h5,h4⟩
theorem Mo {p:Sp} {t:Nat} (h:p.dst=some t):Loc.tm t∈p.wr:=by simp[Sp.wr,h]
theorem Cy {p:Sp} {id:Nat} (h:∃b,b∈p.new/\b.1=id):Loc.blk id∈p.wr:=by
 obtain ⟨b,hb,rfl⟩:=h;exact YI _ (W8.2 ⟨b,hb,rfl⟩)
theorem jF {s s':St} (hl:s.tm.length=s'.tm.length) (ht:∀t,s.tm.getD t .any=s'.tm.getD t .any) (hh:∀id,aa s.hp id=aa s'.hp id):Le C s s':=by
 intro a w ⟨μ,S,hi⟩;refine ⟨μ,S,by rw[hi.size,hl],hi.defers,λt x hx=>?_,λid b hb=>hi.hp id b (by rw[hh];exact hb),λid g hg=>?_,hi.inj,hi.frm,hi.sb⟩
 ·have hlt:t<s'.tm.length:=by
   by_cases h:t<s'.tm.length
   ·exact h
   ·rw[List.getElem?_eq_none z8] at hx;cases hx
  have e:=ht t;rw[List.getD_eq_getElem?_getD,List.getD_eq_getElem?_getD,hx,W3 z8] at e;simp only[Option.getD_some] at e;exact hi.tm t x (by rw[W3 z8,e])
 ·obtain ⟨⟨b,h1⟩,h2⟩:=hi.dom id g hg;exact ⟨⟨b,by rw[<-hh];exact h1⟩,h2⟩
def upto (ps:List Sp) (i:Nat) (σ:St):St:=cX (ps.take i) σ
theorem ER:∀(ps:List Sp) (i:Nat) (σ:St) {p:Sp},ps[i]? = some p->upto ps (i+1) σ=p.app (upto ps i σ)
 | [],i,σ,p,h=>by simp at h
 | q::r,0,σ,p,h=>by
  simp only[List.getElem?_cons_zero,gL] at h;subst h;simp[upto,cX]
 | q::r,i+1,σ,p,h=>by
  have:=ER r i (q.app σ) (p:=p) u1;simpa[upto,cX] using this
theorem vA {ops:Array Oper}:∀(l:List Oper) (ps:List Sp) (σ:St),dG P C ops l ps σ->∀i o p,l[i]? = some o->ps[i]? = some p->Rob P C ops o p (upto ps i σ)
 | [],[],_,_,i,o,p,h,_=>by simp at h
 | o'::l,p'::ps,σ,h,i,o,p,ho,hp=>by
  cases i with
  | zero=>
   simp only[List.getElem?_cons_zero,gL] at ho hp;subst ho hp;simpa[upto,cX] using h.1
  | succ i=>
   have:=vA l ps (p'.app σ) h.2 i o p (by simpa using ho) (by simpa using hp);simpa[upto,cX] using this
 | [],_::_,_,h,_,_,_,_,_=>h.elim
 | _::_,[],_,h,_,_,_,_,_=>h.elim
def m_ (ops:Array Oper) (i:Nat):List Nat:=
 match ops[i]? with
 | some o=>(o.after.toList.filter λe=>Region.binds .any e).map (·.on)
 | none=>[]
def reach (ops:Array Oper):Nat->Nat->Nat->Bool
 | 0,_,_=>false
 | f+1,i,j=>(m_ ops j).any λe=>e==i||reach ops f i e
theorem i_ {ops:Array Oper} {listed:Array Bool} (hc:∀j,listed.getD j false=true->∀e,e∈m_ ops j->listed.getD e false=true) :
  ∀(f i j:Nat),reach ops f i j=true->(∀e,e∈m_ ops j->listed.getD e false=true)->listed.getD i false=true
 | 0,_,_,h,_=>by cases h
 | f+1,i,j,h,hj=>by
  simp only[reach,List.any_eq_true,Bool.or_eq_true,beq_iff_eq] at h;obtain ⟨e,he,h1⟩:=h
  rcases h1 with rfl | h1
  ·exact hj _ he
  ·exact i_ hc f i e h1 (hc e (hj e he))
abbrev dw:=List (List Loc×List Loc)
def iM (ps:List Sp):dw:=ps.map λp=>(p.wr,p.rd)
def E7 (ops:Array Oper) (j:Nat) (t:List Nat):Nat:=(m_ ops j).foldl (λm e=>m ||| ((1 <<< e) ||| (if e<j then t.getD (j-1-e) 0 else 0))) 0
def tc (ops:Array Oper):Nat->List Nat
 | 0=>[]
 | j+1=>E7 ops j (tc ops j)::tc ops j
def hit (n:Nat) (t:List Nat) (i j:Nat):Bool:=(t.getD (n-1-j) 0).testBit i
theorem oK {ops:Array Oper}:∀(f g:Nat) {i j:Nat},f<=g->reach ops f i j=true->reach ops g i j=true
 | 0,_,i,j,_,h=>by cases h
 | f+1,0,i,j,hfg,_=>by omega
 | f+1,g+1,i,j,hfg,h=>by
  simp only[reach,List.any_eq_true,Bool.or_eq_true,beq_iff_eq] at h ⊢;obtain ⟨e,he,h1⟩:=h;refine ⟨e,he,?_⟩
  rcases h1 with h1 | h1
  ·exact .inl h1
  ·exact .inr (oK f g z8 h1)
theorem yu {F:Nat->Nat} {i:Nat}:∀(l:List Nat) (m:Nat),(l.foldl (λm e=>m ||| F e) m).testBit i=true->m.testBit i=true\/∃e,e∈l/\(F e).testBit i=true
 | [],m,h=>.inl h
 | e::l,m,h=>by
  simp only[List.foldl_cons] at h
  rcases yu l _ h with h | ⟨e',he,h⟩
  ·rw[Nat.testBit_or,Bool.or_eq_true] at h
   rcases h with h | h
   ·exact .inl h
   ·exact .inr ⟨e,by simp,h⟩
  ·exact .inr ⟨e',by simp[he],h⟩
theorem Ie {i e:Nat} (h:(1 <<< e).testBit i=true):i=e:=by
 simp only[Nat.testBit_shiftLeft,Bool.and_eq_true,decide_eq_true_eq] at h;obtain ⟨h1,h2⟩:=h;have:i-e=0:=by
  by_cases h3:i-e=0
  ·exact h3
  ·rw[show i-e=(i-e-1)+1 from by omega,Nat.testBit_succ] at h2;simp at h2
 omega
theorem ml (ops:Array Oper):∀(n j i:Nat),j<n->((tc ops n).getD (n-1-j) 0).testBit i=true->reach ops (j+1) i j=true
 | 0,j,i,h,_=>by omega
 | n+1,j,i,h,hb=>by
  by_cases e:j=n
  ·subst e;simp only[tc,Yy,Yq,List.getD_cons_zero] at hb;unfold E7 at hb
   rcases yu _ _ hb with h1 | ⟨e,he,h1⟩
   ·simp at h1
   ·simp only[reach,List.any_eq_true,Bool.or_eq_true,beq_iff_eq];refine ⟨e,he,?_⟩;rw[Nat.testBit_or,Bool.or_eq_true] at h1
    rcases h1 with h1 | h1
    ·exact .inl (Ie h1).symm
    ·split at h1
     ·rename_i hlt;exact .inr (oK (e+1) j z8 (ml ops j e i hlt h1))
     ·simp at h1
  ·have e1:n+1-1-j=(n-1-j)+1:=by omega
   rw[e1] at hb;simp only[tc,List.getD_cons_succ] at hb;exact ml ops n j i z8 hb
theorem qC {ops:Array Oper} {i j:Nat} (hj:j<ops.size) (h:hit ops.size (tc ops ops.size) i j=true):reach ops ops.size i j=true:=
 oK (j+1) ops.size z8 (ml ops ops.size j i hj h)
def GW (ops:Array Oper) (k:Nat) (sk:dw) (n:Nat) (t:List Nat):Bool:=
 ((List.range ops.size).all λi=>(m_ ops i).all λe=>decide (e<i)) &&
 ((List.range ops.size).all λi=>decide (i<k+sk.length)||(List.range sk.length).all λs=>hit n t (k+s) i) &&
 ((List.range sk.length).all λi=>(List.range sk.length).all λj=>
  match sk[i]?,sk[j]? with
  | some p,some q=>i==j||(!(q.1.any λx=>p.1.contains x||p.2.contains x)||(if j<i then hit n t (k+j) (k+i) else hit n t (k+i) (k+j)))
  | _,_=>true)&&decide (k+sk.length<=ops.size)
def np (ops:Array Oper) (k:Nat) (sk:dw):Bool:=GW ops k sk ops.size (tc ops ops.size)
def bj (n k:Nat):Array Bool:=(Array.range n).map λi=>decide (i<k)
theorem fG (n k j:Nat) (d:Bool):(bj n k).getD j d=if j<n then decide (j<k) else d:=by
 unfold bj;rw[Array.getD_eq_getD_getElem?,Array.getElem?_map,Array.getElem?_range];split<;>rfl
def bp (P:Program) (C:Ctx) (ops:Array Oper) (Q:Exit->Act->World->Prop) (k:Nat) (σ:St):Prop:=
 ∀a w,Rel C σ a w->wpAny P .any ops Q (ops.size-k) (bj ops.size k) a w
theorem Fx {ops:Array Oper} {Q:Exit->Act->World->Prop} {k:Nat} (hk:k=ops.size) (h:∀a w,Rel C σ a w->Q .normal a w):bp P C ops Q k σ:=by
 intro a w hr;subst hk;have:Region.ready .any ops (bj ops.size ops.size)=[]:=by
  rw[List.eq_nil_iff_forall_not_mem];intro j hj;obtain ⟨h1,o,ho,_⟩:=mem_ready.1 hj;have hlt:j<ops.size:=(Yg.1 ho).1;rw[fG,if_pos hlt] at h1;simp[hlt] at h1
 rw[Yq];exact ⟨this,h a w hr⟩
theorem mu {ops:Array Oper} {Q:Exit->Act->World->Prop} {i:Nat} {o:Oper} (ho:ops[i]? = some o) {s s':St} (ht:nT P C ops o s s') {K:Act->World->Prop} {a:Act} {w:World} (hr:Rel C s a w)
  (hK:∀a' w',Rel C s' a' w'->K a' w'):wpOp P ops Q i K a w:=by
 unfold wpOp;simp only[ho];exact ht a w K Q hr hK
theorem yK {ops:Array Oper} {Q:Exit->Act->World->Prop} {k:Nat} {o:Oper} (ho:ops[k]? = some o) (hc:Region.ready .any ops (bj ops.size k)=[k]) (ht:nT P C ops o σ σ') (h:bp P C ops Q (k+1) σ') :
  bp P C ops Q k σ:=by
 intro a w hr;have hlt:k<ops.size:=(Yg.1 ho).1;rw[show ops.size-k=(ops.size-(k+1))+1 from by omega];refine ⟨λh0=>(by rw[hc] at h0;cases h0),λi hi=>?_⟩;rw[hc,List.mem_singleton] at hi;subst hi;refine mu ho ht hr λa' w' hr'=>?_
 have e:(bj ops.size i).setIfInBounds i true=bj ops.size (i+1):=by
  apply Array.ext
  ·simp[bj]
  ·intro j h1 h2;simp only[bj,Array.size_setIfInBounds,Array.size_map,Array.size_range] at h1;rw[Array.getElem_setIfInBounds (by simpa[bj] using h1)];split
   ·rename_i e;subst e;simp[bj]
   ·rename_i e;simp[bj];omega
 rw[e];exact h a' w' hr'
theorem rv {D:Nat->Bool} {m:Nat} (hm:D m=false):∀(l:List Nat),l.Nodup->m∈l->(l.filter λj=>!(D j||j==m)).length+1=(l.filter λj=>!D j).length
 | [],_,h=>by cases h
 | x::r,hn,h=>by
  rw[List.nodup_cons] at hn
  rcases List.mem_cons.1 h with rfl | h'
  ·have e:(r.filter λj=>!(D j||j==m))=r.filter λj=>!D j:=by
    refine List.filter_congr λj hj=>?_
    have:j≠m:=by rintro rfl;exact hn.1 hj
    simp[this]
   simp only[List.filter_cons,hm,beq_self_eq_true,Bool.or_true,Bool.not_true,Bool.false_eq_true,if_false,Bool.not_false,if_true,List.length_cons];rw[e]
  ·have hx:x≠m:=by rintro rfl;exact hn.1 h'
   have ih:=rv hm r hn.2 h';simp only[List.filter_cons];have e:(x==m)=false:=by simpa using hx
   rw[e];simp only[Y2];split
   ·simp only[List.length_cons];omega
   ·exact ih
structure Ef where
 wr:List Loc
 rd:List Loc
 app:St->St
structure EfOK (e:Ef):Prop where
 len:∀s,(e.app s).tm.length=s.tm.length
 frame:∀s x,x∉e.wr->bn s (e.app s) x
 det:∀s s',s'.tm.length=s.tm.length->∀x,x∈e.wr->bn (e.app s) (e.app s') x
theorem agR (s:St) (x:Loc):bn s s x:=by cases x<;>rfl
theorem agT {a b c:St} {x:Loc} (h:bn a b x) (k:bn b c x):bn a c x:=by cases x<;>exact Eq.trans k h
theorem agS {a b:St} {x:Loc} (h:bn a b x):bn b a x:=by cases x<;>exact Eq.symm h
def efU (es:List Ef) (i:Nat) (σ:St):St:=(es.take i).foldl (λs e=>e.app s) σ
theorem my (es:List Ef) (σ:St):efU es 0 σ=σ:=by simp[efU]
theorem tA {es:List Ef} {i:Nat} {e:Ef} (h:es[i]? = some e) (σ:St):efU es (i+1) σ=e.app (efU es i σ):=by
 unfold efU;obtain ⟨hi,he⟩:=W9.1 h;rw[List.take_succ_eq_append_getElem hi,List.foldl_append,he];rfl
theorem sw {es:List Ef} (hok:∀e,e∈es->EfOK e) (σ:St):∀i,i<=es.length->(efU es i σ).tm.length=σ.tm.length
 | 0,_=>by rw[my]
 | i+1,h=>by
  have hi:es[i]? = some es[i]:=W3 z8;rw[tA hi,(hok _ (W6 hi)).len,sw hok σ i z8]
def fB (W:Nat->Bool):Nat->Nat
 | 0=>0
 | n+1=>if W n=true then n+1 else fB W n
theorem zz (W:Nat->Bool):∀n,fB W n<=n
 | 0=>YA _
 | n+1=>by unfold fB;split<;>have:=zz W n<;>omega
theorem tX (W:Nat->Bool):∀n j,fB W n<=j->j<n->W j=false
 | 0,j,_,h=>by omega
 | n+1,j,h,hj=>by
  unfold fB at h;split at h
  ·omega
  ·rename_i hn
   by_cases e:j=n
   ·subst e;simpa using hn
   ·exact tX W n j h z8
theorem vZ {W W':Nat->Bool} {m:Nat} (h:∀j,W' j=(W j||j==m)):∀n,m<n->(∀j,m<j->j<n->W j=false)->fB W' n=m+1
 | 0,h0,_=>by omega
 | n+1,h0,hl=>by
  unfold fB
  by_cases e:m=n
  ·subst e;rw[if_pos (by rw[h];simp)]
  ·have h1:=hl n z8 (Nat.lt_succ_self n);rw[if_neg (by rw[h,h1];simp;omega)];exact vZ h n z8 λj h2 h3=>hl j h2 z8
theorem mO {W W':Nat->Bool}:∀n,(∀j,j<n->W' j=W j)->fB W' n=fB W n
 | 0,_=>rfl
 | n+1,h=>by
  unfold fB;rw[h n (Nat.lt_succ_self n),mO n λj hj=>h j z8]
def wrB (es:List Ef) (x:Loc) (j:Nat):Bool:=match es[j]? with
 | some e=>decide (x∈e.wr)
 | none=>false
theorem vI {es:List Ef} (hok:∀e,e∈es->EfOK e) (σ:St) (x:Loc) (i:Nat):∀j,i<=j->j<=es.length->(∀m,i<=m->m<j->wrB es x m=false)->bn (efU es i σ) (efU es j σ) x
 | 0,h,_,_=>by rw[show i=0 by omega];exact agR _ _
 | j+1,h,hj,hno=>by
  by_cases e:i=j+1
  ·rw[e];exact agR _ _
  ·have hi:es[j]? = some es[j]:=W3 z8;have h1:=vI hok σ x i j z8 z8 λm h1 h2=>hno m h1 z8
   rw[tA hi];refine agT h1 ((hok _ (W6 hi)).frame _ x ?_);have:=hno j z8 (Nat.lt_succ_self j);unfold wrB at this;rw[hi] at this;simpa using this
structure Desc2 (σ:St) (es:List Ef) (D:Nat->Bool) (s:St):Prop where
 len:s.tm.length=σ.tm.length
 at_:∀x,bn (efU es (fB (λj=>D j&&wrB es x j) es.length) σ) s x
theorem Desc2.start (σ:St) (es:List Ef):Desc2 σ es (λ_=>false) σ:=⟨rfl,λx=>by
 have:fB (λj=>false&&wrB es x j) es.length=0:=by
  have:∀n,fB (λj=>false&&wrB es x j) n=0:=λn=>by
   induction n with
   | zero=>rfl
   | succ n ih=>unfold fB;rw[if_neg w8];exact ih
  exact this _
 rw[this,my];exact agR _ _⟩
theorem Desc2.same {es:List Ef} {D:Nat->Bool} {s:St} (hok:∀e,e∈es->EfOK e) (h:Desc2 σ es D s) {x:Loc} {m:Nat} (hm:m<=es.length) (hx:∀j,j<es.length->wrB es x j=true->D j=decide (j<m)):bn (efU es m σ) s x:=by
 have h1:=h.at_ x;have h2:fB (λj=>D j&&wrB es x j) es.length=fB (λj=>decide (j<m)&&wrB es x j) es.length:=mO _ λj hj=>by
  cases e:wrB es x j with
  | false=>simp
  | true=>rw[hx j hj e]
 rw[h2] at h1;have h3:fB (λj=>decide (j<m)&&wrB es x j) es.length<=m:=by
  rcases Nat.lt_or_ge m (fB (λj=>decide (j<m)&&wrB es x j) es.length) with h4 | h4
  ·exfalso
   have key:∀n,m<fB (λj=>decide (j<m)&&wrB es x j) n->False:=λn=>by
    induction n with
    | zero=>intro h;simp[fB] at h
    | succ n ih=>
     intro h;unfold fB at h;split at h
     ·rename_i hw;simp at hw;omega
     ·exact ih h
   exact key _ h4
  ·exact h4
 refine agT ?_ h1;refine agS (vI hok σ x _ m h3 hm λj h4 h5=>?_);have:=tX _ es.length j h4 z8;simpa[h5] using this
theorem Desc2.add {es:List Ef} {D:Nat->Bool} {s:St} (hok:∀e,e∈es->EfOK e) (h:Desc2 σ es D s) {m:Nat} {e:Ef} (he:es[m]? = some e) (hlate:∀x,x∈e.wr->∀j,m<j->j<es.length->wrB es x j=true->D j=false):Desc2 σ es (λj=>D j||j==m) (e.app s):=by
 have hm:m<es.length:=(W9.1 he).1;have heo:=hok e (W6 he);refine ⟨by rw[heo.len];exact h.len,λx=>?_⟩
 by_cases hx:x∈e.wr
 ·have hw:wrB es x m=true:=by simp only[wrB,he];simpa using hx
  rw[vZ (W:=λj=>D j&&wrB es x j) (m:=m) (λj=>show ((D j||j==m)&&wrB es x j)=((D j&&wrB es x j)||j==m) from by
   by_cases e2:j=m
   ·subst e2;rw[hw,beq_self_eq_true,Bool.or_true,Bool.or_true];rfl
   ·rw[beq_false_of_ne e2,Y2,Y2]) es.length hm λj h1 h2=>by
    cases e3:wrB es x j with
    | false=>simp
    | true=>rw[hlate x hx j h1 h2 e3];rfl]
  rw[tA he];exact heo.det _ _ (by rw[h.len,sw hok σ m z8]) x hx
 ·have hw:wrB es x m=false:=by simp only[wrB,he];simpa using hx
  rw[mO (W:=λj=>D j&&wrB es x j) _ λj hj=>show ((D j||j==m)&&wrB es x j)=(D j&&wrB es x j) from by
   by_cases e2:j=m
   ·subst e2;rw[hw,Bool.and_false,Bool.and_false]
   ·rw[beq_false_of_ne e2,Y2]]
  exact agT (h.at_ x) (heo.frame s x hx)
def skE (es:List Ef):dw:=es.map λe=>(e.wr,e.rd)
structure SegFacts2 (ops:Array Oper) (k:Nat) (es:List Ef):Prop where
 lt:∀i,i<ops.size->∀e,e∈m_ ops i->e<i
 late:∀i,i<ops.size->k+es.length<=i->∀s,s<es.length->reach ops ops.size (k+s) i=true
 od:∀(i j:Nat) p q x,es[i]? = some p->es[j]? = some q->x∈q.wr->(x∈p.rd\/x∈p.wr)->i≠j->(j<i/\reach ops ops.size (k+j) (k+i)=true)\/(i<j/\reach ops ops.size (k+i) (k+j)=true)
 size:k+es.length<=ops.size
theorem B8 {ops:Array Oper} {k:Nat} {ps:List Ef} (h:np ops k (skE ps)=true):SegFacts2 ops k ps:=by
 unfold np GW at h;simp only[Bool.and_eq_true,decide_eq_true_eq] at h;obtain ⟨⟨⟨h1,h2⟩,h3⟩,h4⟩:=h;have hl:(skE ps).length=ps.length:=by simp[skE]
 rw[hl] at h2 h3 h4;have key:∀(i j:Nat) (p q:Ef),ps[i]? = some p->ps[j]? = some q->i=j\/((∀x,x∈q.wr->x∉p.wr/\x∉p.rd)\/(if j<i then reach ops ops.size (k+j) (k+i) else reach ops ops.size (k+i) (k+j))=true):=by
  intro i j p q hp hq;have hi:i<ps.length:=(W9.1 hp).1;have hj:j<ps.length:=(W9.1 hq).1;have:=List.all_eq_true.1 (List.all_eq_true.1 h3 i (Ya.2 hi)) j (Ya.2 hj);simp only[skE,W5,hp,hq,Option.map_some,Bool.or_eq_true,beq_iff_eq,Yo,List.any_eq_false,Yh] at this
  rcases this with h | h6
  ·exact .inl h
  ·refine .inr ?_
   rcases h6 with h6 | h6
   ·exact .inl (λx hx=>⟨λhx'=>h6 x hx (.inl hx'),λhx'=>h6 x hx (.inr hx')⟩)
   ·refine .inr ?_;split at h6
    ·rw[if_pos (by assumption)];exact qC z8 h6
    ·rw[if_neg (by assumption)];exact qC z8 h6
 refine ⟨λi hi e he=>?_,λi hi hle s hs=>?_,λi j p q x hp hq hx hx' hne=>?_,h4⟩
 ·have:=List.all_eq_true.1 (List.all_eq_true.1 h1 i (Ya.2 hi)) e he;simpa using this
 ·have:=List.all_eq_true.1 h2 i (Ya.2 hi);simp only[Bool.or_eq_true,decide_eq_true_eq] at this
  rcases this with h | h
  ·omega
  ·exact qC hi (List.all_eq_true.1 h s (Ya.2 hs))
 ·rcases key i j p q hp hq with h | h
  ·exact absurd h hne
  ·rcases h with h | h
   ·rcases hx' with hx' | hx'
    ·exact absurd hx' (h x hx).2
    ·exact absurd hx' (h x hx).1
   ·split at h
    ·exact .inl ⟨by assumption,h⟩
    ·exact .inr ⟨by omega,h⟩
theorem Hd {es:List Ef} {x:Loc} {j:Nat} (h:wrB es x j=true):∃q,es[j]? = some q/\x∈q.wr:=by
 unfold wrB at h;cases e:es[j]? with
 | none=>rw[e] at h;cases h
 | some q=>rw[e] at h;exact ⟨q,rfl,by simpa using h⟩
theorem CH {ops:Array Oper} {Q:Exit->Go.Act->World->Prop} {k:Nat} {l:List Oper} {es:List Ef} (hck:np ops k (skE es)=true) (hlen:l.length=es.length)
  (hl:∀i,i<es.length->ops[k+i]? = l[i]?) (hok:∀e,e∈es->EfOK e)
  (hrob:∀m o e,l[m]? = some o->es[m]? = some e->∀s,s.tm.length=σ.tm.length->(∀x,(x∈e.rd\/x∈e.wr)->bn (efU es m σ) s x)->(∀x,∃i,i<=es.length/\bn (efU es i σ) s x)->nT P C ops o s (e.app s))
  (h:bp P C ops Q (k+es.length) (efU es es.length σ)):bp P C ops Q k σ:=by
 have hF:=B8 hck;have main:∀(r:Nat) (D:Nat->Bool) (listed:Array Bool) (s:St),((List.range es.length).filter λj=>!D j).length=r->listed.size=ops.size ->
   (∀j,j<ops.size->listed.getD j false=(decide (j<k)||(decide (j<k+es.length)&&D (j-k)))) ->
   (∀j,listed.getD j false=true->∀e,e∈m_ ops j->listed.getD e false=true)->Desc2 σ es D s->∀a w,Rel C s a w->wpAny P .any ops Q (ops.size-(k+es.length)+r) listed a w:=by
  intro r
  induction r with
  | zero=>
   intro D listed s hr hsz hlist _ hd a w hrel;have hall:∀j,j<es.length->D j=true:=λj hj=>by
    have h0:(List.range es.length).filter (λj=>!D j)=[]:=List.eq_nil_of_length_eq_zero hr;have:=List.filter_eq_nil_iff.1 h0 j (Ya.2 hj);simpa using this
   have e:listed=bj ops.size (k+es.length):=by
    apply Array.ext
    ·simp[bj,hsz]
    ·intro j h1 h2;have hj:j<ops.size:=by omega
     have h3:=hlist j hj;rw[Array.getD_eq_getD_getElem?,YK h1,Option.getD_some] at h3;rw[h3];have h4:=fG ops.size (k+es.length) j false;rw[Array.getD_eq_getD_getElem?,YK h2,Option.getD_some,if_pos hj] at h4;rw[h4]
     by_cases hk:j<k
     ·simp[hk];omega
     ·by_cases hk2:j<k+es.length
      ·simp[hk,hk2,hall (j-k) z8]
      ·simp[hk,hk2]
   rw[Nat.add_zero,e];have hsame:Le C s (efU es es.length σ):=jF (hd.len.trans (sw hok σ _ (YA _)).symm)
    (λt=>hd.same hok (x:=.tm t) (YA _) λj hj _=>by rw[hall j hj];simp[hj])
    (λid=>hd.same hok (x:=.blk id) (YA _) λj hj _=>by rw[hall j hj];simp[hj])
   exact h a w (hsame a w hrel)
  | succ r ih=>
   intro D listed s hr hsz hlist hclosed hd a w hrel;have hex:∃m,m<es.length/\D m=false:=by
    have hne:(List.range es.length).filter (λj=>!D j)≠[]:=by intro e;rw[e] at hr;simp at hr
    obtain ⟨m,hm⟩:=List.exists_mem_of_ne_nil _ hne;rw[YL,Ya] at hm;exact ⟨m,hm.1,by simpa using hm.2⟩
   obtain ⟨m0,⟨hm0,hD0⟩,hmin⟩:=least (p:=λm=>m<es.length/\D m=false) hex;have hun:listed.getD (k+m0) false=false:=by
    rw[hlist _ (by have:=hF.size;omega)];simp[show ¬k+m0<k by omega,hD0]
   refine ⟨λh0=>?_,λi hi=>?_⟩
   ·exfalso
    have:k+m0∈Region.ready .any ops listed:=by
     rw[mem_ready];have hlt':k+m0<ops.size:=by have:=hF.size;omega
     refine ⟨?_,ops[k+m0],YK hlt',λe he hb=>?_⟩
     ·rw[Array.getD_eq_getD_getElem?,YK z8] at hun ⊢;exact hun
     ·have hmem:e.on∈m_ ops (k+m0):=by
       unfold m_;rw[YK hlt'];exact W8.2 ⟨e,YL.2 ⟨by simpa using he,hb⟩,rfl⟩
      have hl':=hF.lt _ hlt' _ hmem;rw[hlist _ z8]
      by_cases h1:e.on<k
      ·simp[h1]
      ·have h2:D (e.on-k)=true:=by
        cases h3:D (e.on-k) with
        | true=>rfl
        | false=>exact absurd ⟨by omega,h3⟩ (hmin (e.on-k) z8)
       simp[h1,h2,show e.on<k+es.length by omega]
    rw[h0] at this;cases this
   ·obtain ⟨h1,o,ho,hall⟩:=mem_ready.1 hi;have hilt:i<ops.size:=(Yg.1 ho).1;have hil:listed.getD i false=false:=by
     rw[Array.getD_eq_getD_getElem?,YK z8] at h1 ⊢;exact h1
    have hpl:∀e,e∈m_ ops i->listed.getD e false=true:=λe he=>by
     unfold m_ at he;rw[ho] at he;obtain ⟨ed,hed,rfl⟩:=W8.1 he;rw[YL] at hed;exact hall ed (by simpa using hed.1) hed.2
    have hik:k<=i:=by
     rw[hlist i hilt] at hil;simp at hil;omega
    have hiu:i<k+es.length:=by
     rcases Nat.lt_or_ge i (k+es.length) with h2 | h2
     ·exact h2
     ·have:=i_ hclosed _ _ _ (hF.late i hilt h2 m0 hm0) hpl;rw[hun] at this;cases this
    obtain ⟨m,rfl⟩:∃m,i=k+m:=⟨i-k,by omega⟩;have hm:m<es.length:=by omega
    have hDm:D m=false:=by
     rw[hlist _ hilt] at hil;simpa[show ¬k+m<k by omega,hiu] using hil
    have hpm:es[m]? = some es[m]:=W3 hm;have hom:l[m]? = some o:=by rw[<-hl m hm];exact ho
    have key:∀x,(x∈es[m].rd\/x∈es[m].wr)->∀(j:Nat),j<es.length->wrB es x j=true->D j=decide (j<m):=λx hx j hj hwj=>by
     obtain ⟨q,hq,hxq⟩:=Hd hwj
     by_cases e:m=j
     ·subst e;simp[hDm]
     ·rcases hF.od m j _ q x hpm hq hxq hx e with ⟨h3,h4⟩ | ⟨h3,h4⟩
      ·have h5:=i_ hclosed _ _ _ h4 hpl;rw[hlist _ z8] at h5;simp[show ¬k+j<k by omega] at h5;simp[h3,h5.2]
      ·cases h6:D j with
       | false=>simp;omega
       | true=>
        have h7:listed.getD (k+j) false=true:=by
         rw[hlist _ (by have:=hF.size;omega)];simp[h6,hj]
        have h8:=i_ hclosed _ _ _ h4 (hclosed _ h7);rw[hil] at h8;cases h8
    have ht:=hrob m o es[m] hom hpm s hd.len (λx hx=>hd.same hok z8 (key x hx)) (λx=>⟨_,zz _ _,hd.at_ x⟩);refine mu ho ht hrel λa' w' hr'=>?_
    refine ih (λj=>D j||j==m) (listed.setIfInBounds (k+m) true) (es[m].app s) ?_ (by simp[hsz]) (λj hj=>?_) (λj hj e he=>?_) (hd.add hok hpm λx hx j hlt hj hw=>by rw[key x (.inr hx) j hj hw];simp;omega) a' w' hr'
    ·have:=rv hDm (List.range es.length) List.nodup_range (Ya.2 hm);omega
    ·by_cases e:k+m=j
     ·subst e;rw[Array.getD_eq_getD_getElem?,Array.getElem?_setIfInBounds_self_of_lt z8];simp[hiu]
     ·rw[getD_set_ne false e,hlist j hj];have:(j-k==m)=false\/j<k:=by
       by_cases h2:j<k
       ·exact .inr h2
       ·left;simp;omega
      rcases this with h2 | h2
      ·rw[h2];simp
      ·simp[h2]
    ·by_cases e':k+m=j
     ·subst e';exact getD_set_true (hpl e he)
     ·rw[getD_set_ne false e'] at hj;exact getD_set_true (hclosed j hj e he)
 intro a w hr;have h0:=main es.length (λ_=>false) (bj ops.size k) σ (by show ((List.range es.length).filter λ_=>true).length=es.length;rw[Ye.2 (λ_ _=>rfl)];simp) (by simp[bj]) (λj hj=>by rw[fG,if_pos hj];simp) (λj hj e he=>by
  rw[fG] at hj ⊢;split at hj
  ·rename_i hjn;have hlt':=hF.lt j hjn e he;rw[if_pos z8];simp at hj ⊢;omega
  ·cases hj) (Desc2.start σ es) a w hr
 rw[show ops.size-k=ops.size-(k+es.length)+es.length from by have:=hF.size;omega];exact h0
def efS (p:Sp):Ef:=⟨p.wr,p.rd,p.app⟩
theorem bL (l:List AV) (t u:Nat) (v:AV):(l.set t v).getD u .any=if t=u then (if t<l.length then v else .any) else l.getD u .any:=by
 rw[List.getD_eq_getElem?_getD,YP]
 by_cases h:t=u
 ·subst h;rw[if_pos rfl,if_pos rfl];split<;>rfl
 ·rw[if_neg h,if_neg h,List.getD_eq_getElem?_getD]
theorem FC (p:Sp):EfOK (efS p):=by
 have htm:∀s:St,(p.app s).tm=match p.dst with | some t=>s.tm.set t p.val | none=>s.tm:=λs=>by unfold Sp.app St.put;cases p.dst<;>rfl
 have hhp:∀s:St,(p.app s).hp=p.new++s.hp:=λs=>by unfold Sp.app;rw[St.gY]
 refine ⟨λs=>?_,λs x hx=>?_,λs s' hl x hx=>?_⟩
 ·show (p.app s).tm.length=_
  rw[htm];cases p.dst<;>simp
 ·cases x with
  | tm t=>
   show (p.app s).tm.getD t .any=s.tm.getD t .any
   rw[htm];cases e:p.dst with
   | none=>rfl
   | some u=>
    show (s.tm.set u p.val).getD t .any=_
    rw[bL,if_neg];rintro rfl;exact hx (Mo e)
  | blk id=>
   show aa (p.app s).hp id=aa s.hp id
   rw[hhp,az,if_neg];exact λh=>hx (Cy h)
 ·cases x with
  | tm t=>
   show (p.app s').tm.getD t .any=(p.app s).tm.getD t .any
   have hd:p.dst=some t:=by
    have hx:Loc.tm t∈p.wr:=hx;unfold Sp.wr at hx
    rcases List.mem_append.1 hx with h | h
    ·cases e:p.dst with
     | none=>rw[e] at h;cases h
     | some u=>rw[e] at h;rw[List.mem_singleton] at h;injection h with h;rw[h]
    ·obtain ⟨b,_,hb⟩:=W8.1 h;cases hb
   rw[htm,htm,hd]
   show (s'.tm.set t p.val).getD t .any=(s.tm.set t p.val).getD t .any
   rw[bL,bL,if_pos rfl,if_pos rfl,hl]
  | blk id=>
   show aa (p.app s').hp id=aa (p.app s).hp id
   have hb:∃b,b∈p.new/\b.1=id:=by
    have hx:Loc.blk id∈p.wr:=hx;unfold Sp.wr at hx
    rcases List.mem_append.1 hx with h | h
    ·cases e:p.dst with
     | none=>rw[e] at h;cases h
     | some u=>rw[e] at h;rw[List.mem_singleton] at h;cases h
    ·obtain ⟨b,hb,he⟩:=W8.1 h;injection he with he
     exact ⟨b,hb,he⟩
   rw[hhp,hhp,az,az,if_pos hb,if_pos hb]
theorem CI (ps:List Sp) (i:Nat) (σ:St):efU (ps.map efS) i σ=upto ps i σ:=by
 unfold efU upto;rw[<-List.map_take,List.foldl_map];generalize ps.take i=l
 induction l generalizing σ with
 | nil=>rfl
 | cons p l ih=>exact ih (p.app σ)
theorem Fy {ops:Array Oper} {Q:Exit->Act->World->Prop} {k:Nat} {l:List Oper} {ps:List Sp} (hck:np ops k (iM ps)=true) (hlen:l.length=ps.length)
  (hl:∀i,i<ps.length->ops[k+i]? = l[i]?) (hfr:∀(i:Nat) p,ps[i]? = some p->∀b,b∈p.new->Loc.blk b.1∉p.rd->aa (upto ps i σ).hp b.1=none)
  (hch:dG P C ops l ps σ) (h:bp P C ops Q (k+ps.length) (cX ps σ)):bp P C ops Q k σ:=by
 have e:skE (ps.map efS)=iM ps:=by unfold skE iM;rw[Yi];rfl
 refine CH (l:=l) (es:=ps.map efS) (by rw[e];exact hck) (by simpa using hlen) (λi hi=>hl i Z6) (λe he=>by obtain ⟨p,_,rfl⟩:=W8.1 he;exact FC p) (λm o e ho he s _ hag _=>?_) (by rw[CI];unfold upto;rw[List.length_map,W7];exact h);rw[W5] at he;obtain ⟨p,hp,rfl⟩:=YX.1 he;rw[CI] at hag;exact vA l ps σ hch m o p ho hp s (λx hx=>hag x (.inl hx)) λb hb hn=>Eq.trans (show aa s.hp b.1=aa (upto ps m σ).hp b.1 from hag (.blk b.1) (.inr (Cy ⟨b,hb,rfl⟩))) (hfr m p hp b hb hn)
theorem ZW {Ret:St->Prop} {k:List It} {id:Nat} {ops:Array Oper} (hm:P.follows .mixedOrders=true) (h:bp P C ops (aft (eC C Ret) (sem P C (eC C Ret) k)) 0 σ):Cw P C Ret (.code (.region id ops true)::k) σ:=λa w hr=>by
 obtain ⟨μ,S,hi⟩:=hr;refine wp_region_any hm ?_;have:=h a w.drew ⟨μ,S,hi.drew⟩;have e:bj ops.size 0=Array.replicate ops.size false:=by
  apply Array.ext<;>simp[bj]
 rw[e] at this;exact this
theorem jx {Ret:St->Prop} {k:List It} {ops:Array Oper} {n:Nat} (hn:n=ops.size) (h:Cw P C Ret k σ):bp P C ops (aft (eC C Ret) (sem P C (eC C Ret) k)) n σ:=
 Fx hn λa w hr=>h a w hr
end
end Go.Eng
namespace Go.Eng
section
variable {P:Program} {T:Tab} {C:Ctx} {σ σ' s:St}
def fT (σ:St):Operand->List Loc
 | .tmp t=>.tm t::(refs (σ.tm.getD t .any)).map .blk
 | _=>[]
def aQ (σ:St):List Operand->List Loc
 | []=>[]
 | o::r=>fT σ o++aQ σ r
def bW (ops:Array Oper) (g:Option (Nat×Bool)):List Loc:=
 match g with
 | none=>[]
 | some (j,_)=>
  match (ops[j]?).bind (·.dst) with
  | some d=>[.tm d]
  | none=>[]
theorem yU {o:Operand} (h:∀x,x∈fT σ o->bn σ s x):ev s o=ev σ o:=by
 cases o with
 | tmp t=>exact h (.tm t) (by simp[fT])
 | _=>rfl
theorem cm {o:Operand} (h:∀x,x∈fT σ o->bn σ s x):evS s o=evS σ o:=by unfold evS;rw[yU h]
theorem uI (x:AV):∀id,id∈refs (strip x).2->id∈refs x:=by
 intro id h;cases x<;>first | exact h | simpa[strip,refs] using h
theorem Dj {o:Operand} (h:∀x,x∈fT σ o->bn σ s x) {id:Nat} (hid:id∈refs (evS σ o).2):aa s.hp id=aa σ.hp id:=by
 have h1:=uI _ id hid;cases o with
 | tmp t=>
  refine h (.blk id) ?_;simp only[ev] at h1;exact List.mem_cons_of_mem _ (W8.2 ⟨id,h1,rfl⟩)
 | const v=>
  simp only[ev] at h1
  exfalso
  revert h1
  unfold ofValue;split<;>simp[refs]
 | func f=>simp[ev,refs,aA] at h1
 | global g=>simp[ev,refs] at h1
theorem dc {os:List Operand} {o:Operand} (ho:o∈os):∀x,x∈fT σ o->x∈aQ σ os:=by
 intro x hx
 induction os with
 | nil=>cases ho
 | cons y r ih=>
  simp only[aQ,List.mem_append]
  rcases List.mem_cons.1 ho with rfl | h
  ·exact .inl hx
  ·exact .inr (ih h)
theorem oq:∀{os:List Operand},(∀x,x∈aQ σ os->bn σ s x)->eI s os=eI σ os
 | [],_=>rfl
 | o::r,h=>by
  simp only[eI];rw[cm (λx hx=>h x (by simp[aQ,hx])),oq (λx hx=>h x (by simp[aQ,hx]))]
theorem xH {t:TypeId} {x:AV} (h:∀id,id∈refs x->aa s.hp id=aa σ.hp id):lC T s t x=lC T σ t x:=by
 unfold lC;split
 ·rfl
 ·rename_i id size row off;rw[h id s8]
 ·rfl
theorem zJ {t:TypeId} {x:AV} (h:∀id,id∈refs x->aa s.hp id=aa σ.hp id):rG T s t x=rG T σ t x:=by
 unfold rG;split<;>try rfl
 rename_i id hu;rw[h id s8]
theorem zP {x:AV} (h:∀id,id∈refs x->aa s.hp id=aa σ.hp id):mapOf s x=mapOf σ x:=by
 unfold mapOf;split
 ·rfl
 ·rfl
 ·rw[h _ s8]
 ·rfl
theorem pI {op:Op} (h:∀x,x∈aQ σ op.operands.toList->bn σ s x):eX T s op=eX T σ op:=by
 have he:∀o,o∈op.operands.toList->evS s o=evS σ o:=λo ho=>cm λx hx=>h x (dc ho x hx)
 have hv:∀o,o∈op.operands.toList->ev s o=ev σ o:=λo ho=>yU λx hx=>h x (dc ho x hx)
 have hb:∀o,o∈op.operands.toList->∀id,id∈refs (evS σ o).2->aa s.hp id=aa σ.hp id:=λo ho id hid=>Dj (λx hx=>h x (dc ho x hx)) hid
 unfold eX;split
 ·rw[hv _ j5]
 ·rw[hv _ j5]
 ·rename_i c x y;rw[hv c j5,hv x j5,hv y j5]
 ·rename_i t x;rw[he x j5,xH (hb x j5)]
 ·rename_i x;rw[he x j5]
 ·rename_i op t x y ty;rw[he x j5,he y j5]
 ·rename_i op t x;rw[he x j5]
 ·rename_i t x j;rw[he x j5]
 ·rename_i t x j;rw[he x j5]
 ·rename_i t x y;rw[he x j5,he y j5]
 ·rename_i t x y;rw[he x j5,he y j5]
 ·rename_i t x lo hi;rw[he x j5];have e1:(lo.map λo=>(evS s o).2)=lo.map λo=>(evS σ o).2:=by
   cases lo with
   | none=>rfl
   | some o=>simp only[Option.map_some];rw[he o j5]
  have e2:(hi.map λo=>(evS s o).2)=hi.map λo=>(evS σ o).2:=by
   cases hi with
   | none=>rfl
   | some o=>simp only[Option.map_some];rw[he o j5]
  have e3:eI s lo.toList=eI σ lo.toList:=by
   cases lo with
   | none=>rfl
   | some o=>simp only[Option.toList,eI];rw[he o j5]
  have e4:eI s hi.toList=eI σ hi.toList:=by
   cases hi with
   | none=>rfl
   | some o=>simp only[Option.toList,eI];rw[he o j5]
  rw[e1,e2,e3,e4]
 ·rename_i x j;rw[he x j5]
 ·rename_i f first captured
  have:eI s captured.toList=eI σ captured.toList:=oq λx hx=>h x (by
   have hm:∀(l:List Operand),(∀o,o∈l->o∈(Op.makeFunc (.func f) first captured).operands.toList)->∀x,x∈aQ σ l->x∈aQ σ (Op.makeFunc (.func f) first captured).operands.toList:=by
    intro l
    induction l with
    | nil=>intro _ x hx;cases hx
    | cons o r ih=>
     intro ho x hx;simp only[aQ,List.mem_append] at hx
     rcases hx with hx | hx
     ·exact dc (ho o (List.mem_cons_self ..)) x hx
     ·exact ih (λo' ho'=>ho o' (List.mem_cons_of_mem _ ho')) x hx
   exact hm _ (λo ho=>by simp[Op.operands] at ho ⊢;exact .inr ho) x hx)
  rw[this]
 ·rename_i args ats;split
  ·rename_i x t hx ht;have hm:x∈(Op.call { callee:=.builtin .len,args,argTypes:=ats }).operands.toList:=by simp[Op.operands,Call.operands,hx]
   rw[he x hm,zJ (hb x hm)]
  ·rfl
 ·rename_i s t x;rw[he x j5]
 ·rename_i t x i ok;unfold qL;rw[he x j5,he i j5,zP (hb x j5)]
 ·rfl
theorem iu {ops:Array Oper} {g:Option (Nat×Bool)} (h:∀x,x∈bW ops g->bn σ s x):guardOf ops s g=guardOf ops σ g:=by
 unfold guardOf;split
 ·rfl
 ·rename_i j want;split
  ·rename_i d hd;have:=h (.tm d) (by simp[bW,hd]);simp only[bn] at this;rw[this]
  ·rfl
def nt (ops:Array Oper) (σ:St) (o:Oper) (x:AV):Sp:=⟨o.dst,x,[],bW ops o.guard++aQ σ o.op.operands.toList⟩
theorem GN (hT:TabOK P T) {ops:Array Oper} {o:Oper} {c:Bool} {p:Prop} {x:AV} (hg:guardOf ops σ o.guard=some c) (h:eX T σ o.op=some (p,x)) (hp:c=true->p) (hc:c=true\/∃y,x=.cnd c y\/True) :
  Rob P C ops o (nt ops σ o (mkc c x)) σ:=by
 intro s ha _ a w K Q hr hK;have hg':guardOf ops s o.guard=some c:=by rw[iu (λx hx=>ha x (YS _ hx))];exact hg
 have h':eX T s o.op=some (p,x):=by rw[pI (λx hx=>ha x (YI _ hx))];exact h
 obtain ⟨μ,S,hi⟩:=hr;rw[bk hi hg'];cases c with
 | false=>exact hK _ _ ⟨μ,S,hi.put o.dst (xY (.cndF x))⟩
 | true=>
  refine .inl ?_;obtain ⟨u,h1,h2⟩:=lS hT hi o h' (hp rfl);unfold Oper.wp;rw[h1];exact hK _ _ ⟨μ,S,hi.put o.dst (xY (.cndT u x h2))⟩
theorem Em (hT:TabOK P T) {ops:Array Oper} {o:Oper} {p:Prop} {x:AV} (hg:o.guard=none) (h:eX T σ o.op=some (p,x)) (hp:p):Rob P C ops o (nt ops σ o x) σ:=by
 intro s ha _ a w K Q hr hK;have h':eX T s o.op=some (p,x):=by rw[pI (λx hx=>ha x (YI _ hx))];exact h
 obtain ⟨μ,S,hi⟩:=hr;have hw:Region.wanted o (yielded ops a.tmps)=true:=bk hi Qy;rw[hw];refine .inl ?_;obtain ⟨u,h1,h2⟩:=lS hT hi o h' hp;unfold Oper.wp;rw[h1];exact hK _ _ ⟨μ,S,hi.put o.dst h2⟩
def lO (T:Tab) (ops:Array Oper):List Oper->St->Option (Prop×List Sp×List Oper×St)
 | [],σ=>some (True,[],[],σ)
 | o::l,σ=>
  match eX T σ o.op with
  | some (p,x)=>
   match o.guard with
   | none=>(lO T ops l (σ.put o.dst x)).map λr=>(p/\r.1,nt ops σ o x::r.2.1,r.2.2)
   | some g=>
    match guardOf ops σ (some g) with
    | some c=>(lO T ops l (σ.put o.dst (mkc c x))).map λr=>((c=true->p)/\r.1,nt ops σ o (mkc c x)::r.2.1,r.2.2)
    | none=>none
  | none=>some (True,[],o::l,σ)
theorem oP (ops:Array Oper) (σ:St) (o:Oper) (x:AV):(nt ops σ o x).app σ=σ.put o.dst x:=by
 simp[Sp.app,nt]
theorem jI (hT:TabOK P T) (ops:Array Oper):∀(l:List Oper) (σ:St) {p:Prop} {ps:List Sp} {l':List Oper} {σ':St},lO T ops l σ=some (p,ps,l',σ')->p ->
  ∀{l2:List Oper} {ps2:List Sp},dG P C ops l2 ps2 σ'->l'=l2++(l'.drop l2.length)->∃l1,l=l1++l'/\dG P C ops (l1++l2) (ps++ps2) σ
 | [],σ,p,ps,l',σ',h,_,l2,ps2,hc,_=>by
  simp only[lO,gL,gM] at h;obtain ⟨_,rfl,rfl,rfl⟩:=h;exact ⟨[],rfl,hc⟩
 | o::l,σ,p,ps,l',σ',h,hp,l2,ps2,hc,he=>by
  unfold lO at h;split at h
  ·rename_i q x hpo;split at h
   ·rename_i hg;cases e:lO T ops l (σ.put o.dst x) with
    | none=>rw[e] at h;cases h
    | some r=>
     obtain ⟨r1,r2,r3,r4⟩:=r;simp only[e,Option.map_some,gL,gM] at h;obtain ⟨rfl,rfl,rfl,rfl⟩:=h;obtain ⟨l1,h1,h2⟩:=jI hT ops l _ e hp.2 hc he;exact ⟨o::l1,by rw[h1];rfl,Em hT hg hpo hp.1,by rw[oP];exact h2⟩
   ·rename_i g hg;split at h
    ·rename_i c hc';cases e:lO T ops l (σ.put o.dst (mkc c x)) with
     | none=>rw[e] at h;cases h
     | some r=>
      obtain ⟨r1,r2,r3,r4⟩:=r;simp only[e,Option.map_some,gL,gM] at h;obtain ⟨rfl,rfl,rfl,rfl⟩:=h;obtain ⟨l1,h1,h2⟩:=jI hT ops l _ e hp.2 hc he;exact ⟨o::l1,by rw[h1];rfl,GN hT (by rw[hg];exact hc') hpo hp.1 (.inr ⟨x,.inr trivial⟩),by rw[oP];exact h2⟩
    ·cases h
  ·simp only[gL,gM] at h;obtain ⟨_,rfl,rfl,rfl⟩:=h;exact ⟨[],rfl,hc⟩
end
end Go.Eng
namespace Go.Eng
section
variable {P:Program} {T:Tab} {C:Ctx} {σ σ' s:St} {Ret:St->Prop} {k:List It}
theorem pR:∀{ops:Array Oper} {l:List Oper} {σ:St} {p:Prop} {ps:List Sp} {l':List Oper} {σ':St},lO T ops l σ=some (p,ps,l',σ')->l.length=ps.length+l'.length/\cX ps σ=σ'/\∀(i:Nat) q,ps[i]? = some q->q.new=[]
 | ops,[],σ,p,ps,l',σ',h=>by
  simp only[lO,gL,gM] at h;obtain ⟨_,rfl,rfl,rfl⟩:=h;exact ⟨rfl,rfl,λi q h=>by simp at h⟩
 | ops,o::l,σ,p,ps,l',σ',h=>by
  unfold lO at h;split at h
  ·rename_i q x hpo;have fin:∀(y:AV) {f:Prop->Prop},(lO T ops l (σ.put o.dst y)).map (λr=>(f r.1,nt ops σ o y::r.2.1,r.2.2))=some (p,ps,l',σ') ->
     (o::l).length=ps.length+l'.length/\cX ps σ=σ'/\∀(i:Nat) q,ps[i]? = some q->q.new=[]:=by
    intro y f h;cases e:lO T ops l (σ.put o.dst y) with
    | none=>rw[e] at h;cases h
    | some r=>
     obtain ⟨r1,r2,r3,r4⟩:=r;simp only[e,Option.map_some,gL,gM] at h;obtain ⟨_,rfl,rfl,rfl⟩:=h;obtain ⟨h1,h2,h3⟩:=pR e;refine ⟨by simp[h1];omega,by simp only[cX,oP];exact h2,λi q hq=>?_⟩;cases i with
     | zero=>simp only[List.getElem?_cons_zero,gL] at hq;subst hq;rfl
     | succ i=>exact h3 i q (by simpa using hq)
   split at h
   ·exact fin x (f:=λr=>q/\r) h
   ·split at h
    ·rename_i c _;exact fin (mkc c x) (f:=λr=>(c=true->q)/\r) h
    ·cases h
  ·simp only[gL,gM] at h;obtain ⟨_,rfl,rfl,rfl⟩:=h;exact ⟨by simp,rfl,λi q h=>by simp at h⟩
def yM (n:Nat) (sk:dw):Bool:=sk.all λp=>p.1.all λ| .tm t=>decide (t<n) | .blk _=>true
def zG:List AV->List AV->Prop
 | [],[]=>True
 | x::l,y::m=>(y=.any\/x=y)/\zG l m
 | _,_=>False
theorem v_:∀{l m:List AV},zG l m->l.length=m.length/\∀(t:Nat) y,m[t]? = some y->y=.any\/l[t]? = some y
 | [],[],_=>⟨rfl,λt y h=>by simp at h⟩
 | x::l,y::m,h=>by
  obtain ⟨h1,h2⟩:=v_ h.2;refine ⟨by simp[h1],λt z hz=>?_⟩;cases t with
  | zero=>
   simp only[List.getElem?_cons_zero,gL] at hz ⊢;subst hz;exact h.1
  | succ t=>simpa using h2 t z Zb
 | [],_::_,h=>h.elim
 | _::_,[],h=>h.elim
theorem Ln {l m:List AV} {H:List (Nat×Blk)} (h:zG l m):Le C ⟨l,H⟩ ⟨m,H⟩:=by
 intro a w ⟨μ,S,hi⟩;obtain ⟨h1,h2⟩:=v_ h;refine ⟨μ,S,by rw[hi.size];exact h1,hi.defers,λt y hy=>?_,hi.hp,hi.dom,hi.inj,hi.frm,hi.sb⟩
 rcases h2 t y hy with rfl | h
 ·exact .any _
 ·exact hi.tm t y h
theorem wrap_small {n:Int} (h:-9223372036854775808<=n) (h2:n<=9223372036854775807):IntKind.i64.wrap n=n:=by
 simp[IntKind.wrap,IntKind.signed,IntKind.bits];omega
def iL (l:List AV):List (Nat×AV)->List AV
 | []=>l
 | (t,x)::r=>iL (l.set t x) r
def bP (h:List (Nat×Blk)):List (Nat×Blk)->List (Nat×Blk)
 | []=>h
 | (t,x)::r=>bP (aF h t x) r
theorem ZL {ι:Type} (J:ι->Prop) (m:ι->Nat) (f:ι->List (Nat×AV)) (g:ι->List (Nat×Blk)) (i0:ι) {c:Code} {l:List AV} {H:List (Nat×Blk)} (hJ:J i0) (h0:Le C ⟨l,H⟩ ⟨iL l (f i0),bP H (g i0)⟩)
  (round:∀i,J i->Cw P C Ret (.code c::.back (λs=>∃j,J j/\m j<m i/\Le C s ⟨iL l (f j),bP H (g j)⟩)::k) ⟨iL l (f i),bP H (g i)⟩):Cw P C Ret (.code (.loop c)::k) ⟨l,H⟩:=by
 refine Ir (ι:={ i // J i }) (λi=>⟨iL l (f i.1),bP H (g i.1)⟩) (λi=>m i.1) ⟨i0,hJ⟩ h0 λi=>?_
 intro a w hr;have:=round i.1 i.2 a w hr;refine wp_mono this λe a w q=>?_
 cases e with
 | normal=>
  obtain ⟨s,⟨j,hj,hm,hle⟩,hrs⟩:=q;exact ⟨s,⟨⟨j,hj⟩,hm,hle⟩,hrs⟩
 | _=>exact q
theorem yz {f:FuncId} {args:List AV} {r:AV} (h:ai P f args [] λr' _=>r'=r) {w:World} {vs:List Value} (hl:vs.length=args.length) {S:Nat->Prop}
  (hargs:∀(j:Nat) x,args[j]? = some x->RdP S w (vs.getD j undef) x) (hS:∀b,S b->b<w.heap.size) (hg:GOK (λ_=>none) w) :
  Calls P f vs.toArray w λe w'=>∃v μ S',e=.returned v/\Rd μ S' w' v r/\Frm (λ_=>False) w w':=by
 refine (h S (λ_=>none) w vs hl (λj x hx=>.pure (hargs j x hx)) ⟨λid b h=>by simp[aa] at h,λid g h=>Qs,λid id' g h=>Qs,hg⟩ hS).mono ?_;rintro e w' ⟨v,r',H',μ',S',rfl,rfl,k1,_,k3,_,_⟩;exact ⟨v,μ',S',rfl,k1,⟨k3.os,k3.tape,k3.output,k3.size,λb hb _=>k3.block b hb Wi⟩⟩
end
end Go.Eng
