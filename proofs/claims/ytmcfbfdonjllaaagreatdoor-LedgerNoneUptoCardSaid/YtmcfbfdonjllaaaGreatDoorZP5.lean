/- Texts of this claim, part 5: EngK, EngL, EngN. No condition. -/
import Derived.Test.YtmcfbfdonjllaaaGreatDoorZP4
import Derived.Tactics
set_option maxRecDepth 10000
set_option maxHeartbeats 4000000
set_option linter.unusedSimpArgs false
set_option linter.unusedVariables false
namespace Go.Eng
section
variable {P:Program} {T:Tab} {C:Ctx} {σ σ':St}
inductive It where
 | code (c:Code)
 | ops (all:Array Oper) (l:List Oper)
 | blk (id:Nat)
 | back (J:St->Prop)
def aft (R:Act->World->Prop) (s:(Act->World->Prop)×(Nat->Act->World->Prop)):Exit->Act->World->Prop
 | .normal,a,w=>s.1 a w
 | .ret,a,w=>R a w
 | .exit id,a,w=>s.2 id a w
 | _,_,_=>False
def sem (P:Program) (C:Ctx) (R:Act->World->Prop):List It->(Act->World->Prop)×(Nat->Act->World->Prop)
 | []=>(R,λ_ _ _=>False)
 | .code c::k=>(λa w=>c.wp P (aft R (sem P C R k)) a w,(sem P C R k).2)
 | .ops all l::k=>(λa w=>wpList P all (aft R (sem P C R k)) l a w,(sem P C R k).2)
 | .blk id::k=>((sem P C R k).1,λi=>if id=i then (sem P C R k).1 else (sem P C R k).2 i)
 | .back J::k=>(λa w=>∃σ',J σ'/\Rel C σ' a w,(sem P C R k).2)
def eC (C:Ctx) (Ret:St->Prop):Act->World->Prop:=λa w=>∃σ',Ret σ'/\Rel C σ' a w
def Cw (P:Program) (C:Ctx) (Ret:St->Prop) (k:List It) (σ:St):Prop:=∀a w,Rel C σ a w->(sem P C (eC C Ret) k).1 a w
def Le (C:Ctx) (σ σ':St):Prop:=∀a w,Rel C σ a w->Rel C σ' a w
variable {Ret:St->Prop} {k:List It}
theorem af (hl:Le C σ σ') (h:Cw P C Ret k σ'):Cw P C Ret k σ:=λa w hr=>h a w (hl a w hr)
theorem iD (h:Ret σ):Cw P C Ret [] σ:=λ_ _ hr=>⟨σ,h,hr⟩
theorem Fp {id:Nat} (h:Cw P C Ret k σ):Cw P C Ret (.blk id::k) σ:=h
theorem ZB {J:St->Prop} (h:J σ):Cw P C Ret (.back J::k) σ:=λ_ _ hr=>⟨σ,h,hr⟩
theorem CF (h:Cw P C Ret k σ):Cw P C Ret (.code .skip::k) σ:=λa w hr=>wp_skip (h a w hr)
theorem lk (h:Ret σ):Cw P C Ret (.code .ret::k) σ:=λ_ _ hr=>wp_ret ⟨σ,h,hr⟩
theorem qh {x y:Code} (h:Cw P C Ret (.code x::.code y::k) σ):Cw P C Ret (.code (.seq x y)::k) σ:=λa w hr=>
 wp_seq (wp_mono (h a w hr) λe a w q=>by cases e<;>first | exact q | exact q.elim)
theorem vD {id:Nat} {ops:Array Oper} (h:Cw P C Ret (.ops ops ops.toList::k) σ):Cw P C Ret (.code (.region id ops false)::k) σ:=λa w hr=>
 wp_region_list (h a w hr)
theorem sv {c:Operand} {x y:Code} {b:Bool} {p:Prop} (hc:evS σ c=(p,.bool b)) (hp:p) (ht:b=true->Cw P C Ret (.code x::k) σ) (hf:b=false->Cw P C Ret (.code y::k) σ) :
  Cw P C Ret (.code (.cond c x y)::k) σ:=λa w hr=>by
 obtain ⟨μ,S,hi⟩:=hr;have hv:=hi.evS c (by rw[hc];exact hp);rw[hc] at hv;exact wp_cond_split hv.eQ (λh=>ht h a w ⟨μ,S,hi⟩) (λh=>hf h a w ⟨μ,S,hi⟩)
theorem yG {id:Nat} {c:Code} (h:Cw P C Ret (.code c::.blk id::k) σ):Cw P C Ret (.code (.block id c)::k) σ:=λa w hr=>
 wp_block (wp_mono (h a w hr) λe a w q=>by
  cases e with
  | exit i=>
   simp only[aft,sem] at q;simp only[Exit.inBlock]
   by_cases e:id=i
   ·rw[if_pos e] at q;rw[if_pos e.symm];exact q
   ·rw[if_neg e] at q;rw[if_neg (λh=>e h.symm)];exact q
  | _=>first | exact q | exact q.elim)
def exitTo:Nat->List It->Option (List It)
 | id,.blk i::k=>if i=id then some k else exitTo id k
 | id,_::k=>exitTo id k
 | _,[]=>none
theorem nq {R:Act->World->Prop} {id:Nat}:∀{k k':List It},exitTo id k=some k'->(sem P C R k).2 id=(sem P C R k').1
 | [],_,h=>by cases h
 | .blk i::k,k',h=>by
  simp only[exitTo] at h;simp only[sem];split at h
  ·rename_i e;injection h with h;subst h;rw[if_pos e]
  ·rename_i e;rw[if_neg e];exact nq h
 | .code c::k,k',h=>by simp only[sem];exact nq (k:=k) Wv
 | .ops a l::k,k',h=>by simp only[sem];exact nq (k:=k) Wv
 | .back J::k,k',h=>by simp only[sem];exact nq (k:=k) Wv
theorem CD {id:Nat} {k':List It} (he:exitTo id k=some k') (h:Cw P C Ret k' σ):Cw P C Ret (.code (.exit id)::k) σ:=λa w hr=>
 wp_exit (by show (sem P C _ k).2 id a w;rw[nq he];exact h a w hr)
theorem jv {all:Array Oper} (h:Cw P C Ret k σ):Cw P C Ret (.ops all []::k) σ:=λa w hr=>h a w hr
theorem Ft (hT:TabOK P T) {all:Array Oper} {l l':List Oper} {p:Prop} (h:jR T all l σ=some (p,l',σ')) (hp:p) (hk:Cw P C Ret (.ops all l'::k) σ'):Cw P C Ret (.ops all l::k) σ:=
 jJ hT all l σ h hp hk
theorem bC {all:Array Oper} {o:Oper} {l:List Oper} (hg:guardOf all σ o.guard=some true) (ht:eK P C o σ σ') (hk:Cw P C Ret (.ops all l::k) σ'):Cw P C Ret (.ops all (o::l)::k) σ:=
 nv hg ht hk
open Classical in
theorem least {p:Nat->Prop} (h:∃n,p n):∃n,p n/\∀m,m<n->¬p m:=by
 obtain ⟨n,hn⟩:=h
 induction n using Nat.strongRecOn with
 | _ n ih=>
  by_cases h':∃m,m<n/\p m
  ·obtain ⟨m,h1,h2⟩:=h';exact ih m h1 h2
  ·exact ⟨n,hn,λm hm hp=>h' ⟨m,hm,hp⟩⟩
theorem Ir {ι:Type} (I:ι->St) (m:ι->Nat) (i0:ι) {c:Code} (h0:Le C σ (I i0))
  (round:∀i,Cw P C Ret (.code c::.back (λs=>∃j,m j<m i/\Le C s (I j))::k) (I i)):Cw P C Ret (.code (.loop c)::k) σ:=by
 classical
 intro a w hr
 let At (a:Act) (w:World) (n:Nat):Prop:=∃i,m i=n/\Rel C (I i) a w
 let M (a:Act) (w:World):Nat:=if h:∃n,At a w n then Classical.choose (least h) else 0
 have hM:∀a w,(∃n,At a w n)->At a w (M a w)/\∀n,At a w n->M a w<=n:=λa w h=>by
  have e:M a w=Classical.choose (least h):=dif_pos h;obtain ⟨h1,h2⟩:=YV (least h);rw[e];refine ⟨h1,λn hn=>?_⟩
  rcases Nat.lt_or_ge n (Classical.choose (least h)) with h3 | h3
  ·exact absurd hn (h2 n h3)
  ·exact h3
 refine wp_loop (λa w=>∃i,Rel C (I i) a w) M ⟨i0,h0 a w hr⟩ λa' w' ⟨i',hi'⟩=>?_
 obtain ⟨⟨i,hi,hri⟩,_⟩:=hM a' w' ⟨m i',i',rfl,hi'⟩;have:=round i a' w' hri;refine wp_mono this λe a2 w2 q=>?_
 cases e with
 | normal=>
  obtain ⟨s,⟨j,hj,hle⟩,hrs⟩:=q;have hrj:=hle a2 w2 hrs;refine ⟨⟨j,hrj⟩,?_⟩;have:=(hM a2 w2 ⟨m j,j,rfl,hrj⟩).2 (m j) ⟨j,rfl,hrj⟩;omega
 | _=>first | exact q | exact q.elim
def ya (T:Tab) (σ:St):ResultVar->Option (Prop×AV)
 | .tmp t=>some (True,σ.tm.getD t .any)
 | .cell a t=>lC T σ t (σ.tm.getD a .any)
def x' (a:Act):ResultVar->Sem Value
 | .tmp t=>pure (a.tmps.getD t undef)
 | .cell x t=>do loadVar t (<-asAddr (a.tmps.getD x undef))
theorem BZ (fn:Func) (a:Act):results fn a.tmps=(do
  let vs <-fn.results.mapM (x' a)
  pure (if h:vs.size=1 then vs[0] else .tuple vs)):=rfl
def BY (T:Tab) (σ:St):List ResultVar->Option (Prop×List AV)
 | []=>some (True,[])
 | r::rs=>
  match ya T σ r,BY T σ rs with
  | some (p,x),some (q,l)=>some (p/\q,x::l)
  | _,_=>none
def one:List AV->AV
 | [x]=>x
 | l=>.tup l
def pN (T:Tab) (σ:St) (rs:List ResultVar):Option (Prop×AV):=(BY T σ rs).map λr=>(r.1,one r.2)
section
variable {μ:Nat->Option Nat} {S:Nat->Prop} {a:Act} {w:World}
theorem uo (hT:TabOK P T) (hi:Inv C μ S σ a w):∀(rs:List ResultVar) {p:Prop} {l:List AV},BY T σ rs=some (p,l)->p ->
  ∃vs:List Value,(rs.mapM (x' a)).run P w=.ok vs w /\
   vs.length=l.length/\∀(j:Nat) x,l[j]? = some x->Rd μ S w (vs.getD j undef) x
 | [],p,l,h,_=>by
  simp only[BY,gL,gM] at h;obtain ⟨_,rfl⟩:=h;exact ⟨[],by simp,rfl,λj x hx=>by simp at hx⟩
 | r::rs,p,l,h,hp=>by
  unfold BY at h;split at h
  ·rename_i p1 x q l' h1 h2;simp only[gL,gM] at h;obtain ⟨rfl,rfl⟩:=h;obtain ⟨vs,k1,k2,k3⟩:=uo hT hi rs h2 hp.2;have key:∃u,(x' a r).run P w=.ok u w/\Rd μ S w u x:=by
    cases r with
    | tmp t=>
     simp only[ya,gL,gM] at h1;obtain ⟨_,rfl⟩:=h1;exact ⟨_,rfl,hi.ev (.tmp t)⟩
    | cell b t=>
     simp only[ya] at h1;obtain ⟨u,j1,j2⟩:=uF hT hi h1 hp.1 (hi.ev (.tmp b));refine ⟨u,?_,j2⟩;have hv:=hi.ev (.tmp b);simp only[Act.eval] at hv j1;simp only[x',Instr.loadAt,Sem.run_bind] at j1 ⊢
     revert j1
     cases a.tmps.getD b undef<;>simp[Instr.sureAddr,asAddr];rename_i A;cases A<;>simp
   obtain ⟨u,j1,j2⟩:=key;refine ⟨u::vs,?_,by simp[k2],λj y hy=>?_⟩
   ·rw[List.mapM_cons];simp only[Sem.run_bind,j1,Result.andThen_ok,k1,Sem.run_pure]
   ·cases j with
    | zero=>simp only[List.getElem?_cons_zero,gL] at hy;subst hy;exact j2
    | succ j=>simpa using k3 j y (by simpa using hy)
  ·cases h
theorem Eh (hT:TabOK P T) (hi:Inv C μ S σ a w) {fn:Func} {p:Prop} {r:AV} (h:pN T σ fn.results.toList=some (p,r)) (hp:p) :
  ∃v,(results fn a.tmps).run P w=.ok v w/\Rd μ S w v r:=by
 unfold pN at h;cases e:BY T σ fn.results.toList with
 | none=>rw[e] at h;cases h
 | some q=>
  obtain ⟨q1,l⟩:=q;simp only[e,Option.map_some,gL,gM] at h;obtain ⟨rfl,rfl⟩:=h;obtain ⟨vs,h1,h2,h3⟩:=uo hT hi _ e hp;refine ⟨if h:vs.toArray.size=1 then vs.toArray[0] else .tuple vs.toArray,?_,?_⟩
  ·rw[BZ];rw[Array.mapM_eq_mapM_toList];simp only[Sem.run_bind,Sem.run_map,h1,Result.andThen_ok,Sem.run_pure]
  ·match l,h2,h3 with
   | [],h2,h3=>
    have:vs=[]:=List.eq_nil_of_length_eq_zero h2;subst this;exact .tup #[] [] rfl (λj x hx=>by simp at hx)
   | [x],h2,h3=>
    match vs,h2 with
    | [v],_=>simpa[one] using h3 0 x rfl
   | x::y::l,h2,h3=>
    rw[dif_neg (by simp at h2 ⊢;omega)];exact .tup _ _ WY (λj z hz=>by
     have:=h3 j z hz
     rwa [Array.getD_eq_getD_getElem?,List.getElem?_toArray,<-List.getD_eq_getElem?_getD])
end
structure HpOK (μ:Nat->Option Nat) (S:Nat->Prop) (w:World) (H:List (Nat×Blk)):Prop where
 blk:∀id b,aa H id=some b->cJ μ S w id b
 dom:∀id g,μ id=some g->(∃b,aa H id=some b)/\¬S g/\g<w.heap.size
 inj:∀id id' g,μ id=some g->μ id'=some g->id=id'
 glob:GOK μ w
def ai (P:Program) (f:FuncId) (args:List AV) (H:List (Nat×Blk)) (post:AV->List (Nat×Blk)->Prop):Prop:=
 ∀(R0:Nat->Prop) (μ:Nat->Option Nat) (w0:World) (vs:List Value),vs.length=args.length->(∀(j:Nat) x,args[j]? = some x->Rd μ R0 w0 (vs.getD j undef) x) ->
  HpOK μ R0 w0 H->(∀b,R0 b->b<w0.heap.size) ->
  Calls P f vs.toArray w0 λe w'=>∃v r H' μ' S',e=.returned v/\post r H'/\Rd μ' S' w' v r/\HpOK μ' S' w' H'/\Frm (λg=>∃id,μ id=some g) w0 w' /\
   (∀id g,μ' id=some g->(∃id',μ id'=some g)\/w0.heap.size<=g)/\(∀b,S' b->b<w'.heap.size/\(R0 b\/(∃id,μ id=some b)\/w0.heap.size<=b))
theorem FJ (hT:TabOK P T) {f:FuncId} {fn:Func} {c:Code} {args:List AV} {H:List (Nat×Blk)} {post:AV->List (Nat×Blk)->Prop}
  (hf:P.funcs[f]? = some fn) (hb:fn.body=some c)
  (h:∀C:Ctx,Cw P C (λs=>∃p r,pN T s fn.results.toList=some (p,r)/\p/\post r s.hp) [.code c] ⟨args++List.replicate (fn.ntmps-args.length) .any,H⟩):ai P f args H post:=by
 intro R0 μ w0 vs hl hargs hH hR
 let C:Ctx:=⟨w0,λg=>∃id,μ id=some g,R0,hH.glob⟩
 refine calls_of_wp hf hb ?_;have hrel:Rel C ⟨args++List.replicate (fn.ntmps-args.length) .any,H⟩ { tmps:=vs.toArray++Array.replicate (fn.ntmps-vs.toArray.size) undef,defers:=[] } w0:=by
  refine ⟨μ,R0,by simp[hl],rfl,λt x hx=>?_,hH.blk,λid g hg=>⟨(hH.dom id g hg).1,.inl ⟨id,hg⟩,(hH.dom id g hg).2⟩,hH.inj,Frm.refl _ _,λb hb=>⟨hR b hb,.inl hb⟩⟩
  by_cases ht:t<args.length
  ·rw[YU ht] at hx;have:=hargs t x hx;rw[List.getD_eq_getElem?_getD] at this;rw[Array.getD_eq_getD_getElem?,Yj (by simpa[hl] using ht)];simpa using this
  ·rw[YQ z8,Y0] at hx;split at hx
   ·injection hx with hx;subst hx;exact .any _
   ·cases hx
 have hw:=h C _ _ hrel;refine wp_mono hw λex a w q=>?_
 have key:eC C (λs=>∃p r,pN T s fn.results.toList=some (p,r)/\p/\post r s.hp) a w->a.defers=[]/\∃v,(results fn a.tmps).run P w=.ok v w /\
   ∃v' r H' μ' S',Ending.returned v=.returned v'/\post r H'/\Rd μ' S' w v' r/\HpOK μ' S' w H'/\Frm (λg=>∃id,μ id=some g) w0 w /\
   (∀id g,μ' id=some g->(∃id',μ id'=some g)\/w0.heap.size<=g)/\(∀b,S' b->b<w.heap.size/\(R0 b\/(∃id,μ id=some b)\/w0.heap.size<=b)):=by
  rintro ⟨s,⟨p,r,h1,h2,h3⟩,μ',S',hi⟩;obtain ⟨v,k1,k2⟩:=Eh hT hi h1 h2;exact ⟨hi.defers,v,k1,v,r,s.hp,μ',S',rfl,h3,k2,⟨hi.hp,λid g hg=>⟨(hi.dom id g hg).1,(hi.dom id g hg).2.2⟩,hi.inj,hi.gok⟩,hi.frm,λid g hg=>(hi.dom id g hg).2.1,hi.sb⟩
 cases ex with
 | normal=>exact key q
 | ret=>exact key q
 | exit id=>exact q.elim
 | _=>exact q.elim
end
end Go.Eng
namespace Go.Eng
section
variable {P:Program} {T:Tab} {C:Ctx} {σ σ':St}
def aH (P:Program) (f:FuncId):Prop:=∃fn,P.funcs[f]? = some fn/\(fn.name == "runtime.NumGoroutine")=false/\fn.body.isSome=true
mutual
def AV.scalar:AV->Bool
 | .int .. | .bool _ | .str _ | .nilp | .nili | .ifc | .nils | .nilm=>true
 | .tup vs=>nL vs
 | .agg vs=>nL vs
 | _=>false
def nL:List AV->Bool
 | []=>true
 | x::r=>x.scalar&&nL r
end
theorem kd {x:AV}:∀{l:List AV} {j:Nat},nL l=true->l[j]? = some x->x.scalar=true
 | [],j,_,h=>by simp at h
 | y::r,j,hl,h=>by
  simp only[nL,Bool.and_eq_true] at hl;cases j with
  | zero=>simp only[List.getElem?_cons_zero,gL] at h;subst h;exact hl.1
  | succ j=>exact kd hl.2 u1
theorem RdP.scalar {S S':Nat->Prop} {w w':World} {v:Value} {x:AV} (h:RdP S w v x) (hx:x.scalar=true):RdP S' w' v x:=by
 induction h with
 | int k n=>exact .int k n
 | bool b=>exact .bool b
 | str s l h=>exact .str s l h
 | nilp=>exact .nilp
 | nili=>exact .nili
 | ifc t p=>exact .ifc t p
 | nils=>exact .nils
 | nilm=>exact .nilm
 | agg cs cells hl hr ih=>exact .agg cs cells hl (λj x hj=>ih j x hj (kd Wg hj))
 | sl=>cases hx
 | rp=>cases hx
 | rm=>cases hx
 | fn=>cases hx
theorem Rd.scalar {μ μ':Nat->Option Nat} {S S':Nat->Prop} {w w':World} {v:Value} {x:AV} (h:Rd μ S w v x) (hx:x.scalar=true):Rd μ' S' w' v x:=by
 induction h with
 | any=>cases hx
 | pure h=>exact .pure (h.scalar hx)
 | agg cs cells hl hr ih=>exact .agg cs cells hl (λj x hj=>ih j x hj (kd Wg hj))
 | tup cs cells hl hr ih=>exact .tup cs cells hl (λj x hj=>ih j x hj (kd Wg hj))
 | fn=>cases hx
 | ptr=>cases hx
 | osl=>cases hx
 | mp=>cases hx
 | exs=>cases hx
 | cndT=>cases hx
 | cndF=>cases hx
theorem Rd.free {μ μ':Nat->Option Nat} {S:Nat->Prop} {w:World} {v:Value} {x:AV} (h:Rd μ S w v x) (hx:refs x=[]):Rd μ' S w v x:=by
 induction h with
 | any v=>exact .any v
 | pure h=>exact .pure h
 | agg cs cells hl hr ih=>exact .agg cs cells hl (λj x hj=>ih j x hj (refsL_nil WQ hj))
 | tup cs cells hl hr ih=>exact .tup cs cells hl (λj x hj=>ih j x hj (refsL_nil WQ hj))
 | fn f vals caps hl hr ih=>exact .fn f vals caps hl (λj x hj=>ih j x hj (refsL_nil WQ hj))
 | ptr=>simp[refs] at hx
 | osl=>simp[refs] at hx
 | mp=>simp[refs] at hx
 | exs=>simp[refs] at hx
 | cndT v x h ih=>exact .cndT v x (ih WQ)
 | cndF x=>exact .cndF x
where
 refsL_nil {x:AV}:∀{l:List AV} {j:Nat},aA l=[]->l[j]? = some x->refs x=[]
  | [],j,_,h=>by simp at h
  | y::r,j,hl,h=>by
   simp only[aA,List.append_eq_nil_iff] at hl;cases j with
   | zero=>simp only[List.getElem?_cons_zero,gL] at h;subst h;exact hl.1
   | succ j=>exact refsL_nil hl.2 u1
theorem Inv.called {μ:Nat->Option Nat} {S S':Nat->Prop} {a:Act} {w w':World} (hi:Inv C μ S σ a w) (hf:Frm (λ_=>False) w w')
  (hS:∀b,S' b->b<w'.heap.size/\(S b\/w.heap.size<=b)):Inv C μ (λb=>S b\/S' b) σ a w':=by
 have hb:∀b,b<w.heap.size->w'.heap[b]? = w.heap[b]?:=λb h=>hf.block b h (λh=>h)
 have hw:aI S w w':=λb h=>hb b (hi.sb b h).1
 have hz:∀i g,μ i=some g->ag w' g=ag w g:=λi g h=>aN (hb g (hi.dom i g h).2.2.2)
 refine ⟨hi.size,hi.defers,λt x hx=>(hi.tm t x hx).mono hw (λ_ h=>.inl h) (λ_ _ h=>h) hz,λi b h=>(hi.hp i b h).mono hw (λ_ h=>.inl h) (λ_ _ h=>h) hz (λh=>h) (λg h=>hb g (hi.dom i g h).2.2.2),λi g h=>?_,hi.inj,hi.frm.step (λ_=>False) hf (λ_ h=>h.elim),λb h=>?_⟩
 ·obtain ⟨h1,h2,h3,h4⟩:=hi.dom i g h;refine ⟨h1,h2,?_,Yc h4 hf.size⟩;rintro (h | h)
  ·exact h3 h
  ·rcases (hS g h).2 with h | h
   ·exact h3 h
   ·omega
 ·rcases h with h | h
  ·exact ⟨Yc (hi.sb b h).1 hf.size,(hi.sb b h).2⟩
  ·refine ⟨(hS b h).1,?_⟩
   rcases (hS b h).2 with h | h
   ·exact (hi.sb b h).2
   ·have:=hi.frm.size;exact .inr (.inr z8)
def ax (σ:St) (c:Operand) (args:List Operand):Option (Prop×FuncId×List AV):=
 match evS σ c with
 | (p,.fn f caps)=>some (p/\(eI σ args).1,f,(eI σ args).2++caps)
 | _=>none
theorem jg {o:Oper} {c:Operand} {args:Array Operand} {ats:Array TypeId} {μ:Nat->Option Nat} {S:Nat->Prop} {a:Act} {w:World} (hi:Inv C μ S σ a w)
  (ho:o.op=.call { callee:=.value c,args,argTypes:=ats }) {p:Prop} {f:FuncId} {xs:List AV} (h:ax σ c args.toList=some (p,f,xs)) (hp:p) (hc:aH P f) :
  ∃vs:List Value,vs.length=xs.length/\(∀(j:Nat) x,xs[j]? = some x->Rd μ S w (vs.getD j undef) x)/\(execOp a.eval o).run P w=.ok (.enter f vs.toArray) w:=by
 unfold ax at h;split at h
 ·rename_i q f' caps hev;simp only[gL,gM] at h;obtain ⟨rfl,rfl,rfl⟩:=h;have hv:=hi.evS c (by rw[hev];exact hp.1);rw[hev] at hv;obtain ⟨vals,he,hl,hr⟩:=hv.Bs;obtain ⟨fn,hf,hn,hb⟩:=hc;refine ⟨args.toList.map a.eval++vals.toList,by simp[mC,hl],λj x hx=>?_,?_⟩
  ·by_cases hj:j<args.toList.length
   ·rw[YU (by rw[mC];exact hj)] at hx;obtain ⟨o',ho',hr'⟩:=hi.eI _ hp.2 j x hx;rw[List.getD_eq_getElem?_getD,YU QQ,W5,ho'];exact hr'
   ·rw[YQ (by rw[mC];omega),mC] at hx;have:=hr _ x hx;rw[List.getD_eq_getElem?_getD,YQ QQ];rw[Array.getD_eq_getD_getElem?,<-Array.getElem?_toList] at this;rw[List.length_map];exact this
  ·have hb':¬fn.body=none:=by intro e;rw[e] at hb;cases hb
   have hn':¬fn.name = "runtime.NumGoroutine":=by simpa using hn
   have e1:(#[]++args.map a.eval++vals)=(args.toList.map a.eval++vals.toList).toArray:=by
    apply Array.ext';simp
   simp[execOp,ho,resolve,he,Deferred.ofValue,invoke,callFunc,hf,hn',hb']
 ·cases h
theorem nN {o:Oper} {c:Operand} {args:Array Operand} {ats:Array TypeId} (ho:o.op=.call { callee:=.value c,args,argTypes:=ats }) {p:Prop} {f:FuncId} {xs:List AV}
  (h:ax σ c args.toList=some (p,f,xs)) (hp:p) (hc:aH P f) (hx:aA xs=[]) {r:AV} (hr:refs r=[]) (hf:ai P f xs [] λr' _=>r'=r):eK P C o σ (σ.put o.dst r):=by
 intro a w K Q ⟨μ,S,hi⟩ hK;obtain ⟨vs,h1,h2,h3⟩:=jg hi ho h hp hc;unfold Oper.wp;rw[h3];refine (hf S (λ_=>none) w vs h1 (λj x hj=>(h2 j x hj).free (Rd.free.refsL_nil hx hj)) ⟨λid b h=>by simp[aa] at h,λid g h=>Qs,λid id' g h=>Qs,hi.gok.nil⟩ (λb hb=>(hi.sb b hb).1)).mono ?_;rintro e w' ⟨v,r',H',μ',S',rfl,rfl,k1,k2,k3,k4,k5⟩;have hfr:Frm (λ_=>False) w w':=⟨k3.os,k3.tape,k3.output,k3.size,λb hb _=>k3.block b hb Wi⟩;have hi':=hi.called hfr (S':=S') (λb hb=>⟨(k5 b hb).1,by
  rcases (k5 b hb).2 with h | ⟨id,h⟩ | h
  ·exact .inl h
  ·cases h
  ·exact .inr h⟩)
 exact hK _ _ ⟨μ,_,hi'.put o.dst ((k1.mono (aI.refl _ _) (λ_ h=>.inr h) (λ_ _ h=>h) (λ_ _ _=>rfl)).free hr)⟩
mutual
def view (h:List (Nat×Blk)):AV->Option (Prop×AV)
 | .osl id s off len=>
  match aa h id with
  | some (.cells _ s' rows)=>if s=s' then some (off+len<=rows.length/\(rows.all λrow=>row.all AV.aT)=true,.sl ((rows.drop off).take len)) else none
  | _=>none
 | .ptr id s row off=>
  match aa h id with
  | some (.cells _ s' rows)=>if s=s' then some (row<rows.length/\((rows.getD row []).all AV.aT)=true,.rp (rows.getD row []) off) else none
  | _=>none
 | .mp id=>
  match aa h id with
  | some (.map kvs)=>some (True,.rm kvs)
  | _=>none
 | .fn f caps=>(fv h caps).map λr=>(r.1,.fn f r.2)
 | .agg cells=>(fv h cells).map λr=>(r.1,.agg r.2)
 | .any=>none
 | .tup _=>none
 | .cnd ..=>none
 | .exs ..=>none
 | x=>some (True,x)
def fv (h:List (Nat×Blk)):List AV->Option (Prop×List AV)
 | []=>some (True,[])
 | x::r=>
  match view h x,fv h r with
  | some (p,y),some (q,l)=>some (p/\q,y::l)
  | _,_=>none
end
theorem C7 {l:List (List AV)} {i:Nat} (h:i<l.length):l[i]? = some (l.getD i []):=by
 rw[List.getD_eq_getElem?_getD,W3 h];rfl
mutual
theorem Cp {μ:Nat->Option Nat} {S:Nat->Prop} {a:Act} {w:World} (hi:Inv C μ S σ a w):∀(x:AV) {p:Prop} {y:AV} {v:Value},view σ.hp x=some (p,y)->p->Rd μ S w v x ->
  RdP (λb=>S b\/∃id,μ id=some b) w v y
 | .osl id s off len,p,y,v,h,hp,hv=>by
  simp only[view] at h;split at h
  ·rename_i e s' rows hb;split at h
   ·rename_i hs;subst hs;simp only[gL,gM] at h;obtain ⟨rfl,rfl⟩:=h;obtain ⟨hle,hpure⟩:=hp;obtain ⟨A,cap,rfl,hc,hor⟩:=hv.bT;have hl:((rows.drop off).take len).length=len:=by simp;omega
    rcases hor with ⟨rfl,h2⟩ | ⟨g,e',n,h1,rfl,h3,h4⟩
    ·exact .sl A 0 cap _ s 0 0 (λ_ _=>undef) hl hc (λrow h=>by simp at h) (λh=>by omega) (λi j h=>by omega) (λi row h=>by simp at h)
    ·rcases hi.hp id _ hb with ⟨_,k2⟩ | ⟨g',c,k1,k2,k3,k4,k5⟩
     ·rw[k2] at h1;cases h1
     ·rw[k1] at h1;injection h1 with h1;subst h1
      refine .sl _ len cap _ s g' (off*s) (λi j=>c.getD ((off+i)*s+j) undef) hl hc (λrow h=>k4 row (Yb (YJ h))) (λ_=>⟨rfl,.inr ⟨id,k1⟩⟩) (λi j hi' hj=>?_) (λi row h j x hx=>?_)
      ·have hlt:(off+i)*s+s<=rows.length*s:=by
        have:=YM s (show off+i+1<=rows.length by omega)
        rwa [Y5] at this
       rw[show off*s+(i*s+j)=(off+i)*s+j from by rw[Nat.add_mul];omega,cell_of k2,Array.getD_eq_getD_getElem?,YK z8];rfl
      ·rw[YW] at h;split at h
       ·rw[List.getElem?_drop] at h;exact ((k5 _ row h j x hx).toP (List.all_eq_true.1 (List.all_eq_true.1 hpure row (W6 h)) x (W6 hx))).mono (aI.refl _ _) (λ_ h=>.inl h)
       ·cases h
   ·cases h
  ·cases h
 | .ptr id s row off,p,y,v,h,hp,hv=>by
  simp only[view] at h;split at h
  ·rename_i e s' rows hb;split at h
   ·rename_i hs;subst hs;simp only[gL,gM] at h;obtain ⟨rfl,rfl⟩:=h;obtain ⟨hrow,hpure⟩:=hp;obtain ⟨g,hg,rfl⟩:=hv.iX
    rcases hi.hp id _ hb with ⟨rfl,_⟩ | ⟨g',c,k1,k2,k3,k4,k5⟩
    ·simp at hrow
    ·rw[k1] at hg;injection hg with hg;subst hg
     have hr:=C7 hrow;have hlen:=k4 _ (W6 hr);have hlt:=iK (size:=s) hr;refine .rp g' (row*s) off _ (λj=>c.getD (row*s+j) undef) (.inr ⟨id,k1⟩) (λj hj=>?_) (λj x hx=>?_)
     ·rw[cell_of k2,Array.getD_eq_getD_getElem?,YK z8];rfl
     ·exact ((k5 _ _ hr j x hx).toP (List.all_eq_true.1 hpure x (W6 hx))).mono (aI.refl _ _) (λ_ h=>.inl h)
   ·cases h
  ·cases h
 | .mp id,p,y,v,h,hp,hv=>by
  simp only[view] at h;split at h
  ·rename_i kvs hb;simp only[gL,gM] at h;obtain ⟨_,rfl⟩:=h;obtain ⟨g,hg,rfl⟩:=hv.tU;obtain ⟨g',es,clk,vals,k1,k2,k3,k4⟩:=hi.hp id _ hb;rw[k1] at hg;injection hg with hg;subst hg
   exact .rm g' es clk kvs vals (.inr ⟨id,k1⟩) k2 k3 (λq hq=>(k4 q hq).mono (aI.refl _ _) (λ_ h=>.inl h))
  ·cases h
 | .fn f caps,p,y,v,h,hp,hv=>by
  simp only[view] at h;cases e:fv σ.hp caps with
  | none=>rw[e] at h;cases h
  | some q=>
   obtain ⟨q1,l⟩:=q;simp only[e,Option.map_some,gL,gM] at h;obtain ⟨rfl,rfl⟩:=h;obtain ⟨vals,rfl,hl,hr⟩:=hv.Bs;obtain ⟨h1,h2⟩:=kh hi caps e hp (λj=>vals.getD j undef) hr;exact .fn f vals l (by rw[hl,h1]) h2
 | .agg cells,p,y,v,h,hp,hv=>by
  simp only[view] at h;cases e:fv σ.hp cells with
  | none=>rw[e] at h;cases h
  | some q=>
   obtain ⟨q1,l⟩:=q;simp only[e,Option.map_some,gL,gM] at h;obtain ⟨rfl,rfl⟩:=h;obtain ⟨cs,rfl,hl,hr⟩:=hv.nC;obtain ⟨h1,h2⟩:=kh hi cells e hp (λj=>cs.getD j undef) hr;exact .agg cs l (by rw[hl,h1]) h2
 | .any,p,y,v,h,_,_=>by simp[view] at h
 | .tup _,p,y,v,h,_,_=>by simp[view] at h
 | .cnd ..,p,y,v,h,_,_=>by simp[view] at h
 | .exs ..,p,y,v,h,_,_=>by simp[view] at h
 | .int k n,p,y,v,h,_,hv=>by simp only[view,gL,gM] at h;obtain ⟨_,rfl⟩:=h;exact (hv.toP rfl).mono (aI.refl _ _) (λ_ h=>.inl h)
 | .bool b,p,y,v,h,_,hv=>by simp only[view,gL,gM] at h;obtain ⟨_,rfl⟩:=h;exact (hv.toP rfl).mono (aI.refl _ _) (λ_ h=>.inl h)
 | .str s,p,y,v,h,_,hv=>by simp only[view,gL,gM] at h;obtain ⟨_,rfl⟩:=h;exact (hv.toP rfl).mono (aI.refl _ _) (λ_ h=>.inl h)
 | .nilp,p,y,v,h,_,hv=>by simp only[view,gL,gM] at h;obtain ⟨_,rfl⟩:=h;exact (hv.toP rfl).mono (aI.refl _ _) (λ_ h=>.inl h)
 | .nili,p,y,v,h,_,hv=>by simp only[view,gL,gM] at h;obtain ⟨_,rfl⟩:=h;exact (hv.toP rfl).mono (aI.refl _ _) (λ_ h=>.inl h)
 | .ifc,p,y,v,h,_,hv=>by simp only[view,gL,gM] at h;obtain ⟨_,rfl⟩:=h;exact (hv.toP rfl).mono (aI.refl _ _) (λ_ h=>.inl h)
 | .nils,p,y,v,h,_,hv=>by simp only[view,gL,gM] at h;obtain ⟨_,rfl⟩:=h;exact (hv.toP rfl).mono (aI.refl _ _) (λ_ h=>.inl h)
 | .nilm,p,y,v,h,_,hv=>by simp only[view,gL,gM] at h;obtain ⟨_,rfl⟩:=h;exact (hv.toP rfl).mono (aI.refl _ _) (λ_ h=>.inl h)
 | .sl rows,p,y,v,h,_,hv=>by simp only[view,gL,gM] at h;obtain ⟨_,rfl⟩:=h;exact (hv.toP rfl).mono (aI.refl _ _) (λ_ h=>.inl h)
 | .rp c o,p,y,v,h,_,hv=>by simp only[view,gL,gM] at h;obtain ⟨_,rfl⟩:=h;exact (hv.toP rfl).mono (aI.refl _ _) (λ_ h=>.inl h)
 | .rm kvs,p,y,v,h,_,hv=>by simp only[view,gL,gM] at h;obtain ⟨_,rfl⟩:=h;exact (hv.toP rfl).mono (aI.refl _ _) (λ_ h=>.inl h)
theorem kh {μ:Nat->Option Nat} {S:Nat->Prop} {a:Act} {w:World} (hi:Inv C μ S σ a w):∀(l:List AV) {p:Prop} {l':List AV},fv σ.hp l=some (p,l')->p->∀(f:Nat->Value),
  (∀(j:Nat) x,l[j]? = some x->Rd μ S w (f j) x)->l.length=l'.length/\∀(j:Nat) x,l'[j]? = some x->RdP (λb=>S b\/∃id,μ id=some b) w (f j) x
 | [],p,l',h,_,f,_=>by
  simp only[fv,gL,gM] at h;obtain ⟨_,rfl⟩:=h;exact ⟨rfl,λj x hx=>by simp at hx⟩
 | x::r,p,l',h,hp,f,hf=>by
  simp only[fv] at h;split at h
  ·rename_i p1 y q l hx hr;simp only[gL,gM] at h;obtain ⟨rfl,rfl⟩:=h;have h1:=Cp hi x hx hp.1 (hf 0 x rfl);obtain ⟨h2,h3⟩:=kh hi r hr hp.2 (λj=>f (j+1)) (λj z hz=>hf (j+1) z Zb);refine ⟨by simp[h2],λj z hz=>?_⟩;cases j with
   | zero=>simp only[List.getElem?_cons_zero,gL] at hz;subst hz;exact h1
   | succ j=>exact h3 j z Zb
  ·cases h
end
theorem q_ {o:Oper} {c:Operand} {args:Array Operand} {ats:Array TypeId} (ho:o.op=.call { callee:=.value c,args,argTypes:=ats }) {p q:Prop} {f:FuncId} {xs ys:List AV}
  (h:ax σ c args.toList=some (p,f,xs)) (hp:p) (hv:fv σ.hp xs=some (q,ys)) (hq:q) (hc:aH P f) {r:AV} (hr:r.scalar=true) (hf:ai P f ys [] λr' _=>r'=r) :
  eK P C o σ (σ.put o.dst r):=by
 intro a w K Q ⟨μ,S,hi⟩ hK;obtain ⟨vs,h1,h2,h3⟩:=jg hi ho h hp hc;obtain ⟨g1,g2⟩:=kh hi xs hv hq (λj=>vs.getD j undef) h2;unfold Oper.wp;rw[h3];refine (hf (λb=>S b\/∃id,μ id=some b) (λ_=>none) w vs (by rw[h1,g1]) (λj x hj=>.pure (g2 j x hj)) ⟨λid b h=>by simp[aa] at h,λid g h=>Qs,λid id' g h=>Qs,hi.gok.nil⟩ (λb hb=>by
  rcases hb with hb | ⟨id,hb⟩
  ·exact (hi.sb b hb).1
  ·exact (hi.dom id b hb).2.2.2)).mono ?_
 rintro e w' ⟨v,r',H',μ',S',rfl,rfl,k1,k2,k3,k4,k5⟩;have hfr:Frm (λ_=>False) w w':=⟨k3.os,k3.tape,k3.output,k3.size,λb hb _=>k3.block b hb Wi⟩;have hi':=hi.called hfr (S':=λ_=>False) (λb hb=>hb.elim);exact hK _ _ ⟨μ,_,hi'.put o.dst (k1.scalar hr)⟩
end
end Go.Eng
namespace Go.Eng
section
variable {P:Program} {T:Tab} {C:Ctx} {σ σ':St} {Ret:St->Prop}
def go (T:Tab):Nat->List It->St->Option (Prop×List It×St)
 | 0,k,σ=>some (True,k,σ)
 | n+1,k,σ=>
  match k with
  | .code (.seq x y)::k=>go T n (.code x::.code y::k) σ
  | .code (.block id c)::k=>go T n (.code c::.blk id::k) σ
  | .code .skip::k=>go T n k σ
  | .blk _::k=>go T n k σ
  | .code (.exit id)::k=>
   match exitTo id k with
   | some k'=>go T n k' σ
   | none=>none
  | .code (.region _ ops false)::k=>go T n (.ops ops ops.toList::k) σ
  | .ops all l::k=>
   match jR T all l σ with
   | some (p,[],σ')=>(go T n k σ').map λr=>(p/\r.1,r.2)
   | some (p,o::l',σ')=>some (p,.ops all (o::l')::k,σ')
   | none=>none
  | k=>some (True,k,σ)
theorem fq (hT:TabOK P T):∀(n:Nat) {k k':List It} {σ σ':St} {p:Prop},go T n k σ=some (p,k',σ')->p->Cw P C Ret k' σ'->Cw P C Ret k σ
 | 0,k,k',σ,σ',p,h,_,hk=>by
  simp only[go,gL,gM] at h;obtain ⟨_,rfl,rfl⟩:=h;exact hk
 | n+1,k,k',σ,σ',p,h,hp,hk=>by
  unfold go at h;split at h
  ·exact qh (fq hT n h hp hk)
  ·exact yG (fq hT n h hp hk)
  ·exact CF (fq hT n h hp hk)
  ·exact Fp (fq hT n h hp hk)
  ·split at h
   ·rename_i k1 he;exact CD he (fq hT n h hp hk)
   ·cases h
  ·exact vD (fq hT n h hp hk)
  ·rename_i all l k2;split at h
   ·rename_i q σ1 hr;cases e:go T n k2 σ1 with
    | none=>rw[e] at h;cases h
    | some r=>
     obtain ⟨r1,r2,r3⟩:=r;simp only[e,Option.map_some,gL,gM] at h;obtain ⟨rfl,rfl,rfl⟩:=h;exact Ft hT hr hp.1 (jv (fq hT n e hp.2 hk))
   ·rename_i q o l' σ1 hr;simp only[gL,gM] at h;obtain ⟨rfl,rfl,rfl⟩:=h;exact Ft hT hr hp hk
   ·cases h
  ·simp only[gL,gM] at h;obtain ⟨_,rfl,rfl⟩:=h;exact hk
end
end Go.Eng
