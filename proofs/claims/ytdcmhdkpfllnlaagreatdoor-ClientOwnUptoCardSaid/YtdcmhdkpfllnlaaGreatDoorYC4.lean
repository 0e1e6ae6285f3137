/- Texts of this claim, part 4: EngL, Tab, EngN. No condition. -/
import Derived.Test.YtdcmhdkpfllnlaaGreatDoorYC3
import Derived.Test.YtdcmhdkpfllnlaaGreatDoorProg
import Derived.KernelRfl
set_option maxRecDepth 10000
set_option maxHeartbeats 4000000
set_option linter.unusedSimpArgs false
set_option linter.unusedVariables false
namespace Go.Eng
section
variable {P:Program} {T:Tab} {C:Ctx} {σ σ':St}
def aP (P:Program) (f:FuncId):Prop:=∃fn,P.funcs[f]? = some fn/\(fn.name == "runtime.NumGoroutine")=false/\fn.body.isSome=true
mutual
def AV.scalar:AV->Bool
 | .int .. | .bool _ | .str _ | .nilp | .nili | .ifc | .nils | .nilm=>true
 | .tup vs=>ns vs
 | .agg vs=>ns vs
 | _=>false
def ns:List AV->Bool
 | []=>true
 | x::r=>x.scalar&&ns r
end
theorem jI {x:AV}:∀{l:List AV} {j:Nat},ns l=true->l[j]? = some x->x.scalar=true
 | [],j,_,h=>by simp at h
 | y::r,j,hl,h=>by
  simp only[ns,Bool.and_eq_true] at hl;cases j with
  | zero=>simp only[List.getElem?_cons_zero,Option.some.injEq] at h;subst h;exact hl.1
  | succ j=>exact jI hl.2 p5
theorem RdP.scalar {S S':Nat->Prop} {w w':World} {v:Value} {x:AV} (h:RdP S w v x) (hx:x.scalar=true):RdP S' w' v x:=by
 induction h with
 | int k n=>exact .int k n
 | bool b=>exact .bool b
 | str s l h=>exact .str s l h
 | nilp=>exact .nilp
 | nili=>exact .nili
 | ifc t p=>exact .ifc t p
 | nils=>exact .nils
 | nilm=>exact .nilm
 | agg cs cells hl hr ih=>exact .agg cs cells hl (λj x hj=>ih j x hj (jI WZ hj))
 | sl=>cases hx
 | rp=>cases hx
 | rm=>cases hx
 | fn=>cases hx
theorem Rd.scalar {μ μ':Nat->Option Nat} {S S':Nat->Prop} {w w':World} {v:Value} {x:AV} (h:Rd μ S w v x) (hx:x.scalar=true):Rd μ' S' w' v x:=by
 induction h with
 | any=>cases hx
 | pure h=>exact .pure (h.scalar hx)
 | agg cs cells hl hr ih=>exact .agg cs cells hl (λj x hj=>ih j x hj (jI WZ hj))
 | tup cs cells hl hr ih=>exact .tup cs cells hl (λj x hj=>ih j x hj (jI WZ hj))
 | fn=>cases hx
 | ptr=>cases hx
 | osl=>cases hx
 | mp=>cases hx
 | exs=>cases hx
 | cndT=>cases hx
 | cndF=>cases hx
theorem Rd.free {μ μ':Nat->Option Nat} {S:Nat->Prop} {w:World} {v:Value} {x:AV} (h:Rd μ S w v x) (hx:refs x=[]):Rd μ' S w v x:=by
 induction h with
 | any v=>exact .any v
 | pure h=>exact .pure h
 | agg cs cells hl hr ih=>exact .agg cs cells hl (λj x hj=>ih j x hj (refsL_nil WH hj))
 | tup cs cells hl hr ih=>exact .tup cs cells hl (λj x hj=>ih j x hj (refsL_nil WH hj))
 | fn f vals caps hl hr ih=>exact .fn f vals caps hl (λj x hj=>ih j x hj (refsL_nil WH hj))
 | ptr=>simp[refs] at hx
 | osl=>simp[refs] at hx
 | mp=>simp[refs] at hx
 | exs=>simp[refs] at hx
 | cndT v x h ih=>exact .cndT v x (ih WH)
 | cndF x=>exact .cndF x
where
 refsL_nil {x:AV}:∀{l:List AV} {j:Nat},aE l=[]->l[j]? = some x->refs x=[]
  | [],j,_,h=>by simp at h
  | y::r,j,hl,h=>by
   simp only[aE,List.append_eq_nil_iff] at hl;cases j with
   | zero=>simp only[List.getElem?_cons_zero,Option.some.injEq] at h;subst h;exact hl.1
   | succ j=>exact refsL_nil hl.2 p5
theorem Inv.called {μ:Nat->Option Nat} {S S':Nat->Prop} {a:Act} {w w':World} (hi:Inv C μ S σ a w) (hf:Frm (λ_=>False) w w')
  (hS:∀b,S' b->b<w'.heap.size/\(S b\/w.heap.size≤b)):Inv C μ (λb=>S b\/S' b) σ a w':=by
 have hb:∀b,b<w.heap.size->w'.heap[b]? = w.heap[b]?:=λb h=>hf.block b h (λh=>h)
 have hw:aM S w w':=λb h=>hb b (hi.sb b h).1
 have hz:∀i g,μ i=some g->aj w' g=aj w g:=λi g h=>aI (hb g (hi.dom i g h).2.2.2)
 refine ⟨hi.size,hi.defers,λt x hx=>(hi.tm t x hx).mono hw (λ_ h=>.inl h) (λ_ _ h=>h) hz,λi b h=>(hi.hp i b h).mono hw (λ_ h=>.inl h) (λ_ _ h=>h) hz (λh=>h) (λg h=>hb g (hi.dom i g h).2.2.2),λi g h=>?_,hi.inj,hi.frm.step (λ_=>False) hf (λ_ h=>h.elim),λb h=>?_⟩
 ·obtain ⟨h1,h2,h3,h4⟩:=hi.dom i g h;refine ⟨h1,h2,?_,Ya h4 hf.size⟩;rintro (h | h)
  ·exact h3 h
  ·rcases (hS g h).2 with h | h
   ·exact h3 h
   ·omega
 ·rcases h with h | h
  ·exact ⟨Ya (hi.sb b h).1 hf.size,(hi.sb b h).2⟩
  ·refine ⟨(hS b h).1,?_⟩
   rcases (hS b h).2 with h | h
   ·exact (hi.sb b h).2
   ·have:=hi.frm.size;exact .inr (.inr z8)
def az (σ:St) (c:Operand) (args:List Operand):Option (Prop×FuncId×List AV):=
 match evS σ c with
 | (p,.fn f caps)=>some (p/\(eN σ args).1,f,(eN σ args).2++caps)
 | _=>none
theorem kc {o:Oper} {c:Operand} {args:Array Operand} {ats:Array TypeId} {μ:Nat->Option Nat} {S:Nat->Prop} {a:Act} {w:World} (hi:Inv C μ S σ a w)
  (ho:o.op=.call { callee:=.value c,args,argTypes:=ats }) {p:Prop} {f:FuncId} {xs:List AV} (h:az σ c args.toList=some (p,f,xs)) (hp:p) (hc:aP P f) :
  ∃vs:List Value,vs.length=xs.length/\(∀(j:Nat) x,xs[j]? = some x->Rd μ S w (vs.getD j undef) x)/\(execOp a.eval o).run P w=.ok (.enter f vs.toArray) w:=by
 unfold az at h;split at h
 ·rename_i q f' caps hev;simp only[Option.some.injEq,Prod.mk.injEq] at h;obtain ⟨rfl,rfl,rfl⟩:=h;have hv:=hi.evS c (by rw[hev];exact hp.1);rw[hev] at hv;obtain ⟨vals,he,hl,hr⟩:=hv.Ao;obtain ⟨fn,hf,hn,hb⟩:=hc;refine ⟨args.toList.map a.eval++vals.toList,by simp[l_,hl],λj x hx=>?_,?_⟩
  ·by_cases hj:j<args.toList.length
   ·rw[YO (by rw[l_];exact hj)] at hx;obtain ⟨o',ho',hr'⟩:=hi.eN _ hp.2 j x hx;rw[Wv,YO QI,Wz,ho'];exact hr'
   ·rw[YN (by rw[l_];omega),l_] at hx;have:=hr _ x hx;rw[Wv,YN QI];rw[Wx,←YQ] at this;rw[List.length_map];exact this
  ·have hb':¬fn.body=none:=by intro e;rw[e] at hb;cases hb
   have hn':¬fn.name = "runtime.NumGoroutine":=by simpa using hn
   have e1:(#[]++args.map a.eval++vals)=(args.toList.map a.eval++vals.toList).toArray:=by
    apply Array.ext';simp
   simp[execOp,ho,resolve,he,Deferred.ofValue,invoke,callFunc,hf,hn',hb']
 ·cases h
theorem nv {o:Oper} {c:Operand} {args:Array Operand} {ats:Array TypeId} (ho:o.op=.call { callee:=.value c,args,argTypes:=ats }) {p:Prop} {f:FuncId} {xs:List AV}
  (h:az σ c args.toList=some (p,f,xs)) (hp:p) (hc:aP P f) (hx:aE xs=[]) {r:AV} (hr:refs r=[]) (hf:af P f xs [] λr' _=>r'=r):e_ P C o σ (σ.put o.dst r):=by
 intro a w K Q ⟨μ,S,hi⟩ hK;obtain ⟨vs,h1,h2,h3⟩:=kc hi ho h hp hc;unfold Oper.wp;rw[h3];refine (hf S (λ_=>none) w vs h1 (λj x hj=>(h2 j x hj).free (Rd.free.refsL_nil hx hj)) ⟨λid b h=>by simp[aa] at h,λid g h=>Q0,λid id' g h=>Q0,hi.gok.nil⟩ (λb hb=>(hi.sb b hb).1)).mono ?_;rintro e w' ⟨v,r',H',μ',S',rfl,rfl,k1,k2,k3,k4,k5⟩;have hfr:Frm (λ_=>False) w w':=⟨k3.os,k3.tape,k3.output,k3.size,λb hb _=>k3.block b hb Wa⟩;have hi':=hi.called hfr (S':=S') (λb hb=>⟨(k5 b hb).1,by
  rcases (k5 b hb).2 with h | ⟨id,h⟩ | h
  ·exact .inl h
  ·cases h
  ·exact .inr h⟩)
 exact hK _ _ ⟨μ,_,hi'.put o.dst ((k1.mono (aM.refl _ _) (λ_ h=>.inr h) (λ_ _ h=>h) (λ_ _ _=>rfl)).free hr)⟩
mutual
def view (h:List (Nat×Blk)):AV->Option (Prop×AV)
 | .osl id s off len=>
  match aa h id with
  | some (.cells _ s' rows)=>if s=s' then some (off+len≤rows.length/\(rows.all λrow=>row.all AV.bc)=true,.sl ((rows.drop off).take len)) else none
  | _=>none
 | .ptr id s row off=>
  match aa h id with
  | some (.cells _ s' rows)=>if s=s' then some (row<rows.length/\((rows.getD row []).all AV.bc)=true,.rp (rows.getD row []) off) else none
  | _=>none
 | .mp id=>
  match aa h id with
  | some (.map kvs)=>some (True,.rm kvs)
  | _=>none
 | .fn f caps=>(fA h caps).map λr=>(r.1,.fn f r.2)
 | .agg cells=>(fA h cells).map λr=>(r.1,.agg r.2)
 | .any=>none
 | .tup _=>none
 | .cnd ..=>none
 | .exs ..=>none
 | x=>some (True,x)
def fA (h:List (Nat×Blk)):List AV->Option (Prop×List AV)
 | []=>some (True,[])
 | x::r=>
  match view h x,fA h r with
  | some (p,y),some (q,l)=>some (p/\q,y::l)
  | _,_=>none
end
theorem B7 {l:List (List AV)} {i:Nat} (h:i<l.length):l[i]? = some (l.getD i []):=by
 rw[Wv,Ww h];rfl
mutual
theorem Bu {μ:Nat->Option Nat} {S:Nat->Prop} {a:Act} {w:World} (hi:Inv C μ S σ a w):∀(x:AV) {p:Prop} {y:AV} {v:Value},view σ.hp x=some (p,y)->p->Rd μ S w v x ->
  RdP (λb=>S b\/∃id,μ id=some b) w v y
 | .osl id s off len,p,y,v,h,hp,hv=>by
  simp only[view] at h;split at h
  ·rename_i e s' rows hb;split at h
   ·rename_i hs;subst hs;simp only[Option.some.injEq,Prod.mk.injEq] at h;obtain ⟨rfl,rfl⟩:=h;obtain ⟨hle,hpure⟩:=hp;obtain ⟨A,cap,rfl,hc,hor⟩:=hv.bP;have hl:((rows.drop off).take len).length=len:=by simp;omega
    rcases hor with ⟨rfl,h2⟩ | ⟨g,e',n,h1,rfl,h3,h4⟩
    ·exact .sl A 0 cap _ s 0 0 (λ_ _=>undef) hl hc (λrow h=>by simp at h) (λh=>by omega) (λi j h=>by omega) (λi row h=>by simp at h)
    ·rcases hi.hp id _ hb with ⟨_,k2⟩ | ⟨g',c,k1,k2,k3,k4,k5⟩
     ·rw[k2] at h1;cases h1
     ·rw[k1] at h1;injection h1 with h1;subst h1
      refine .sl _ len cap _ s g' (off*s) (λi j=>c.getD ((off+i)*s+j) undef) hl hc (λrow h=>k4 row (YS (YB h))) (λ_=>⟨rfl,.inr ⟨id,k1⟩⟩) (λi j hi' hj=>?_) (λi row h j x hx=>?_)
      ·have hlt:(off+i)*s+s≤rows.length*s:=by
        have:=YC s (show off+i+1≤rows.length by omega)
        rwa [Nat.succ_mul] at this
       rw[show off*s+(i*s+j)=(off+i)*s+j from by rw[YZ];omega,cell_of k2,Wx,W4 z8];rfl
      ·rw[YL] at h;split at h
       ·rw[YX] at h;exact ((k5 _ row h j x hx).toP (List.all_eq_true.1 (List.all_eq_true.1 hpure row (W1 h)) x (W1 hx))).mono (aM.refl _ _) (λ_ h=>.inl h)
       ·cases h
   ·cases h
  ·cases h
 | .ptr id s row off,p,y,v,h,hp,hv=>by
  simp only[view] at h;split at h
  ·rename_i e s' rows hb;split at h
   ·rename_i hs;subst hs;simp only[Option.some.injEq,Prod.mk.injEq] at h;obtain ⟨rfl,rfl⟩:=h;obtain ⟨hrow,hpure⟩:=hp;obtain ⟨g,hg,rfl⟩:=hv.iK
    rcases hi.hp id _ hb with ⟨rfl,_⟩ | ⟨g',c,k1,k2,k3,k4,k5⟩
    ·simp at hrow
    ·rw[k1] at hg;injection hg with hg;subst hg
     have hr:=B7 hrow;have hlen:=k4 _ (W1 hr);have hlt:=iy (size:=s) hr;refine .rp g' (row*s) off _ (λj=>c.getD (row*s+j) undef) (.inr ⟨id,k1⟩) (λj hj=>?_) (λj x hx=>?_)
     ·rw[cell_of k2,Wx,W4 z8];rfl
     ·exact ((k5 _ _ hr j x hx).toP (List.all_eq_true.1 hpure x (W1 hx))).mono (aM.refl _ _) (λ_ h=>.inl h)
   ·cases h
  ·cases h
 | .mp id,p,y,v,h,hp,hv=>by
  simp only[view] at h;split at h
  ·rename_i kvs hb;simp only[Option.some.injEq,Prod.mk.injEq] at h;obtain ⟨_,rfl⟩:=h;obtain ⟨g,hg,rfl⟩:=hv.sO;obtain ⟨g',es,clk,vals,k1,k2,k3,k4⟩:=hi.hp id _ hb;rw[k1] at hg;injection hg with hg;subst hg
   exact .rm g' es clk kvs vals (.inr ⟨id,k1⟩) k2 k3 (λq hq=>(k4 q hq).mono (aM.refl _ _) (λ_ h=>.inl h))
  ·cases h
 | .fn f caps,p,y,v,h,hp,hv=>by
  simp only[view] at h;cases e:fA σ.hp caps with
  | none=>rw[e] at h;cases h
  | some q=>
   obtain ⟨q1,l⟩:=q;simp only[e,Option.map_some,Option.some.injEq,Prod.mk.injEq] at h;obtain ⟨rfl,rfl⟩:=h;obtain ⟨vals,rfl,hl,hr⟩:=hv.Ao;obtain ⟨h1,h2⟩:=jM hi caps e hp (λj=>vals.getD j undef) hr;exact .fn f vals l (by rw[hl,h1]) h2
 | .agg cells,p,y,v,h,hp,hv=>by
  simp only[view] at h;cases e:fA σ.hp cells with
  | none=>rw[e] at h;cases h
  | some q=>
   obtain ⟨q1,l⟩:=q;simp only[e,Option.map_some,Option.some.injEq,Prod.mk.injEq] at h;obtain ⟨rfl,rfl⟩:=h;obtain ⟨cs,rfl,hl,hr⟩:=hv.mW;obtain ⟨h1,h2⟩:=jM hi cells e hp (λj=>cs.getD j undef) hr;exact .agg cs l (by rw[hl,h1]) h2
 | .any,p,y,v,h,_,_=>by simp[view] at h
 | .tup _,p,y,v,h,_,_=>by simp[view] at h
 | .cnd ..,p,y,v,h,_,_=>by simp[view] at h
 | .exs ..,p,y,v,h,_,_=>by simp[view] at h
 | .int k n,p,y,v,h,_,hv=>by simp only[view,Option.some.injEq,Prod.mk.injEq] at h;obtain ⟨_,rfl⟩:=h;exact (hv.toP rfl).mono (aM.refl _ _) (λ_ h=>.inl h)
 | .bool b,p,y,v,h,_,hv=>by simp only[view,Option.some.injEq,Prod.mk.injEq] at h;obtain ⟨_,rfl⟩:=h;exact (hv.toP rfl).mono (aM.refl _ _) (λ_ h=>.inl h)
 | .str s,p,y,v,h,_,hv=>by simp only[view,Option.some.injEq,Prod.mk.injEq] at h;obtain ⟨_,rfl⟩:=h;exact (hv.toP rfl).mono (aM.refl _ _) (λ_ h=>.inl h)
 | .nilp,p,y,v,h,_,hv=>by simp only[view,Option.some.injEq,Prod.mk.injEq] at h;obtain ⟨_,rfl⟩:=h;exact (hv.toP rfl).mono (aM.refl _ _) (λ_ h=>.inl h)
 | .nili,p,y,v,h,_,hv=>by simp only[view,Option.some.injEq,Prod.mk.injEq] at h;obtain ⟨_,rfl⟩:=h;exact (hv.toP rfl).mono (aM.refl _ _) (λ_ h=>.inl h)
 | .ifc,p,y,v,h,_,hv=>by simp only[view,Option.some.injEq,Prod.mk.injEq] at h;obtain ⟨_,rfl⟩:=h;exact (hv.toP rfl).mono (aM.refl _ _) (λ_ h=>.inl h)
 | .nils,p,y,v,h,_,hv=>by simp only[view,Option.some.injEq,Prod.mk.injEq] at h;obtain ⟨_,rfl⟩:=h;exact (hv.toP rfl).mono (aM.refl _ _) (λ_ h=>.inl h)
 | .nilm,p,y,v,h,_,hv=>by simp only[view,Option.some.injEq,Prod.mk.injEq] at h;obtain ⟨_,rfl⟩:=h;exact (hv.toP rfl).mono (aM.refl _ _) (λ_ h=>.inl h)
 | .sl rows,p,y,v,h,_,hv=>by simp only[view,Option.some.injEq,Prod.mk.injEq] at h;obtain ⟨_,rfl⟩:=h;exact (hv.toP rfl).mono (aM.refl _ _) (λ_ h=>.inl h)
 | .rp c o,p,y,v,h,_,hv=>by simp only[view,Option.some.injEq,Prod.mk.injEq] at h;obtain ⟨_,rfl⟩:=h;exact (hv.toP rfl).mono (aM.refl _ _) (λ_ h=>.inl h)
 | .rm kvs,p,y,v,h,_,hv=>by simp only[view,Option.some.injEq,Prod.mk.injEq] at h;obtain ⟨_,rfl⟩:=h;exact (hv.toP rfl).mono (aM.refl _ _) (λ_ h=>.inl h)
theorem jM {μ:Nat->Option Nat} {S:Nat->Prop} {a:Act} {w:World} (hi:Inv C μ S σ a w):∀(l:List AV) {p:Prop} {l':List AV},fA σ.hp l=some (p,l')->p->∀(f:Nat->Value),
  (∀(j:Nat) x,l[j]? = some x->Rd μ S w (f j) x)->l.length=l'.length/\∀(j:Nat) x,l'[j]? = some x->RdP (λb=>S b\/∃id,μ id=some b) w (f j) x
 | [],p,l',h,_,f,_=>by
  simp only[fA,Option.some.injEq,Prod.mk.injEq] at h;obtain ⟨_,rfl⟩:=h;exact ⟨rfl,λj x hx=>by simp at hx⟩
 | x::r,p,l',h,hp,f,hf=>by
  simp only[fA] at h;split at h
  ·rename_i p1 y q l hx hr;simp only[Option.some.injEq,Prod.mk.injEq] at h;obtain ⟨rfl,rfl⟩:=h;have h1:=Bu hi x hx hp.1 (hf 0 x rfl);obtain ⟨h2,h3⟩:=jM hi r hr hp.2 (λj=>f (j+1)) (λj z hz=>hf (j+1) z Zf);refine ⟨by simp[h2],λj z hz=>?_⟩;cases j with
   | zero=>simp only[List.getElem?_cons_zero,Option.some.injEq] at hz;subst hz;exact h1
   | succ j=>exact h3 j z Zf
  ·cases h
end
theorem vz {o:Oper} {c:Operand} {args:Array Operand} {ats:Array TypeId} (ho:o.op=.call { callee:=.value c,args,argTypes:=ats }) {p q:Prop} {f:FuncId} {xs ys:List AV}
  (h:az σ c args.toList=some (p,f,xs)) (hp:p) (hv:fA σ.hp xs=some (q,ys)) (hq:q) (hc:aP P f) {r:AV} (hr:r.scalar=true) (hf:af P f ys [] λr' _=>r'=r) :
  e_ P C o σ (σ.put o.dst r):=by
 intro a w K Q ⟨μ,S,hi⟩ hK;obtain ⟨vs,h1,h2,h3⟩:=kc hi ho h hp hc;obtain ⟨g1,g2⟩:=jM hi xs hv hq (λj=>vs.getD j undef) h2;unfold Oper.wp;rw[h3];refine (hf (λb=>S b\/∃id,μ id=some b) (λ_=>none) w vs (by rw[h1,g1]) (λj x hj=>.pure (g2 j x hj)) ⟨λid b h=>by simp[aa] at h,λid g h=>Q0,λid id' g h=>Q0,hi.gok.nil⟩ (λb hb=>by
  rcases hb with hb | ⟨id,hb⟩
  ·exact (hi.sb b hb).1
  ·exact (hi.dom id b hb).2.2.2)).mono ?_
 rintro e w' ⟨v,r',H',μ',S',rfl,rfl,k1,k2,k3,k4,k5⟩;have hfr:Frm (λ_=>False) w w':=⟨k3.os,k3.tape,k3.output,k3.size,λb hb _=>k3.block b hb Wa⟩;have hi':=hi.called hfr (S':=λ_=>False) (λb hb=>hb.elim);exact hK _ _ ⟨μ,_,hi'.put o.dst (k1.scalar hr)⟩
end
end Go.Eng
namespace Go.Eng
def HG:TypeId->KD
 | 2=>(.int .i64)
 | 3=>(.int .i64)
 | 4=>.bool
 | 5=>(.int .u8)
 | 6=>(.int .u8)
 | 7=>.struct
 | 8=>.struct
 | 9=>.str
 | 10=>.str
 | 11=>.str
 | 12=>(.int .u64)
 | 13=>.struct
 | 14=>.struct
 | 15=>(.ptr 281)
 | 16=>(.ptr 284)
 | 17=>(.ptr 293)
 | 18=>.struct
 | 19=>.struct
 | 21=>(.int .i32)
 | 22=>(.sl 3)
 | 23=>(.sl 26)
 | 24=>(.sl 5)
 | 25=>.struct
 | 26=>.struct
 | 27=>(.sl 62)
 | 28=>(.sl 120)
 | 29=>.struct
 | 30=>.struct
 | 31=>(.sl 40)
 | 32=>.struct
 | 33=>.struct
 | 36=>(.sl 67)
 | 37=>(.sl 116)
 | 38=>(.sl 76)
 | 39=>.struct
 | 40=>.struct
 | 42=>(.int .i64)
 | 43=>.struct
 | 44=>.struct
 | 52=>(.sl 9)
 | 55=>(.map 3 62)
 | 56=>(.map 3 62)
 | 60=>(.sl 101)
 | 61=>.struct
 | 62=>.struct
 | 66=>.struct
 | 67=>.struct
 | 75=>.struct
 | 76=>.struct
 | 77=>(.ptr 80)
 | 79=>.struct
 | 80=>.struct
 | 82=>(.ptr 26)
 | 87=>.struct
 | 88=>.struct
 | 95=>(.ptr 97)
 | 96=>.struct
 | 97=>.struct
 | 100=>.struct
 | 101=>.struct
 | 115=>.struct
 | 116=>.struct
 | 119=>.struct
 | 120=>.struct
 | 123=>(.ptr 62)
 | 136=>(.ptr 88)
 | 141=>(.sl 145)
 | 144=>.struct
 | 145=>.struct
 | 167=>(.ptr 169)
 | 168=>.struct
 | 169=>.struct
 | 172=>(.ptr 116)
 | 184=>(.sl 88)
 | 200=>.struct
 | 201=>.struct
 | 204=>(.int .u64)
 | 220=>(.ptr 224)
 | 221=>(.map 3 3)
 | 222=>(.map 3 4)
 | 223=>.struct
 | 224=>.struct
 | 232=>(.int .i64)
 | 239=>(.int .u32)
 | 241=>(.int .u64)
 | 256=>(.int .u64)
 | 260=>(.ptr 3)
 | 267=>(.ptr 256)
 | 272=>.struct
 | 273=>.struct
 | 280=>.struct
 | 281=>.struct
 | 286=>(.int .u8)
 | 287=>(.int .u8)
 | 289=>(.ptr 5)
 | 290=>(.int .i32)
 | 291=>(.int .i32)
 | _=>.other
def Bk:TypeId->Nat
 | 2=>1
 | 3=>1
 | 4=>1
 | 5=>1
 | 6=>1
 | 7=>4
 | 8=>4
 | 9=>1
 | 10=>1
 | 11=>1
 | 12=>1
 | 13=>2
 | 14=>2
 | 15=>1
 | 16=>1
 | 17=>1
 | 18=>1
 | 19=>1
 | 21=>1
 | 22=>1
 | 23=>1
 | 24=>1
 | 25=>6
 | 26=>6
 | 27=>1
 | 28=>1
 | 29=>3
 | 30=>3
 | 31=>1
 | 32=>4
 | 33=>4
 | 36=>1
 | 37=>1
 | 38=>1
 | 39=>10
 | 40=>10
 | 42=>1
 | 43=>4
 | 44=>4
 | 52=>1
 | 55=>1
 | 56=>1
 | 60=>1
 | 61=>5
 | 62=>5
 | 66=>8
 | 67=>8
 | 75=>2
 | 76=>2
 | 77=>1
 | 79=>13
 | 80=>13
 | 82=>1
 | 87=>7
 | 88=>7
 | 95=>1
 | 96=>13
 | 97=>13
 | 100=>2
 | 101=>2
 | 115=>9
 | 116=>9
 | 119=>8
 | 120=>8
 | 123=>1
 | 136=>1
 | 141=>1
 | 144=>2
 | 145=>2
 | 167=>1
 | 168=>9
 | 169=>9
 | 172=>1
 | 184=>1
 | 200=>4
 | 201=>4
 | 204=>1
 | 220=>1
 | 221=>1
 | 222=>1
 | 223=>6
 | 224=>6
 | 232=>1
 | 239=>1
 | 241=>1
 | 256=>1
 | 260=>1
 | 267=>1
 | 272=>2
 | 273=>2
 | 280=>4
 | 281=>4
 | 286=>1
 | 287=>1
 | 289=>1
 | 290=>1
 | 291=>1
 | _=>0
def J0:TypeId->Nat
 | 2=>8
 | 3=>8
 | 4=>1
 | 5=>1
 | 6=>1
 | 7=>24
 | 8=>24
 | 9=>16
 | 10=>16
 | 11=>16
 | 12=>8
 | 13=>24
 | 14=>24
 | 15=>8
 | 16=>8
 | 17=>8
 | 18=>8
 | 19=>8
 | 21=>4
 | 22=>24
 | 23=>24
 | 24=>24
 | 25=>80
 | 26=>80
 | 27=>24
 | 28=>24
 | 29=>56
 | 30=>56
 | 31=>24
 | 32=>80
 | 33=>80
 | 36=>24
 | 37=>24
 | 38=>24
 | 39=>144
 | 40=>144
 | 42=>8
 | 43=>48
 | 44=>48
 | 52=>24
 | 55=>8
 | 56=>8
 | 60=>24
 | 61=>72
 | 62=>72
 | 66=>96
 | 67=>96
 | 75=>24
 | 76=>24
 | 77=>8
 | 79=>200
 | 80=>200
 | 82=>8
 | 87=>88
 | 88=>88
 | 95=>8
 | 96=>200
 | 97=>200
 | 100=>24
 | 101=>24
 | 115=>104
 | 116=>104
 | 119=>96
 | 120=>96
 | 123=>8
 | 136=>8
 | 141=>24
 | 144=>16
 | 145=>16
 | 167=>8
 | 168=>120
 | 169=>120
 | 172=>8
 | 184=>24
 | 200=>64
 | 201=>64
 | 204=>8
 | 220=>8
 | 221=>8
 | 222=>8
 | 223=>64
 | 224=>64
 | 232=>8
 | 239=>4
 | 241=>8
 | 256=>8
 | 260=>8
 | 267=>8
 | 272=>2
 | 273=>2
 | 280=>40
 | 281=>40
 | 286=>1
 | 287=>1
 | 289=>8
 | 290=>4
 | 291=>4
 | _=>0
def J1:TypeId->List AV
 | 2=>[.int .i64 0]
 | 3=>[.int .i64 0]
 | 4=>[.bool false]
 | 5=>[.int .u8 0]
 | 6=>[.int .u8 0]
 | 7=>[.int .i64 0,.int .i64 0,.bool false,.int .u8 0]
 | 8=>[.int .i64 0,.int .i64 0,.bool false,.int .u8 0]
 | 9=>[.str []]
 | 10=>[.str []]
 | 11=>[.str []]
 | 12=>[.int .u64 0]
 | 13=>[.str [],.int .u64 0]
 | 14=>[.str [],.int .u64 0]
 | 15=>[.nilp]
 | 16=>[.nilp]
 | 17=>[.nilp]
 | 18=>[.nilp]
 | 19=>[.nilp]
 | 21=>[.int .i32 0]
 | 22=>[.nils]
 | 23=>[.nils]
 | 24=>[.nils]
 | 25=>[.int .i64 0,.int .i64 0,.int .i64 0,.str [],.str [],.nils]
 | 26=>[.int .i64 0,.int .i64 0,.int .i64 0,.str [],.str [],.nils]
 | 27=>[.nils]
 | 28=>[.nils]
 | 29=>[.nils,.int .i64 0,.nils]
 | 30=>[.nils,.int .i64 0,.nils]
 | 31=>[.nils]
 | 32=>[.nils,.int .i64 0,.nils,.nils]
 | 33=>[.nils,.int .i64 0,.nils,.nils]
 | 36=>[.nils]
 | 37=>[.nils]
 | 38=>[.nils]
 | 39=>[.int .i64 0,.bool false,.int .i64 0,.nils,.nils,.nils,.nils,.int .i64 0,.int .i64 0,.int .i64 0]
 | 40=>[.int .i64 0,.bool false,.int .i64 0,.nils,.nils,.nils,.nils,.int .i64 0,.int .i64 0,.int .i64 0]
 | 42=>[.int .i64 0]
 | 43=>[.int .i64 0,.int .i64 0,.int .i64 0,.nils]
 | 44=>[.int .i64 0,.int .i64 0,.int .i64 0,.nils]
 | 52=>[.nils]
 | 55=>[.nilm]
 | 56=>[.nilm]
 | 60=>[.nils]
 | 61=>[.int .i64 0,.bool false,.nils,.nils,.int .i64 0]
 | 62=>[.int .i64 0,.bool false,.nils,.nils,.int .i64 0]
 | 66=>[.int .i64 0,.bool false,.nils,.nils,.int .i64 0,.bool false,.int .i64 0,.int .i64 0]
 | 67=>[.int .i64 0,.bool false,.nils,.nils,.int .i64 0,.bool false,.int .i64 0,.int .i64 0]
 | 75=>[.str [],.int .i64 0]
 | 76=>[.str [],.int .i64 0]
 | 77=>[.nilp]
 | 79=>[.int .i64 0,.bool false,.int .i64 0,.nils,.nils,.nils,.nils,.int .i64 0,.int .i64 0,.int .i64 0,.nils,.int .i64 0,.nils]
 | 80=>[.int .i64 0,.bool false,.int .i64 0,.nils,.nils,.nils,.nils,.int .i64 0,.int .i64 0,.int .i64 0,.nils,.int .i64 0,.nils]
 | 82=>[.nilp]
 | 87=>[.int .i64 0,.int .i64 0,.int .i64 0,.str [],.int .i64 0,.str [],.nils]
 | 88=>[.int .i64 0,.int .i64 0,.int .i64 0,.str [],.int .i64 0,.str [],.nils]
 | 95=>[.nilp]
 | 96=>[.int .i64 0,.bool false,.int .i64 0,.nils,.nils,.nils,.nils,.int .i64 0,.int .i64 0,.int .i64 0,.nils,.int .i64 0,.nils]
 | 97=>[.int .i64 0,.bool false,.int .i64 0,.nils,.nils,.nils,.nils,.int .i64 0,.int .i64 0,.int .i64 0,.nils,.int .i64 0,.nils]
 | 100=>[.str [],.int .i64 0]
 | 101=>[.str [],.int .i64 0]
 | 115=>[.int .i64 0,.int .i64 0,.int .i64 0,.str [],.int .i64 0,.str [],.nils,.int .i64 0,.int .i64 0]
 | 116=>[.int .i64 0,.int .i64 0,.int .i64 0,.str [],.int .i64 0,.str [],.nils,.int .i64 0,.int .i64 0]
 | 119=>[.int .i64 0,.int .i64 0,.int .i64 0,.int .i64 0,.str [],.int .i64 0,.str [],.nils]
 | 120=>[.int .i64 0,.int .i64 0,.int .i64 0,.int .i64 0,.str [],.int .i64 0,.str [],.nils]
 | 123=>[.nilp]
 | 136=>[.nilp]
 | 141=>[.nils]
 | 144=>[.int .i64 0,.int .i64 0]
 | 145=>[.int .i64 0,.int .i64 0]
 | 167=>[.nilp]
 | 168=>[.nils,.int .i64 0,.int .i64 0,.int .i64 0,.str [],.int .i64 0,.str [],.nils,.int .i64 0]
 | 169=>[.nils,.int .i64 0,.int .i64 0,.int .i64 0,.str [],.int .i64 0,.str [],.nils,.int .i64 0]
 | 172=>[.nilp]
 | 184=>[.nils]
 | 200=>[.nils,.nils,.nilm,.int .i64 0]
 | 201=>[.nils,.nils,.nilm,.int .i64 0]
 | 204=>[.int .u64 0]
 | 220=>[.nilp]
 | 221=>[.nilm]
 | 222=>[.nilm]
 | 223=>[.nils,.int .i64 0,.int .i64 0,.nilm,.nilm,.nilm]
 | 224=>[.nils,.int .i64 0,.int .i64 0,.nilm,.nilm,.nilm]
 | 232=>[.int .i64 0]
 | 239=>[.int .u32 0]
 | 241=>[.int .u64 0]
 | 256=>[.int .u64 0]
 | 260=>[.nilp]
 | 267=>[.nilp]
 | 272=>[.int .u8 0,.int .u8 0]
 | 273=>[.int .u8 0,.int .u8 0]
 | 280=>[.nilp,.nilp,.nilp,.str []]
 | 281=>[.nilp,.nilp,.nilp,.str []]
 | 286=>[.int .u8 0]
 | 287=>[.int .u8 0]
 | 289=>[.nilp]
 | 290=>[.int .i32 0]
 | 291=>[.int .i32 0]
 | _=>[]
def tFl:TypeId->List (TypeId×Nat)
 | 7=>[(2,0),(3,1),(4,2),(6,3)]
 | 8=>[(2,0),(3,1),(4,2),(6,3)]
 | 13=>[(9,0),(12,1)]
 | 14=>[(9,0),(12,1)]
 | 18=>[(17,0)]
 | 19=>[(17,0)]
 | 25=>[(3,0),(3,1),(3,2),(9,3),(9,4),(24,5)]
 | 26=>[(3,0),(3,1),(3,2),(9,3),(9,4),(24,5)]
 | 29=>[(27,0),(3,1),(28,2)]
 | 30=>[(27,0),(3,1),(28,2)]
 | 32=>[(30,0),(31,3)]
 | 33=>[(30,0),(31,3)]
 | 39=>[(3,0),(4,1),(3,2),(36,3),(37,4),(37,5),(38,6),(3,7),(3,8),(3,9)]
 | 40=>[(3,0),(4,1),(3,2),(36,3),(37,4),(37,5),(38,6),(3,7),(3,8),(3,9)]
 | 43=>[(42,0),(3,1),(3,2),(24,3)]
 | 44=>[(42,0),(3,1),(3,2),(24,3)]
 | 61=>[(3,0),(4,1),(24,2),(60,3),(3,4)]
 | 62=>[(3,0),(4,1),(24,2),(60,3),(3,4)]
 | 66=>[(62,0),(4,5),(3,6),(3,7)]
 | 67=>[(62,0),(4,5),(3,6),(3,7)]
 | 75=>[(9,0),(3,1)]
 | 76=>[(9,0),(3,1)]
 | 79=>[(40,0),(30,10)]
 | 80=>[(40,0),(30,10)]
 | 87=>[(3,0),(3,1),(3,2),(9,3),(3,4),(9,5),(24,6)]
 | 88=>[(3,0),(3,1),(3,2),(9,3),(3,4),(9,5),(24,6)]
 | 96=>[(40,0),(30,10)]
 | 97=>[(40,0),(30,10)]
 | 100=>[(9,0),(3,1)]
 | 101=>[(9,0),(3,1)]
 | 115=>[(88,0),(3,7),(3,8)]
 | 116=>[(88,0),(3,7),(3,8)]
 | 119=>[(3,0),(88,1)]
 | 120=>[(3,0),(88,1)]
 | 144=>[(42,0),(3,1)]
 | 145=>[(42,0),(3,1)]
 | 168=>[(27,0),(88,1),(3,8)]
 | 169=>[(27,0),(88,1),(3,8)]
 | 200=>[(141,0),(184,1),(56,2),(3,3)]
 | 201=>[(141,0),(184,1),(56,2),(3,3)]
 | 223=>[(27,0),(3,1),(3,2),(221,3),(222,4),(222,5)]
 | 224=>[(27,0),(3,1),(3,2),(221,3),(222,4),(222,5)]
 | 272=>[(5,0),(5,1)]
 | 273=>[(5,0),(5,1)]
 | 280=>[(17,0),(17,1),(17,2),(9,3)]
 | 281=>[(17,0),(17,1),(17,2),(9,3)]
 | _=>[]
def JK (t:TypeId) (j:Nat):Option (TypeId×Nat):=(tFl t)[j]?
def tab:Tab:=⟨HG,Bk,J0,J1,JK⟩
@[go_sem] theorem tu2:tab.und 2=(.int .i64):=rfl
@[go_sem] theorem ts2:tab.siz 2=1:=rfl
@[go_sem] theorem tz2:tab.zer 2=[.int .i64 0]:=rfl
@[go_sem] theorem tu3:tab.und 3=(.int .i64):=rfl
@[go_sem] theorem ts3:tab.siz 3=1:=rfl
@[go_sem] theorem tb3:tab.byt 3=8:=rfl
@[go_sem] theorem tz3:tab.zer 3=[.int .i64 0]:=rfl
@[go_sem] theorem tu4:tab.und 4=.bool:=rfl
@[go_sem] theorem ts4:tab.siz 4=1:=rfl
@[go_sem] theorem tz4:tab.zer 4=[.bool false]:=rfl
@[go_sem] theorem tu5:tab.und 5=(.int .u8):=rfl
@[go_sem] theorem ts5:tab.siz 5=1:=rfl
@[go_sem] theorem tb5:tab.byt 5=1:=rfl
@[go_sem] theorem tz5:tab.zer 5=[.int .u8 0]:=rfl
@[go_sem] theorem tu6:tab.und 6=(.int .u8):=rfl
@[go_sem] theorem ts6:tab.siz 6=1:=rfl
@[go_sem] theorem tz6:tab.zer 6=[.int .u8 0]:=rfl
@[go_sem] theorem tu7:tab.und 7=.struct:=rfl
@[go_sem] theorem ts7:tab.siz 7=4:=rfl
@[go_sem] theorem tz7:tab.zer 7=[.int .i64 0,.int .i64 0,.bool false,.int .u8 0]:=rfl
@[go_sem] theorem IS:tab.fld 7 0=some (2,0):=rfl
@[go_sem] theorem IT:tab.fld 7 1=some (3,1):=rfl
@[go_sem] theorem IU:tab.fld 7 2=some (4,2):=rfl
@[go_sem] theorem IV:tab.fld 7 3=some (6,3):=rfl
@[go_sem] theorem tu8:tab.und 8=.struct:=rfl
@[go_sem] theorem ts8:tab.siz 8=4:=rfl
@[go_sem] theorem tz8:tab.zer 8=[.int .i64 0,.int .i64 0,.bool false,.int .u8 0]:=rfl
@[go_sem] theorem IW:tab.fld 8 0=some (2,0):=rfl
@[go_sem] theorem IX:tab.fld 8 1=some (3,1):=rfl
@[go_sem] theorem IY:tab.fld 8 2=some (4,2):=rfl
@[go_sem] theorem IZ:tab.fld 8 3=some (6,3):=rfl
@[go_sem] theorem tu9:tab.und 9=.str:=rfl
@[go_sem] theorem ts9:tab.siz 9=1:=rfl
@[go_sem] theorem tb9:tab.byt 9=16:=rfl
@[go_sem] theorem tz9:tab.zer 9=[.str []]:=rfl
@[go_sem] theorem L_:tab.und 21=(.int .i32):=rfl
@[go_sem] theorem LC:tab.siz 21=1:=rfl
@[go_sem] theorem MC:tab.zer 21=[.int .i32 0]:=rfl
@[go_sem] theorem Ma:tab.und 22=(.sl 3):=rfl
@[go_sem] theorem LD:tab.siz 22=1:=rfl
@[go_sem] theorem MD:tab.zer 22=[.nils]:=rfl
@[go_sem] theorem Mb:tab.und 23=(.sl 26):=rfl
@[go_sem] theorem LF:tab.siz 23=1:=rfl
@[go_sem] theorem ME:tab.zer 23=[.nils]:=rfl
@[go_sem] theorem Mc:tab.und 24=(.sl 5):=rfl
@[go_sem] theorem LG:tab.siz 24=1:=rfl
@[go_sem] theorem MF:tab.zer 24=[.nils]:=rfl
@[go_sem] theorem Md:tab.und 26=.struct:=rfl
@[go_sem] theorem LH:tab.siz 26=6:=rfl
@[go_sem] theorem Lw:tab.byt 26=80:=rfl
@[go_sem] theorem MG:tab.zer 26=[.int .i64 0,.int .i64 0,.int .i64 0,.str [],.str [],.nils]:=rfl
@[go_sem] theorem HH:tab.fld 26 0=some (3,0):=rfl
@[go_sem] theorem HI:tab.fld 26 1=some (3,1):=rfl
@[go_sem] theorem HJ:tab.fld 26 2=some (3,2):=rfl
@[go_sem] theorem HK:tab.fld 26 3=some (9,3):=rfl
@[go_sem] theorem HL:tab.fld 26 4=some (9,4):=rfl
@[go_sem] theorem HM:tab.fld 26 5=some (24,5):=rfl
@[go_sem] theorem Me:tab.und 27=(.sl 62):=rfl
@[go_sem] theorem LI:tab.siz 27=1:=rfl
@[go_sem] theorem MH:tab.zer 27=[.nils]:=rfl
@[go_sem] theorem Mf:tab.und 28=(.sl 120):=rfl
@[go_sem] theorem LJ:tab.siz 28=1:=rfl
@[go_sem] theorem MI:tab.zer 28=[.nils]:=rfl
@[go_sem] theorem Mg:tab.und 30=.struct:=rfl
@[go_sem] theorem LK:tab.siz 30=3:=rfl
@[go_sem] theorem MJ:tab.zer 30=[.nils,.int .i64 0,.nils]:=rfl
@[go_sem] theorem HN:tab.fld 30 0=some (27,0):=rfl
@[go_sem] theorem HO:tab.fld 30 1=some (3,1):=rfl
@[go_sem] theorem HP:tab.fld 30 2=some (28,2):=rfl
@[go_sem] theorem Mh:tab.und 31=(.sl 40):=rfl
@[go_sem] theorem LL:tab.siz 31=1:=rfl
@[go_sem] theorem MK:tab.zer 31=[.nils]:=rfl
@[go_sem] theorem Mi:tab.und 33=.struct:=rfl
@[go_sem] theorem LM:tab.siz 33=4:=rfl
@[go_sem] theorem ML:tab.zer 33=[.nils,.int .i64 0,.nils,.nils]:=rfl
@[go_sem] theorem HQ:tab.fld 33 0=some (30,0):=rfl
@[go_sem] theorem HR:tab.fld 33 1=some (31,3):=rfl
@[go_sem] theorem Mj:tab.und 36=(.sl 67):=rfl
@[go_sem] theorem LN:tab.siz 36=1:=rfl
@[go_sem] theorem MM:tab.zer 36=[.nils]:=rfl
@[go_sem] theorem Mk:tab.und 37=(.sl 116):=rfl
@[go_sem] theorem LO:tab.siz 37=1:=rfl
@[go_sem] theorem MN:tab.zer 37=[.nils]:=rfl
@[go_sem] theorem Ml:tab.und 38=(.sl 76):=rfl
@[go_sem] theorem LP:tab.siz 38=1:=rfl
@[go_sem] theorem MO:tab.zer 38=[.nils]:=rfl
@[go_sem] theorem Mm:tab.und 40=.struct:=rfl
@[go_sem] theorem LQ:tab.siz 40=10:=rfl
@[go_sem] theorem Lx:tab.byt 40=144:=rfl
@[go_sem] theorem MP:tab.zer 40=[.int .i64 0,.bool false,.int .i64 0,.nils,.nils,.nils,.nils,.int .i64 0,.int .i64 0,.int .i64 0]:=rfl
@[go_sem] theorem HS:tab.fld 40 0=some (3,0):=rfl
@[go_sem] theorem HT:tab.fld 40 1=some (4,1):=rfl
@[go_sem] theorem HU:tab.fld 40 2=some (3,2):=rfl
@[go_sem] theorem HV:tab.fld 40 3=some (36,3):=rfl
@[go_sem] theorem HW:tab.fld 40 4=some (37,4):=rfl
@[go_sem] theorem HX:tab.fld 40 5=some (37,5):=rfl
@[go_sem] theorem HY:tab.fld 40 6=some (38,6):=rfl
@[go_sem] theorem HZ:tab.fld 40 7=some (3,7):=rfl
@[go_sem] theorem H0:tab.fld 40 8=some (3,8):=rfl
@[go_sem] theorem H3:tab.fld 40 9=some (3,9):=rfl
@[go_sem] theorem Mn:tab.und 42=(.int .i64):=rfl
@[go_sem] theorem LR:tab.siz 42=1:=rfl
@[go_sem] theorem MQ:tab.zer 42=[.int .i64 0]:=rfl
@[go_sem] theorem Mo:tab.und 44=.struct:=rfl
@[go_sem] theorem LS:tab.siz 44=4:=rfl
@[go_sem] theorem MR:tab.zer 44=[.int .i64 0,.int .i64 0,.int .i64 0,.nils]:=rfl
@[go_sem] theorem H4:tab.fld 44 0=some (42,0):=rfl
@[go_sem] theorem H5:tab.fld 44 1=some (3,1):=rfl
@[go_sem] theorem H6:tab.fld 44 2=some (3,2):=rfl
@[go_sem] theorem H7:tab.fld 44 3=some (24,3):=rfl
@[go_sem] theorem Mp:tab.und 52=(.sl 9):=rfl
@[go_sem] theorem LU:tab.siz 52=1:=rfl
@[go_sem] theorem MS:tab.zer 52=[.nils]:=rfl
@[go_sem] theorem Mq:tab.und 56=(.map 3 62):=rfl
@[go_sem] theorem LV:tab.siz 56=1:=rfl
@[go_sem] theorem MT:tab.zer 56=[.nilm]:=rfl
@[go_sem] theorem Mr:tab.und 60=(.sl 101):=rfl
@[go_sem] theorem LW:tab.siz 60=1:=rfl
@[go_sem] theorem MU:tab.zer 60=[.nils]:=rfl
@[go_sem] theorem Ms:tab.und 62=.struct:=rfl
@[go_sem] theorem LX:tab.siz 62=5:=rfl
@[go_sem] theorem Ly:tab.byt 62=72:=rfl
@[go_sem] theorem MV:tab.zer 62=[.int .i64 0,.bool false,.nils,.nils,.int .i64 0]:=rfl
@[go_sem] theorem H8:tab.fld 62 0=some (3,0):=rfl
@[go_sem] theorem H9:tab.fld 62 1=some (4,1):=rfl
@[go_sem] theorem H_:tab.fld 62 2=some (24,2):=rfl
@[go_sem] theorem Ia:tab.fld 62 3=some (60,3):=rfl
@[go_sem] theorem Ib:tab.fld 62 4=some (3,4):=rfl
@[go_sem] theorem Mt:tab.und 67=.struct:=rfl
@[go_sem] theorem LY:tab.siz 67=8:=rfl
@[go_sem] theorem Lz:tab.byt 67=96:=rfl
@[go_sem] theorem MW:tab.zer 67=[.int .i64 0,.bool false,.nils,.nils,.int .i64 0,.bool false,.int .i64 0,.int .i64 0]:=rfl
@[go_sem] theorem Ic:tab.fld 67 0=some (62,0):=rfl
@[go_sem] theorem Ie:tab.fld 67 1=some (4,5):=rfl
@[go_sem] theorem Ig:tab.fld 67 2=some (3,6):=rfl
@[go_sem] theorem Ih:tab.fld 67 3=some (3,7):=rfl
@[go_sem] theorem Mu:tab.und 76=.struct:=rfl
@[go_sem] theorem LZ:tab.siz 76=2:=rfl
@[go_sem] theorem LA:tab.byt 76=24:=rfl
@[go_sem] theorem MX:tab.zer 76=[.str [],.int .i64 0]:=rfl
@[go_sem] theorem Ii:tab.fld 76 0=some (9,0):=rfl
@[go_sem] theorem Ij:tab.fld 76 1=some (3,1):=rfl
@[go_sem] theorem Mv:tab.und 77=(.ptr 80):=rfl
@[go_sem] theorem L4:tab.siz 77=1:=rfl
@[go_sem] theorem MY:tab.zer 77=[.nilp]:=rfl
@[go_sem] theorem Mw:tab.und 80=.struct:=rfl
@[go_sem] theorem L5:tab.siz 80=13:=rfl
@[go_sem] theorem MZ:tab.zer 80=[.int .i64 0,.bool false,.int .i64 0,.nils,.nils,.nils,.nils,.int .i64 0,.int .i64 0,.int .i64 0,.nils,.int .i64 0,.nils]:=rfl
@[go_sem] theorem Ik:tab.fld 80 0=some (40,0):=rfl
@[go_sem] theorem Il:tab.fld 80 1=some (30,10):=rfl
@[go_sem] theorem Mx:tab.und 82=(.ptr 26):=rfl
@[go_sem] theorem L6:tab.siz 82=1:=rfl
@[go_sem] theorem M0:tab.zer 82=[.nilp]:=rfl
@[go_sem] theorem My:tab.und 88=.struct:=rfl
@[go_sem] theorem L7:tab.siz 88=7:=rfl
@[go_sem] theorem LB:tab.byt 88=88:=rfl
@[go_sem] theorem M1:tab.zer 88=[.int .i64 0,.int .i64 0,.int .i64 0,.str [],.int .i64 0,.str [],.nils]:=rfl
@[go_sem] theorem Im:tab.fld 88 0=some (3,0):=rfl
@[go_sem] theorem Io:tab.fld 88 1=some (3,1):=rfl
@[go_sem] theorem Ip:tab.fld 88 2=some (3,2):=rfl
@[go_sem] theorem Iq:tab.fld 88 3=some (9,3):=rfl
@[go_sem] theorem Ir:tab.fld 88 4=some (3,4):=rfl
@[go_sem] theorem Is:tab.fld 88 5=some (9,5):=rfl
@[go_sem] theorem Iu:tab.fld 88 6=some (24,6):=rfl
@[go_sem] theorem Mz:tab.und 95=(.ptr 97):=rfl
@[go_sem] theorem L8:tab.siz 95=1:=rfl
@[go_sem] theorem M3:tab.zer 95=[.nilp]:=rfl
@[go_sem] theorem MA:tab.und 97=.struct:=rfl
@[go_sem] theorem L9:tab.siz 97=13:=rfl
@[go_sem] theorem M4:tab.zer 97=[.int .i64 0,.bool false,.int .i64 0,.nils,.nils,.nils,.nils,.int .i64 0,.int .i64 0,.int .i64 0,.nils,.int .i64 0,.nils]:=rfl
@[go_sem] theorem Iv:tab.fld 97 0=some (40,0):=rfl
@[go_sem] theorem Iw:tab.fld 97 1=some (30,10):=rfl
@[go_sem] theorem KJ:tab.und 101=.struct:=rfl
@[go_sem] theorem Ki:tab.siz 101=2:=rfl
@[go_sem] theorem Ke:tab.byt 101=24:=rfl
@[go_sem] theorem K8:tab.zer 101=[.str [],.int .i64 0]:=rfl
@[go_sem] theorem FR:tab.fld 101 0=some (9,0):=rfl
@[go_sem] theorem FT:tab.fld 101 1=some (3,1):=rfl
@[go_sem] theorem KK:tab.und 116=.struct:=rfl
@[go_sem] theorem Kj:tab.siz 116=9:=rfl
@[go_sem] theorem Kf:tab.byt 116=104:=rfl
@[go_sem] theorem K9:tab.zer 116=[.int .i64 0,.int .i64 0,.int .i64 0,.str [],.int .i64 0,.str [],.nils,.int .i64 0,.int .i64 0]:=rfl
@[go_sem] theorem FU:tab.fld 116 0=some (88,0):=rfl
@[go_sem] theorem FV:tab.fld 116 1=some (3,7):=rfl
@[go_sem] theorem FW:tab.fld 116 2=some (3,8):=rfl
@[go_sem] theorem KL:tab.und 120=.struct:=rfl
@[go_sem] theorem Kk:tab.siz 120=8:=rfl
@[go_sem] theorem Kg:tab.byt 120=96:=rfl
@[go_sem] theorem K_:tab.zer 120=[.int .i64 0,.int .i64 0,.int .i64 0,.int .i64 0,.str [],.int .i64 0,.str [],.nils]:=rfl
@[go_sem] theorem FX:tab.fld 120 0=some (3,0):=rfl
@[go_sem] theorem FY:tab.fld 120 1=some (88,1):=rfl
@[go_sem] theorem KM:tab.und 123=(.ptr 62):=rfl
@[go_sem] theorem Kl:tab.siz 123=1:=rfl
@[go_sem] theorem K':tab.zer 123=[.nilp]:=rfl
@[go_sem] theorem KN:tab.und 136=(.ptr 88):=rfl
@[go_sem] theorem Km:tab.siz 136=1:=rfl
@[go_sem] theorem Lb:tab.zer 136=[.nilp]:=rfl
@[go_sem] theorem KO:tab.und 141=(.sl 145):=rfl
@[go_sem] theorem Kn:tab.siz 141=1:=rfl
@[go_sem] theorem Lc:tab.zer 141=[.nils]:=rfl
@[go_sem] theorem KP:tab.und 145=.struct:=rfl
@[go_sem] theorem Ko:tab.siz 145=2:=rfl
@[go_sem] theorem Kh:tab.byt 145=16:=rfl
@[go_sem] theorem Ld:tab.zer 145=[.int .i64 0,.int .i64 0]:=rfl
@[go_sem] theorem FZ:tab.fld 145 0=some (42,0):=rfl
@[go_sem] theorem F0:tab.fld 145 1=some (3,1):=rfl
@[go_sem] theorem KQ:tab.und 167=(.ptr 169):=rfl
@[go_sem] theorem Kq:tab.siz 167=1:=rfl
@[go_sem] theorem Lf:tab.zer 167=[.nilp]:=rfl
@[go_sem] theorem KR:tab.und 169=.struct:=rfl
@[go_sem] theorem Kr:tab.siz 169=9:=rfl
@[go_sem] theorem Lg:tab.zer 169=[.nils,.int .i64 0,.int .i64 0,.int .i64 0,.str [],.int .i64 0,.str [],.nils,.int .i64 0]:=rfl
@[go_sem] theorem F1:tab.fld 169 0=some (27,0):=rfl
@[go_sem] theorem F2:tab.fld 169 1=some (88,1):=rfl
@[go_sem] theorem F3:tab.fld 169 2=some (3,8):=rfl
@[go_sem] theorem KS:tab.und 172=(.ptr 116):=rfl
@[go_sem] theorem Ks:tab.siz 172=1:=rfl
@[go_sem] theorem Lh:tab.zer 172=[.nilp]:=rfl
@[go_sem] theorem KT:tab.und 184=(.sl 88):=rfl
@[go_sem] theorem Kt:tab.siz 184=1:=rfl
@[go_sem] theorem Li:tab.zer 184=[.nils]:=rfl
@[go_sem] theorem KU:tab.und 201=.struct:=rfl
@[go_sem] theorem Ku:tab.siz 201=4:=rfl
@[go_sem] theorem Lj:tab.zer 201=[.nils,.nils,.nilm,.int .i64 0]:=rfl
@[go_sem] theorem F4:tab.fld 201 0=some (141,0):=rfl
@[go_sem] theorem F5:tab.fld 201 1=some (184,1):=rfl
@[go_sem] theorem F6:tab.fld 201 2=some (56,2):=rfl
@[go_sem] theorem F7:tab.fld 201 3=some (3,3):=rfl
@[go_sem] theorem KV:tab.und 204=(.int .u64):=rfl
@[go_sem] theorem Kv:tab.siz 204=1:=rfl
@[go_sem] theorem Lk:tab.zer 204=[.int .u64 0]:=rfl
@[go_sem] theorem KW:tab.und 220=(.ptr 224):=rfl
@[go_sem] theorem Kw:tab.siz 220=1:=rfl
@[go_sem] theorem Ll:tab.zer 220=[.nilp]:=rfl
@[go_sem] theorem KX:tab.und 221=(.map 3 3):=rfl
@[go_sem] theorem Kx:tab.siz 221=1:=rfl
@[go_sem] theorem Lm:tab.zer 221=[.nilm]:=rfl
@[go_sem] theorem KY:tab.und 222=(.map 3 4):=rfl
@[go_sem] theorem Ky:tab.siz 222=1:=rfl
@[go_sem] theorem Ln:tab.zer 222=[.nilm]:=rfl
@[go_sem] theorem KZ:tab.und 224=.struct:=rfl
@[go_sem] theorem Kz:tab.siz 224=6:=rfl
@[go_sem] theorem Lo:tab.zer 224=[.nils,.int .i64 0,.int .i64 0,.nilm,.nilm,.nilm]:=rfl
@[go_sem] theorem F8:tab.fld 224 0=some (27,0):=rfl
@[go_sem] theorem F9:tab.fld 224 1=some (3,1):=rfl
@[go_sem] theorem F_:tab.fld 224 2=some (3,2):=rfl
@[go_sem] theorem Ga:tab.fld 224 3=some (221,3):=rfl
@[go_sem] theorem Gb:tab.fld 224 4=some (222,4):=rfl
@[go_sem] theorem Gc:tab.fld 224 5=some (222,5):=rfl
@[go_sem] theorem K0:tab.und 232=(.int .i64):=rfl
@[go_sem] theorem KB:tab.siz 232=1:=rfl
@[go_sem] theorem Lp:tab.zer 232=[.int .i64 0]:=rfl
@[go_sem] theorem K1:tab.und 239=(.int .u32):=rfl
@[go_sem] theorem KC:tab.siz 239=1:=rfl
@[go_sem] theorem Lq:tab.zer 239=[.int .u32 0]:=rfl
@[go_sem] theorem K3:tab.und 241=(.int .u64):=rfl
@[go_sem] theorem KE:tab.siz 241=1:=rfl
@[go_sem] theorem Lr:tab.zer 241=[.int .u64 0]:=rfl
@[go_sem] theorem K4:tab.und 256=(.int .u64):=rfl
@[go_sem] theorem KF:tab.siz 256=1:=rfl
@[go_sem] theorem Ls:tab.zer 256=[.int .u64 0]:=rfl
@[go_sem] theorem K5:tab.und 260=(.ptr 3):=rfl
@[go_sem] theorem KG:tab.siz 260=1:=rfl
@[go_sem] theorem Lt:tab.zer 260=[.nilp]:=rfl
@[go_sem] theorem K6:tab.und 267=(.ptr 256):=rfl
@[go_sem] theorem KH:tab.siz 267=1:=rfl
@[go_sem] theorem Lu:tab.zer 267=[.nilp]:=rfl
@[go_sem] theorem K7:tab.und 273=.struct:=rfl
@[go_sem] theorem KI:tab.siz 273=2:=rfl
@[go_sem] theorem Lv:tab.zer 273=[.int .u8 0,.int .u8 0]:=rfl
@[go_sem] theorem Gd:tab.fld 273 0=some (5,0):=rfl
@[go_sem] theorem Ge:tab.fld 273 1=some (5,1):=rfl
theorem Bn:∀t,jr Go.Proofs.Tryz.prog t (HG t):=by
 intro t;unfold HG;split
 ·exact Go.Proofs.Tryz.underlying2
 ·exact Go.Proofs.Tryz.underlying3
 ·exact Go.Proofs.Tryz.underlying4
 ·exact Go.Proofs.Tryz.underlying5
 ·exact Go.Proofs.Tryz.underlying6
 ·exact ⟨_,Go.Proofs.Tryz.underlying7,by intro f hf;simp at hf;rcases hf with rfl | rfl | rfl | rfl<;>kernel_rfl⟩
 ·exact ⟨_,Go.Proofs.Tryz.underlying8,by intro f hf;simp at hf;rcases hf with rfl | rfl | rfl | rfl<;>kernel_rfl⟩
 ·exact Go.Proofs.Tryz.underlying9
 ·exact Go.Proofs.Tryz.underlying10
 ·exact Go.Proofs.Tryz.underlying11
 ·exact Go.Proofs.Tryz.underlying12
 ·exact ⟨_,Go.Proofs.Tryz.underlying13,by intro f hf;simp at hf;rcases hf with rfl | rfl<;>kernel_rfl⟩
 ·exact ⟨_,Go.Proofs.Tryz.underlying14,by intro f hf;simp at hf;rcases hf with rfl | rfl<;>kernel_rfl⟩
 ·exact Go.Proofs.Tryz.underlying15
 ·exact Go.Proofs.Tryz.underlying16
 ·exact Go.Proofs.Tryz.underlying17
 ·exact ⟨_,Go.Proofs.Tryz.underlying18,by intro f hf;simp at hf;rcases hf with rfl<;>kernel_rfl⟩
 ·exact ⟨_,Go.Proofs.Tryz.underlying19,by intro f hf;simp at hf;rcases hf with rfl<;>kernel_rfl⟩
 ·exact Go.Proofs.Tryz.underlying21
 ·exact Go.Proofs.Tryz.underlying22
 ·exact Go.Proofs.Tryz.underlying23
 ·exact Go.Proofs.Tryz.underlying24
 ·exact ⟨_,Go.Proofs.Tryz.underlying25,by intro f hf;simp at hf;rcases hf with rfl | rfl | rfl | rfl | rfl | rfl<;>kernel_rfl⟩
 ·exact ⟨_,Go.Proofs.Tryz.underlying26,by intro f hf;simp at hf;rcases hf with rfl | rfl | rfl | rfl | rfl | rfl<;>kernel_rfl⟩
 ·exact Go.Proofs.Tryz.underlying27
 ·exact Go.Proofs.Tryz.underlying28
 ·exact ⟨_,Go.Proofs.Tryz.underlying29,by intro f hf;simp at hf;rcases hf with rfl | rfl | rfl<;>kernel_rfl⟩
 ·exact ⟨_,Go.Proofs.Tryz.underlying30,by intro f hf;simp at hf;rcases hf with rfl | rfl | rfl<;>kernel_rfl⟩
 ·exact Go.Proofs.Tryz.underlying31
 ·exact ⟨_,Go.Proofs.Tryz.underlying32,by intro f hf;simp at hf;rcases hf with rfl | rfl<;>kernel_rfl⟩
 ·exact ⟨_,Go.Proofs.Tryz.underlying33,by intro f hf;simp at hf;rcases hf with rfl | rfl<;>kernel_rfl⟩
 ·exact Go.Proofs.Tryz.underlying36
 ·exact Go.Proofs.Tryz.underlying37
 ·exact Go.Proofs.Tryz.underlying38
 ·exact ⟨_,Go.Proofs.Tryz.underlying39,by intro f hf;simp at hf;rcases hf with rfl | rfl | rfl | rfl | rfl | rfl | rfl | rfl | rfl | rfl<;>kernel_rfl⟩
 ·exact ⟨_,Go.Proofs.Tryz.underlying40,by intro f hf;simp at hf;rcases hf with rfl | rfl | rfl | rfl | rfl | rfl | rfl | rfl | rfl | rfl<;>kernel_rfl⟩
 ·exact Go.Proofs.Tryz.underlying42
 ·exact ⟨_,Go.Proofs.Tryz.underlying43,by intro f hf;simp at hf;rcases hf with rfl | rfl | rfl | rfl<;>kernel_rfl⟩
 ·exact ⟨_,Go.Proofs.Tryz.underlying44,by intro f hf;simp at hf;rcases hf with rfl | rfl | rfl | rfl<;>kernel_rfl⟩
 ·exact Go.Proofs.Tryz.underlying52
 ·exact Go.Proofs.Tryz.underlying55
 ·exact Go.Proofs.Tryz.underlying56
 ·exact Go.Proofs.Tryz.underlying60
 ·exact ⟨_,Go.Proofs.Tryz.underlying61,by intro f hf;simp at hf;rcases hf with rfl | rfl | rfl | rfl | rfl<;>kernel_rfl⟩
 ·exact ⟨_,Go.Proofs.Tryz.underlying62,by intro f hf;simp at hf;rcases hf with rfl | rfl | rfl | rfl | rfl<;>kernel_rfl⟩
 ·exact ⟨_,Go.Proofs.Tryz.underlying66,by intro f hf;simp at hf;rcases hf with rfl | rfl | rfl | rfl<;>kernel_rfl⟩
 ·exact ⟨_,Go.Proofs.Tryz.underlying67,by intro f hf;simp at hf;rcases hf with rfl | rfl | rfl | rfl<;>kernel_rfl⟩
 ·exact ⟨_,Go.Proofs.Tryz.underlying75,by intro f hf;simp at hf;rcases hf with rfl | rfl<;>kernel_rfl⟩
 ·exact ⟨_,Go.Proofs.Tryz.underlying76,by intro f hf;simp at hf;rcases hf with rfl | rfl<;>kernel_rfl⟩
 ·exact Go.Proofs.Tryz.underlying77
 ·exact ⟨_,Go.Proofs.Tryz.underlying79,by intro f hf;simp at hf;rcases hf with rfl | rfl<;>kernel_rfl⟩
 ·exact ⟨_,Go.Proofs.Tryz.underlying80,by intro f hf;simp at hf;rcases hf with rfl | rfl<;>kernel_rfl⟩
 ·exact Go.Proofs.Tryz.underlying82
 ·exact ⟨_,Go.Proofs.Tryz.underlying87,by intro f hf;simp at hf;rcases hf with rfl | rfl | rfl | rfl | rfl | rfl | rfl<;>kernel_rfl⟩
 ·exact ⟨_,Go.Proofs.Tryz.underlying88,by intro f hf;simp at hf;rcases hf with rfl | rfl | rfl | rfl | rfl | rfl | rfl<;>kernel_rfl⟩
 ·exact Go.Proofs.Tryz.underlying95
 ·exact ⟨_,Go.Proofs.Tryz.underlying96,by intro f hf;simp at hf;rcases hf with rfl | rfl<;>kernel_rfl⟩
 ·exact ⟨_,Go.Proofs.Tryz.underlying97,by intro f hf;simp at hf;rcases hf with rfl | rfl<;>kernel_rfl⟩
 ·exact ⟨_,Go.Proofs.Tryz.underlying100,by intro f hf;simp at hf;rcases hf with rfl | rfl<;>kernel_rfl⟩
 ·exact ⟨_,Go.Proofs.Tryz.underlying101,by intro f hf;simp at hf;rcases hf with rfl | rfl<;>kernel_rfl⟩
 ·exact ⟨_,Go.Proofs.Tryz.underlying115,by intro f hf;simp at hf;rcases hf with rfl | rfl | rfl<;>kernel_rfl⟩
 ·exact ⟨_,Go.Proofs.Tryz.underlying116,by intro f hf;simp at hf;rcases hf with rfl | rfl | rfl<;>kernel_rfl⟩
 ·exact ⟨_,Go.Proofs.Tryz.underlying119,by intro f hf;simp at hf;rcases hf with rfl | rfl<;>kernel_rfl⟩
 ·exact ⟨_,Go.Proofs.Tryz.underlying120,by intro f hf;simp at hf;rcases hf with rfl | rfl<;>kernel_rfl⟩
 ·exact Go.Proofs.Tryz.underlying123
 ·exact Go.Proofs.Tryz.underlying136
 ·exact Go.Proofs.Tryz.underlying141
 ·exact ⟨_,Go.Proofs.Tryz.underlying144,by intro f hf;simp at hf;rcases hf with rfl | rfl<;>kernel_rfl⟩
 ·exact ⟨_,Go.Proofs.Tryz.underlying145,by intro f hf;simp at hf;rcases hf with rfl | rfl<;>kernel_rfl⟩
 ·exact Go.Proofs.Tryz.underlying167
 ·exact ⟨_,Go.Proofs.Tryz.underlying168,by intro f hf;simp at hf;rcases hf with rfl | rfl | rfl<;>kernel_rfl⟩
 ·exact ⟨_,Go.Proofs.Tryz.underlying169,by intro f hf;simp at hf;rcases hf with rfl | rfl | rfl<;>kernel_rfl⟩
 ·exact Go.Proofs.Tryz.underlying172
 ·exact Go.Proofs.Tryz.underlying184
 ·exact ⟨_,Go.Proofs.Tryz.underlying200,by intro f hf;simp at hf;rcases hf with rfl | rfl | rfl | rfl<;>kernel_rfl⟩
 ·exact ⟨_,Go.Proofs.Tryz.underlying201,by intro f hf;simp at hf;rcases hf with rfl | rfl | rfl | rfl<;>kernel_rfl⟩
 ·exact Go.Proofs.Tryz.underlying204
 ·exact Go.Proofs.Tryz.underlying220
 ·exact Go.Proofs.Tryz.underlying221
 ·exact Go.Proofs.Tryz.underlying222
 ·exact ⟨_,Go.Proofs.Tryz.underlying223,by intro f hf;simp at hf;rcases hf with rfl | rfl | rfl | rfl | rfl | rfl<;>kernel_rfl⟩
 ·exact ⟨_,Go.Proofs.Tryz.underlying224,by intro f hf;simp at hf;rcases hf with rfl | rfl | rfl | rfl | rfl | rfl<;>kernel_rfl⟩
 ·exact Go.Proofs.Tryz.underlying232
 ·exact Go.Proofs.Tryz.underlying239
 ·exact Go.Proofs.Tryz.underlying241
 ·exact Go.Proofs.Tryz.underlying256
 ·exact Go.Proofs.Tryz.underlying260
 ·exact Go.Proofs.Tryz.underlying267
 ·exact ⟨_,Go.Proofs.Tryz.underlying272,by intro f hf;simp at hf;rcases hf with rfl | rfl<;>kernel_rfl⟩
 ·exact ⟨_,Go.Proofs.Tryz.underlying273,by intro f hf;simp at hf;rcases hf with rfl | rfl<;>kernel_rfl⟩
 ·exact ⟨_,Go.Proofs.Tryz.underlying280,by intro f hf;simp at hf;rcases hf with rfl | rfl | rfl | rfl<;>kernel_rfl⟩
 ·exact ⟨_,Go.Proofs.Tryz.underlying281,by intro f hf;simp at hf;rcases hf with rfl | rfl | rfl | rfl<;>kernel_rfl⟩
 ·exact Go.Proofs.Tryz.underlying286
 ·exact Go.Proofs.Tryz.underlying287
 ·exact Go.Proofs.Tryz.underlying289
 ·exact Go.Proofs.Tryz.underlying290
 ·exact Go.Proofs.Tryz.underlying291
 ·trivial
theorem Bm:∀t,Bk t≠0->∃i,(Go.Proofs.Tryz.prog).info? t=some i/\i.size=Bk t/\i.bytes=J0 t/\∃z,i.zero=some z/\z.cells.toList.map ofValue=J1 t/\z.cells.size=Bk t /\
  (HG t).isA=some (match z with | .agg _=>true | _=>false):=by
 intro t h
 revert h
 unfold Bk;split
 ·exact λ_=>⟨Go.Proofs.Tryz.t2,by kernel_rfl,rfl,rfl,_,rfl,rfl,rfl,rfl⟩
 ·exact λ_=>⟨Go.Proofs.Tryz.t3,by kernel_rfl,rfl,rfl,_,rfl,rfl,rfl,rfl⟩
 ·exact λ_=>⟨Go.Proofs.Tryz.t4,by kernel_rfl,rfl,rfl,_,rfl,rfl,rfl,rfl⟩
 ·exact λ_=>⟨Go.Proofs.Tryz.t5,by kernel_rfl,rfl,rfl,_,rfl,rfl,rfl,rfl⟩
 ·exact λ_=>⟨Go.Proofs.Tryz.t6,by kernel_rfl,rfl,rfl,_,rfl,rfl,rfl,rfl⟩
 ·exact λ_=>⟨Go.Proofs.Tryz.t7,by kernel_rfl,rfl,rfl,_,rfl,rfl,rfl,rfl⟩
 ·exact λ_=>⟨Go.Proofs.Tryz.t8,by kernel_rfl,rfl,rfl,_,rfl,rfl,rfl,rfl⟩
 ·exact λ_=>⟨Go.Proofs.Tryz.t9,by kernel_rfl,rfl,rfl,_,rfl,rfl,rfl,rfl⟩
 ·exact λ_=>⟨Go.Proofs.Tryz.t10,by kernel_rfl,rfl,rfl,_,rfl,rfl,rfl,rfl⟩
 ·exact λ_=>⟨Go.Proofs.Tryz.t11,by kernel_rfl,rfl,rfl,_,rfl,rfl,rfl,rfl⟩
 ·exact λ_=>⟨Go.Proofs.Tryz.t12,by kernel_rfl,rfl,rfl,_,rfl,rfl,rfl,rfl⟩
 ·exact λ_=>⟨Go.Proofs.Tryz.t13,by kernel_rfl,rfl,rfl,_,rfl,rfl,rfl,rfl⟩
 ·exact λ_=>⟨Go.Proofs.Tryz.t14,by kernel_rfl,rfl,rfl,_,rfl,rfl,rfl,rfl⟩
 ·exact λ_=>⟨Go.Proofs.Tryz.t15,by kernel_rfl,rfl,rfl,_,rfl,rfl,rfl,rfl⟩
 ·exact λ_=>⟨Go.Proofs.Tryz.t16,by kernel_rfl,rfl,rfl,_,rfl,rfl,rfl,rfl⟩
 ·exact λ_=>⟨Go.Proofs.Tryz.t17,by kernel_rfl,rfl,rfl,_,rfl,rfl,rfl,rfl⟩
 ·exact λ_=>⟨Go.Proofs.Tryz.t18,by kernel_rfl,rfl,rfl,_,rfl,rfl,rfl,rfl⟩
 ·exact λ_=>⟨Go.Proofs.Tryz.t19,by kernel_rfl,rfl,rfl,_,rfl,rfl,rfl,rfl⟩
 ·exact λ_=>⟨Go.Proofs.Tryz.t21,by kernel_rfl,rfl,rfl,_,rfl,rfl,rfl,rfl⟩
 ·exact λ_=>⟨Go.Proofs.Tryz.t22,by kernel_rfl,rfl,rfl,_,rfl,rfl,rfl,rfl⟩
 ·exact λ_=>⟨Go.Proofs.Tryz.t23,by kernel_rfl,rfl,rfl,_,rfl,rfl,rfl,rfl⟩
 ·exact λ_=>⟨Go.Proofs.Tryz.t24,by kernel_rfl,rfl,rfl,_,rfl,rfl,rfl,rfl⟩
 ·exact λ_=>⟨Go.Proofs.Tryz.t25,by kernel_rfl,rfl,rfl,_,rfl,rfl,rfl,rfl⟩
 ·exact λ_=>⟨Go.Proofs.Tryz.t26,by kernel_rfl,rfl,rfl,_,rfl,rfl,rfl,rfl⟩
 ·exact λ_=>⟨Go.Proofs.Tryz.t27,by kernel_rfl,rfl,rfl,_,rfl,rfl,rfl,rfl⟩
 ·exact λ_=>⟨Go.Proofs.Tryz.t28,by kernel_rfl,rfl,rfl,_,rfl,rfl,rfl,rfl⟩
 ·exact λ_=>⟨Go.Proofs.Tryz.t29,by kernel_rfl,rfl,rfl,_,rfl,rfl,rfl,rfl⟩
 ·exact λ_=>⟨Go.Proofs.Tryz.t30,by kernel_rfl,rfl,rfl,_,rfl,rfl,rfl,rfl⟩
 ·exact λ_=>⟨Go.Proofs.Tryz.t31,by kernel_rfl,rfl,rfl,_,rfl,rfl,rfl,rfl⟩
 ·exact λ_=>⟨Go.Proofs.Tryz.t32,by kernel_rfl,rfl,rfl,_,rfl,rfl,rfl,rfl⟩
 ·exact λ_=>⟨Go.Proofs.Tryz.t33,by kernel_rfl,rfl,rfl,_,rfl,rfl,rfl,rfl⟩
 ·exact λ_=>⟨Go.Proofs.Tryz.t36,by kernel_rfl,rfl,rfl,_,rfl,rfl,rfl,rfl⟩
 ·exact λ_=>⟨Go.Proofs.Tryz.t37,by kernel_rfl,rfl,rfl,_,rfl,rfl,rfl,rfl⟩
 ·exact λ_=>⟨Go.Proofs.Tryz.t38,by kernel_rfl,rfl,rfl,_,rfl,rfl,rfl,rfl⟩
 ·exact λ_=>⟨Go.Proofs.Tryz.t39,by kernel_rfl,rfl,rfl,_,rfl,rfl,rfl,rfl⟩
 ·exact λ_=>⟨Go.Proofs.Tryz.t40,by kernel_rfl,rfl,rfl,_,rfl,rfl,rfl,rfl⟩
 ·exact λ_=>⟨Go.Proofs.Tryz.t42,by kernel_rfl,rfl,rfl,_,rfl,rfl,rfl,rfl⟩
 ·exact λ_=>⟨Go.Proofs.Tryz.t43,by kernel_rfl,rfl,rfl,_,rfl,rfl,rfl,rfl⟩
 ·exact λ_=>⟨Go.Proofs.Tryz.t44,by kernel_rfl,rfl,rfl,_,rfl,rfl,rfl,rfl⟩
 ·exact λ_=>⟨Go.Proofs.Tryz.t52,by kernel_rfl,rfl,rfl,_,rfl,rfl,rfl,rfl⟩
 ·exact λ_=>⟨Go.Proofs.Tryz.t55,by kernel_rfl,rfl,rfl,_,rfl,rfl,rfl,rfl⟩
 ·exact λ_=>⟨Go.Proofs.Tryz.t56,by kernel_rfl,rfl,rfl,_,rfl,rfl,rfl,rfl⟩
 ·exact λ_=>⟨Go.Proofs.Tryz.t60,by kernel_rfl,rfl,rfl,_,rfl,rfl,rfl,rfl⟩
 ·exact λ_=>⟨Go.Proofs.Tryz.t61,by kernel_rfl,rfl,rfl,_,rfl,rfl,rfl,rfl⟩
 ·exact λ_=>⟨Go.Proofs.Tryz.t62,by kernel_rfl,rfl,rfl,_,rfl,rfl,rfl,rfl⟩
 ·exact λ_=>⟨Go.Proofs.Tryz.t66,by kernel_rfl,rfl,rfl,_,rfl,rfl,rfl,rfl⟩
 ·exact λ_=>⟨Go.Proofs.Tryz.t67,by kernel_rfl,rfl,rfl,_,rfl,rfl,rfl,rfl⟩
 ·exact λ_=>⟨Go.Proofs.Tryz.t75,by kernel_rfl,rfl,rfl,_,rfl,rfl,rfl,rfl⟩
 ·exact λ_=>⟨Go.Proofs.Tryz.t76,by kernel_rfl,rfl,rfl,_,rfl,rfl,rfl,rfl⟩
 ·exact λ_=>⟨Go.Proofs.Tryz.t77,by kernel_rfl,rfl,rfl,_,rfl,rfl,rfl,rfl⟩
 ·exact λ_=>⟨Go.Proofs.Tryz.t79,by kernel_rfl,rfl,rfl,_,rfl,rfl,rfl,rfl⟩
 ·exact λ_=>⟨Go.Proofs.Tryz.t80,by kernel_rfl,rfl,rfl,_,rfl,rfl,rfl,rfl⟩
 ·exact λ_=>⟨Go.Proofs.Tryz.t82,by kernel_rfl,rfl,rfl,_,rfl,rfl,rfl,rfl⟩
 ·exact λ_=>⟨Go.Proofs.Tryz.t87,by kernel_rfl,rfl,rfl,_,rfl,rfl,rfl,rfl⟩
 ·exact λ_=>⟨Go.Proofs.Tryz.t88,by kernel_rfl,rfl,rfl,_,rfl,rfl,rfl,rfl⟩
 ·exact λ_=>⟨Go.Proofs.Tryz.t95,by kernel_rfl,rfl,rfl,_,rfl,rfl,rfl,rfl⟩
 ·exact λ_=>⟨Go.Proofs.Tryz.t96,by kernel_rfl,rfl,rfl,_,rfl,rfl,rfl,rfl⟩
 ·exact λ_=>⟨Go.Proofs.Tryz.t97,by kernel_rfl,rfl,rfl,_,rfl,rfl,rfl,rfl⟩
 ·exact λ_=>⟨Go.Proofs.Tryz.t100,by kernel_rfl,rfl,rfl,_,rfl,rfl,rfl,rfl⟩
 ·exact λ_=>⟨Go.Proofs.Tryz.t101,by kernel_rfl,rfl,rfl,_,rfl,rfl,rfl,rfl⟩
 ·exact λ_=>⟨Go.Proofs.Tryz.t115,by kernel_rfl,rfl,rfl,_,rfl,rfl,rfl,rfl⟩
 ·exact λ_=>⟨Go.Proofs.Tryz.t116,by kernel_rfl,rfl,rfl,_,rfl,rfl,rfl,rfl⟩
 ·exact λ_=>⟨Go.Proofs.Tryz.t119,by kernel_rfl,rfl,rfl,_,rfl,rfl,rfl,rfl⟩
 ·exact λ_=>⟨Go.Proofs.Tryz.t120,by kernel_rfl,rfl,rfl,_,rfl,rfl,rfl,rfl⟩
 ·exact λ_=>⟨Go.Proofs.Tryz.t123,by kernel_rfl,rfl,rfl,_,rfl,rfl,rfl,rfl⟩
 ·exact λ_=>⟨Go.Proofs.Tryz.t136,by kernel_rfl,rfl,rfl,_,rfl,rfl,rfl,rfl⟩
 ·exact λ_=>⟨Go.Proofs.Tryz.t141,by kernel_rfl,rfl,rfl,_,rfl,rfl,rfl,rfl⟩
 ·exact λ_=>⟨Go.Proofs.Tryz.t144,by kernel_rfl,rfl,rfl,_,rfl,rfl,rfl,rfl⟩
 ·exact λ_=>⟨Go.Proofs.Tryz.t145,by kernel_rfl,rfl,rfl,_,rfl,rfl,rfl,rfl⟩
 ·exact λ_=>⟨Go.Proofs.Tryz.t167,by kernel_rfl,rfl,rfl,_,rfl,rfl,rfl,rfl⟩
 ·exact λ_=>⟨Go.Proofs.Tryz.t168,by kernel_rfl,rfl,rfl,_,rfl,rfl,rfl,rfl⟩
 ·exact λ_=>⟨Go.Proofs.Tryz.t169,by kernel_rfl,rfl,rfl,_,rfl,rfl,rfl,rfl⟩
 ·exact λ_=>⟨Go.Proofs.Tryz.t172,by kernel_rfl,rfl,rfl,_,rfl,rfl,rfl,rfl⟩
 ·exact λ_=>⟨Go.Proofs.Tryz.t184,by kernel_rfl,rfl,rfl,_,rfl,rfl,rfl,rfl⟩
 ·exact λ_=>⟨Go.Proofs.Tryz.t200,by kernel_rfl,rfl,rfl,_,rfl,rfl,rfl,rfl⟩
 ·exact λ_=>⟨Go.Proofs.Tryz.t201,by kernel_rfl,rfl,rfl,_,rfl,rfl,rfl,rfl⟩
 ·exact λ_=>⟨Go.Proofs.Tryz.t204,by kernel_rfl,rfl,rfl,_,rfl,rfl,rfl,rfl⟩
 ·exact λ_=>⟨Go.Proofs.Tryz.t220,by kernel_rfl,rfl,rfl,_,rfl,rfl,rfl,rfl⟩
 ·exact λ_=>⟨Go.Proofs.Tryz.t221,by kernel_rfl,rfl,rfl,_,rfl,rfl,rfl,rfl⟩
 ·exact λ_=>⟨Go.Proofs.Tryz.t222,by kernel_rfl,rfl,rfl,_,rfl,rfl,rfl,rfl⟩
 ·exact λ_=>⟨Go.Proofs.Tryz.t223,by kernel_rfl,rfl,rfl,_,rfl,rfl,rfl,rfl⟩
 ·exact λ_=>⟨Go.Proofs.Tryz.t224,by kernel_rfl,rfl,rfl,_,rfl,rfl,rfl,rfl⟩
 ·exact λ_=>⟨Go.Proofs.Tryz.t232,by kernel_rfl,rfl,rfl,_,rfl,rfl,rfl,rfl⟩
 ·exact λ_=>⟨Go.Proofs.Tryz.t239,by kernel_rfl,rfl,rfl,_,rfl,rfl,rfl,rfl⟩
 ·exact λ_=>⟨Go.Proofs.Tryz.t241,by kernel_rfl,rfl,rfl,_,rfl,rfl,rfl,rfl⟩
 ·exact λ_=>⟨Go.Proofs.Tryz.t256,by kernel_rfl,rfl,rfl,_,rfl,rfl,rfl,rfl⟩
 ·exact λ_=>⟨Go.Proofs.Tryz.t260,by kernel_rfl,rfl,rfl,_,rfl,rfl,rfl,rfl⟩
 ·exact λ_=>⟨Go.Proofs.Tryz.t267,by kernel_rfl,rfl,rfl,_,rfl,rfl,rfl,rfl⟩
 ·exact λ_=>⟨Go.Proofs.Tryz.t272,by kernel_rfl,rfl,rfl,_,rfl,rfl,rfl,rfl⟩
 ·exact λ_=>⟨Go.Proofs.Tryz.t273,by kernel_rfl,rfl,rfl,_,rfl,rfl,rfl,rfl⟩
 ·exact λ_=>⟨Go.Proofs.Tryz.t280,by kernel_rfl,rfl,rfl,_,rfl,rfl,rfl,rfl⟩
 ·exact λ_=>⟨Go.Proofs.Tryz.t281,by kernel_rfl,rfl,rfl,_,rfl,rfl,rfl,rfl⟩
 ·exact λ_=>⟨Go.Proofs.Tryz.t286,by kernel_rfl,rfl,rfl,_,rfl,rfl,rfl,rfl⟩
 ·exact λ_=>⟨Go.Proofs.Tryz.t287,by kernel_rfl,rfl,rfl,_,rfl,rfl,rfl,rfl⟩
 ·exact λ_=>⟨Go.Proofs.Tryz.t289,by kernel_rfl,rfl,rfl,_,rfl,rfl,rfl,rfl⟩
 ·exact λ_=>⟨Go.Proofs.Tryz.t290,by kernel_rfl,rfl,rfl,_,rfl,rfl,rfl,rfl⟩
 ·exact λ_=>⟨Go.Proofs.Tryz.t291,by kernel_rfl,rfl,rfl,_,rfl,rfl,rfl,rfl⟩
 ·exact λh=>absurd rfl h
theorem Dx:∀t,tFl t=[]\/∃F:Array Field,(Go.Proofs.Tryz.prog).underlying t=some (.struct F)/\F.toList.map (λf=>(f.type,f.offset))=tFl t/\∀x,x∈tFl t->Bk x.1≠0:=by
 intro t;unfold tFl;split
 ·exact .inr ⟨_,Go.Proofs.Tryz.underlying7,rfl,by decide⟩
 ·exact .inr ⟨_,Go.Proofs.Tryz.underlying8,rfl,by decide⟩
 ·exact .inr ⟨_,Go.Proofs.Tryz.underlying13,rfl,by decide⟩
 ·exact .inr ⟨_,Go.Proofs.Tryz.underlying14,rfl,by decide⟩
 ·exact .inr ⟨_,Go.Proofs.Tryz.underlying18,rfl,by decide⟩
 ·exact .inr ⟨_,Go.Proofs.Tryz.underlying19,rfl,by decide⟩
 ·exact .inr ⟨_,Go.Proofs.Tryz.underlying25,rfl,by decide⟩
 ·exact .inr ⟨_,Go.Proofs.Tryz.underlying26,rfl,by decide⟩
 ·exact .inr ⟨_,Go.Proofs.Tryz.underlying29,rfl,by decide⟩
 ·exact .inr ⟨_,Go.Proofs.Tryz.underlying30,rfl,by decide⟩
 ·exact .inr ⟨_,Go.Proofs.Tryz.underlying32,rfl,by decide⟩
 ·exact .inr ⟨_,Go.Proofs.Tryz.underlying33,rfl,by decide⟩
 ·exact .inr ⟨_,Go.Proofs.Tryz.underlying39,rfl,by decide⟩
 ·exact .inr ⟨_,Go.Proofs.Tryz.underlying40,rfl,by decide⟩
 ·exact .inr ⟨_,Go.Proofs.Tryz.underlying43,rfl,by decide⟩
 ·exact .inr ⟨_,Go.Proofs.Tryz.underlying44,rfl,by decide⟩
 ·exact .inr ⟨_,Go.Proofs.Tryz.underlying61,rfl,by decide⟩
 ·exact .inr ⟨_,Go.Proofs.Tryz.underlying62,rfl,by decide⟩
 ·exact .inr ⟨_,Go.Proofs.Tryz.underlying66,rfl,by decide⟩
 ·exact .inr ⟨_,Go.Proofs.Tryz.underlying67,rfl,by decide⟩
 ·exact .inr ⟨_,Go.Proofs.Tryz.underlying75,rfl,by decide⟩
 ·exact .inr ⟨_,Go.Proofs.Tryz.underlying76,rfl,by decide⟩
 ·exact .inr ⟨_,Go.Proofs.Tryz.underlying79,rfl,by decide⟩
 ·exact .inr ⟨_,Go.Proofs.Tryz.underlying80,rfl,by decide⟩
 ·exact .inr ⟨_,Go.Proofs.Tryz.underlying87,rfl,by decide⟩
 ·exact .inr ⟨_,Go.Proofs.Tryz.underlying88,rfl,by decide⟩
 ·exact .inr ⟨_,Go.Proofs.Tryz.underlying96,rfl,by decide⟩
 ·exact .inr ⟨_,Go.Proofs.Tryz.underlying97,rfl,by decide⟩
 ·exact .inr ⟨_,Go.Proofs.Tryz.underlying100,rfl,by decide⟩
 ·exact .inr ⟨_,Go.Proofs.Tryz.underlying101,rfl,by decide⟩
 ·exact .inr ⟨_,Go.Proofs.Tryz.underlying115,rfl,by decide⟩
 ·exact .inr ⟨_,Go.Proofs.Tryz.underlying116,rfl,by decide⟩
 ·exact .inr ⟨_,Go.Proofs.Tryz.underlying119,rfl,by decide⟩
 ·exact .inr ⟨_,Go.Proofs.Tryz.underlying120,rfl,by decide⟩
 ·exact .inr ⟨_,Go.Proofs.Tryz.underlying144,rfl,by decide⟩
 ·exact .inr ⟨_,Go.Proofs.Tryz.underlying145,rfl,by decide⟩
 ·exact .inr ⟨_,Go.Proofs.Tryz.underlying168,rfl,by decide⟩
 ·exact .inr ⟨_,Go.Proofs.Tryz.underlying169,rfl,by decide⟩
 ·exact .inr ⟨_,Go.Proofs.Tryz.underlying200,rfl,by decide⟩
 ·exact .inr ⟨_,Go.Proofs.Tryz.underlying201,rfl,by decide⟩
 ·exact .inr ⟨_,Go.Proofs.Tryz.underlying223,rfl,by decide⟩
 ·exact .inr ⟨_,Go.Proofs.Tryz.underlying224,rfl,by decide⟩
 ·exact .inr ⟨_,Go.Proofs.Tryz.underlying272,rfl,by decide⟩
 ·exact .inr ⟨_,Go.Proofs.Tryz.underlying273,rfl,by decide⟩
 ·exact .inr ⟨_,Go.Proofs.Tryz.underlying280,rfl,by decide⟩
 ·exact .inr ⟨_,Go.Proofs.Tryz.underlying281,rfl,by decide⟩
 ·exact .inl rfl
theorem Bl:∀t j ft off,JK t j=some (ft,off)->∃F f,(Go.Proofs.Tryz.prog).underlying t=some (.struct F)/\F[j]? = some f/\f.type=ft/\f.offset=off/\Bk ft≠0:=by
 intro t j ft off h;unfold JK at h
 rcases Dx t with e | ⟨F,h1,h2,h3⟩
 ·rw[e] at h;simp at h
 ·have h4:=h3 _ (W1 h);rw[←h2,Wz,YQ] at h;cases e:F[j]? with
  | none=>rw[e] at h;cases h
  | some f=>
   rw[e] at h;simp only[Option.map_some,Option.some.injEq,Prod.mk.injEq] at h;exact ⟨F,f,h1,e,h.1,h.2,h4⟩
theorem tK:TabOK Go.Proofs.Tryz.prog tab:=⟨Bn,Bm,Bl⟩
end Go.Eng
namespace Go.Eng
section
variable {P:Program} {T:Tab} {C:Ctx} {σ σ':St} {Ret:St->Prop}
def go (T:Tab):Nat->List It->St->Option (Prop×List It×St)
 | 0,k,σ=>some (True,k,σ)
 | n+1,k,σ=>
  match k with
  | .code (.seq x y)::k=>go T n (.code x::.code y::k) σ
  | .code (.block id c)::k=>go T n (.code c::.blk id::k) σ
  | .code .skip::k=>go T n k σ
  | .blk _::k=>go T n k σ
  | .code (.exit id)::k=>
   match exitTo id k with
   | some k'=>go T n k' σ
   | none=>none
  | .code (.region _ ops false)::k=>go T n (.ops ops ops.toList::k) σ
  | .ops all l::k=>
   match ju T all l σ with
   | some (p,[],σ')=>(go T n k σ').map λr=>(p/\r.1,r.2)
   | some (p,o::l',σ')=>some (p,.ops all (o::l')::k,σ')
   | none=>none
  | k=>some (True,k,σ)
theorem nz (hT:TabOK P T):∀(n:Nat) {k k':List It} {σ σ':St} {p:Prop},go T n k σ=some (p,k',σ')->p->Cw P C Ret k' σ'->Cw P C Ret k σ
 | 0,k,k',σ,σ',p,h,_,hk=>by
  simp only[go,Option.some.injEq,Prod.mk.injEq] at h;obtain ⟨_,rfl,rfl⟩:=h;exact hk
 | n+1,k,k',σ,σ',p,h,hp,hk=>by
  unfold go at h;split at h
  ·exact pE (nz hT n h hp hk)
  ·exact xz (nz hT n h hp hk)
  ·exact BN (nz hT n h hp hk)
  ·exact D9 (nz hT n h hp hk)
  ·split at h
   ·rename_i k1 he;exact BL he (nz hT n h hp hk)
   ·cases h
  ·exact uy (nz hT n h hp hk)
  ·rename_i all l k2;split at h
   ·rename_i q σ1 hr;cases e:go T n k2 σ1 with
    | none=>rw[e] at h;cases h
    | some r=>
     obtain ⟨r1,r2,r3⟩:=r;simp only[e,Option.map_some,Option.some.injEq,Prod.mk.injEq] at h;obtain ⟨rfl,rfl,rfl⟩:=h;exact Ec hT hr hp.1 (dq (nz hT n e hp.2 hk))
   ·rename_i q o l' σ1 hr;simp only[Option.some.injEq,Prod.mk.injEq] at h;obtain ⟨rfl,rfl,rfl⟩:=h;exact Ec hT hr hp hk
   ·cases h
  ·simp only[Option.some.injEq,Prod.mk.injEq] at h;obtain ⟨_,rfl,rfl⟩:=h;exact hk
end
end Go.Eng
