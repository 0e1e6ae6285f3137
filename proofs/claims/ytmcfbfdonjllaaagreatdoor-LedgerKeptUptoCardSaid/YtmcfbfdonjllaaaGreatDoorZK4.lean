/- Texts of this claim, part 4: EngL, EngN, EngM, EngO, EngP. No condition. -/
import Derived.Test.YtmcfbfdonjllaaaGreatDoorZK3
set_option maxRecDepth 10000
set_option maxHeartbeats 4000000
set_option linter.unusedSimpArgs false
set_option linter.unusedVariables false
namespace Go.Eng
section
variable {P:Program} {T:Tab} {C:Ctx} {σ σ':St}
def ax (P:Program) (f:FuncId):Prop:=∃fn,P.funcs[f]? = some fn/\(fn.name == "runtime.NumGoroutine")=false/\fn.body.isSome=true
mutual
def AV.scalar:AV->Bool
 | .int .. | .bool _ | .str _ | .nilp | .nili | .ifc | .nils | .nilm=>true
 | .tup vs=>kT vs
 | .agg vs=>kT vs
 | _=>false
def kT:List AV->Bool
 | []=>true
 | x::r=>x.scalar&&kT r
end
theorem gW {x:AV}:∀{l:List AV} {j:Nat},kT l=true->l[j]? = some x->x.scalar=true
 | [],j,_,h=>by simp at h
 | y::r,j,hl,h=>by
  simp only[kT,Bool.and_eq_true] at hl;cases j with
  | zero=>simp only[List.getElem?_cons_zero,Option.some.injEq] at h;subst h;exact hl.1
  | succ j=>exact gW hl.2 j5
theorem RdP.scalar {S S':Nat->Prop} {w w':World} {v:Value} {x:AV} (h:RdP S w v x) (hx:x.scalar=true):RdP S' w' v x:=by
 induction h with
 | int k n=>exact .int k n
 | bool b=>exact .bool b
 | str s l h=>exact .str s l h
 | nilp=>exact .nilp
 | nili=>exact .nili
 | ifc t p=>exact .ifc t p
 | nils=>exact .nils
 | nilm=>exact .nilm
 | agg cs cells hl hr ih=>exact .agg cs cells hl (λj x hj=>ih j x hj (gW Zd hj))
 | sl=>cases hx
 | rp=>cases hx
 | rm=>cases hx
 | fn=>cases hx
theorem Rd.scalar {μ μ':Nat->Option Nat} {S S':Nat->Prop} {w w':World} {v:Value} {x:AV} (h:Rd μ S w v x) (hx:x.scalar=true):Rd μ' S' w' v x:=by
 induction h with
 | any=>cases hx
 | pure h=>exact .pure (h.scalar hx)
 | agg cs cells hl hr ih=>exact .agg cs cells hl (λj x hj=>ih j x hj (gW Zd hj))
 | tup cs cells hl hr ih=>exact .tup cs cells hl (λj x hj=>ih j x hj (gW Zd hj))
 | fn=>cases hx
 | ptr=>cases hx
 | osl=>cases hx
 | mp=>cases hx
 | exs=>cases hx
 | cndT=>cases hx
 | cndF=>cases hx
theorem Rd.free {μ μ':Nat->Option Nat} {S:Nat->Prop} {w:World} {v:Value} {x:AV} (h:Rd μ S w v x) (hx:refs x=[]):Rd μ' S w v x:=by
 induction h with
 | any v=>exact .any v
 | pure h=>exact .pure h
 | agg cs cells hl hr ih=>exact .agg cs cells hl (λj x hj=>ih j x hj (refsL_nil Qz hj))
 | tup cs cells hl hr ih=>exact .tup cs cells hl (λj x hj=>ih j x hj (refsL_nil Qz hj))
 | fn f vals caps hl hr ih=>exact .fn f vals caps hl (λj x hj=>ih j x hj (refsL_nil Qz hj))
 | ptr=>simp[refs] at hx
 | osl=>simp[refs] at hx
 | mp=>simp[refs] at hx
 | exs=>simp[refs] at hx
 | cndT v x h ih=>exact .cndT v x (ih Qz)
 | cndF x=>exact .cndF x
where
 refsL_nil {x:AV}:∀{l:List AV} {j:Nat},av l=[]->l[j]? = some x->refs x=[]
  | [],j,_,h=>by simp at h
  | y::r,j,hl,h=>by
   simp only[av,List.append_eq_nil_iff] at hl;cases j with
   | zero=>simp only[List.getElem?_cons_zero,Option.some.injEq] at h;subst h;exact hl.1
   | succ j=>exact refsL_nil hl.2 j5
theorem Inv.called {μ:Nat->Option Nat} {S S':Nat->Prop} {a:Act} {w w':World} (hi:Inv C μ S σ a w) (hf:Frm (λ_=>False) w w')
  (hS:∀b,S' b->b<w'.heap.size/\(S b\/w.heap.size≤b)):Inv C μ (λb=>S b\/S' b) σ a w':=by
 have hb:∀b,b<w.heap.size->w'.heap[b]? = w.heap[b]?:=λb h=>hf.block b h (λh=>h)
 have hw:aE S w w':=λb h=>hb b (hi.sb b h).1
 have hz:∀i g,μ i=some g->af w' g=af w g:=λi g h=>aG (hb g (hi.dom i g h).2.2.2)
 refine ⟨hi.size,hi.defers,λt x hx=>(hi.tm t x hx).mono hw (λ_ h=>.inl h) (λ_ _ h=>h) hz,λi b h=>(hi.hp i b h).mono hw (λ_ h=>.inl h) (λ_ _ h=>h) hz (λh=>h) (λg h=>hb g (hi.dom i g h).2.2.2),λi g h=>?_,hi.inj,hi.frm.step (λ_=>False) hf (λ_ h=>h.elim),λb h=>?_⟩
 ·obtain ⟨h1,h2,h3,h4⟩:=hi.dom i g h;refine ⟨h1,h2,?_,WO h4 hf.size⟩;rintro (h | h)
  ·exact h3 h
  ·rcases (hS g h).2 with h | h
   ·exact h3 h
   ·omega
 ·rcases h with h | h
  ·exact ⟨WO (hi.sb b h).1 hf.size,(hi.sb b h).2⟩
  ·refine ⟨(hS b h).1,?_⟩
   rcases (hS b h).2 with h | h
   ·exact (hi.sb b h).2
   ·have:=hi.frm.size;exact .inr (.inr z7)
def ar (σ:St) (c:Operand) (args:List Operand):Option (Prop×FuncId×List AV):=
 match evS σ c with
 | (p,.fn f caps)=>some (p/\(dg σ args).1,f,(dg σ args).2++caps)
 | _=>none
theorem f_ {o:Oper} {c:Operand} {args:Array Operand} {ats:Array TypeId} {μ:Nat->Option Nat} {S:Nat->Prop} {a:Act} {w:World} (hi:Inv C μ S σ a w)
  (ho:o.op=.call { callee:=.value c,args,argTypes:=ats }) {p:Prop} {f:FuncId} {xs:List AV} (h:ar σ c args.toList=some (p,f,xs)) (hp:p) (hc:ax P f) :
  ∃vs:List Value,vs.length=xs.length/\(∀(j:Nat) x,xs[j]? = some x->Rd μ S w (vs.getD j undef) x)/\(execOp a.eval o).run P w=.ok (.enter f vs.toArray) w:=by
 unfold ar at h;split at h
 ·rename_i q f' caps hev;simp only[Option.some.injEq,Prod.mk.injEq] at h;obtain ⟨rfl,rfl,rfl⟩:=h;have hv:=hi.evS c (by rw[hev];exact hp.1);rw[hev] at hv;obtain ⟨vals,he,hl,hr⟩:=hv.xI;obtain ⟨fn,hf,hn,hb⟩:=hc;refine ⟨args.toList.map a.eval++vals.toList,by simp[jT,hl],λj x hx=>?_,?_⟩
  ·by_cases hj:j<args.toList.length
   ·rw[WC (by rw[jT];exact hj)] at hx;obtain ⟨o',ho',hr'⟩:=hi.dg _ hp.2 j x hx;rw[Zo,WC u6,Zr,ho'];exact hr'
   ·rw[Z8 (by rw[jT];omega),jT] at hx;have:=hr _ x hx;rw[Zo,Z8 u6];rw[Zq,←WI] at this;rw[List.length_map];exact this
  ·have hb':¬fn.body=none:=by intro e;rw[e] at hb;cases hb
   have hn':¬fn.name = "runtime.NumGoroutine":=by simpa using hn
   have e1:(#[]++args.map a.eval++vals)=(args.toList.map a.eval++vals.toList).toArray:=by
    apply Array.ext';simp
   simp[execOp,ho,resolve,he,Deferred.ofValue,invoke,callFunc,hf,hn',hb']
 ·cases h
theorem kU {o:Oper} {c:Operand} {args:Array Operand} {ats:Array TypeId} (ho:o.op=.call { callee:=.value c,args,argTypes:=ats }) {p:Prop} {f:FuncId} {xs:List AV}
  (h:ar σ c args.toList=some (p,f,xs)) (hp:p) (hc:ax P f) (hx:av xs=[]) {r:AV} (hr:refs r=[]) (hf:ae P f xs [] λr' _=>r'=r):dx P C o σ (σ.put o.dst r):=by
 intro a w K Q ⟨μ,S,hi⟩ hK;obtain ⟨vs,h1,h2,h3⟩:=f_ hi ho h hp hc;unfold Oper.wp;rw[h3];refine (hf S (λ_=>none) w vs h1 (λj x hj=>(h2 j x hj).free (Rd.free.refsL_nil hx hj)) ⟨λid b h=>by simp[aa] at h,λid g h=>QM,λid id' g h=>QM,hi.gok.nil⟩ (λb hb=>(hi.sb b hb).1)).mono ?_;rintro e w' ⟨v,r',H',μ',S',rfl,rfl,k1,k2,k3,k4,k5⟩;have hfr:Frm (λ_=>False) w w':=⟨k3.os,k3.tape,k3.output,k3.size,λb hb _=>k3.block b hb Ze⟩;have hi':=hi.called hfr (S':=S') (λb hb=>⟨(k5 b hb).1,by
  rcases (k5 b hb).2 with h | ⟨id,h⟩ | h
  ·exact .inl h
  ·cases h
  ·exact .inr h⟩)
 exact hK _ _ ⟨μ,_,hi'.put o.dst ((k1.mono (aE.refl _ _) (λ_ h=>.inr h) (λ_ _ h=>h) (λ_ _ _=>rfl)).free hr)⟩
mutual
def view (h:List (Nat×Blk)):AV->Option (Prop×AV)
 | .osl id s off len=>
  match aa h id with
  | some (.cells _ s' rows)=>if s=s' then some (off+len≤rows.length/\(rows.all λrow=>row.all AV.aX)=true,.sl ((rows.drop off).take len)) else none
  | _=>none
 | .ptr id s row off=>
  match aa h id with
  | some (.cells _ s' rows)=>if s=s' then some (row<rows.length/\((rows.getD row []).all AV.aX)=true,.rp (rows.getD row []) off) else none
  | _=>none
 | .mp id=>
  match aa h id with
  | some (.map kvs)=>some (True,.rm kvs)
  | _=>none
 | .fn f caps=>(dW h caps).map λr=>(r.1,.fn f r.2)
 | .agg cells=>(dW h cells).map λr=>(r.1,.agg r.2)
 | .any=>none
 | .tup _=>none
 | .cnd ..=>none
 | .exs ..=>none
 | x=>some (True,x)
def dW (h:List (Nat×Blk)):List AV->Option (Prop×List AV)
 | []=>some (True,[])
 | x::r=>
  match view h x,dW h r with
  | some (p,y),some (q,l)=>some (p/\q,y::l)
  | _,_=>none
end
theorem zx {l:List (List AV)} {i:Nat} (h:i<l.length):l[i]? = some (l.getD i []):=by
 rw[Zo,Zp h];rfl
mutual
theorem yB {μ:Nat->Option Nat} {S:Nat->Prop} {a:Act} {w:World} (hi:Inv C μ S σ a w):∀(x:AV) {p:Prop} {y:AV} {v:Value},view σ.hp x=some (p,y)->p->Rd μ S w v x ->
  RdP (λb=>S b\/∃id,μ id=some b) w v y
 | .osl id s off len,p,y,v,h,hp,hv=>by
  simp only[view] at h;split at h
  ·rename_i e s' rows hb;split at h
   ·rename_i hs;subst hs;simp only[Option.some.injEq,Prod.mk.injEq] at h;obtain ⟨rfl,rfl⟩:=h;obtain ⟨hle,hpure⟩:=hp;obtain ⟨A,cap,rfl,hc,hor⟩:=hv.bG;have hl:((rows.drop off).take len).length=len:=by simp;omega
    rcases hor with ⟨rfl,h2⟩ | ⟨g,e',n,h1,rfl,h3,h4⟩
    ·exact .sl A 0 cap _ s 0 0 (λ_ _=>undef) hl hc (λrow h=>by simp at h) (λh=>by omega) (λi j h=>by omega) (λi row h=>by simp at h)
    ·rcases hi.hp id _ hb with ⟨_,k2⟩ | ⟨g',c,k1,k2,k3,k4,k5⟩
     ·rw[k2] at h1;cases h1
     ·rw[k1] at h1;injection h1 with h1;subst h1
      refine .sl _ len cap _ s g' (off*s) (λi j=>c.getD ((off+i)*s+j) undef) hl hc (λrow h=>k4 row (WS (Z3 h))) (λ_=>⟨rfl,.inr ⟨id,k1⟩⟩) (λi j hi' hj=>?_) (λi row h j x hx=>?_)
      ·have hlt:(off+i)*s+s≤rows.length*s:=by
        have:=Z2 s (show off+i+1≤rows.length by omega)
        rwa [Ws] at this
       rw[show off*s+(i*s+j)=(off+i)*s+j from by rw[WW];omega,cell_of k2,Zq,Zx z7];rfl
      ·rw[WE] at h;split at h
       ·rw[WJ] at h;exact ((k5 _ row h j x hx).toP (List.all_eq_true.1 (List.all_eq_true.1 hpure row (Zs h)) x (Zs hx))).mono (aE.refl _ _) (λ_ h=>.inl h)
       ·cases h
   ·cases h
  ·cases h
 | .ptr id s row off,p,y,v,h,hp,hv=>by
  simp only[view] at h;split at h
  ·rename_i e s' rows hb;split at h
   ·rename_i hs;subst hs;simp only[Option.some.injEq,Prod.mk.injEq] at h;obtain ⟨rfl,rfl⟩:=h;obtain ⟨hrow,hpure⟩:=hp;obtain ⟨g,hg,rfl⟩:=hv.jc
    rcases hi.hp id _ hb with ⟨rfl,_⟩ | ⟨g',c,k1,k2,k3,k4,k5⟩
    ·simp at hrow
    ·rw[k1] at hg;injection hg with hg;subst hg
     have hr:=zx hrow;have hlen:=k4 _ (Zs hr);have hlt:=fL (size:=s) hr;refine .rp g' (row*s) off _ (λj=>c.getD (row*s+j) undef) (.inr ⟨id,k1⟩) (λj hj=>?_) (λj x hx=>?_)
     ·rw[cell_of k2,Zq,Zx z7];rfl
     ·exact ((k5 _ _ hr j x hx).toP (List.all_eq_true.1 hpure x (Zs hx))).mono (aE.refl _ _) (λ_ h=>.inl h)
   ·cases h
  ·cases h
 | .mp id,p,y,v,h,hp,hv=>by
  simp only[view] at h;split at h
  ·rename_i kvs hb;simp only[Option.some.injEq,Prod.mk.injEq] at h;obtain ⟨_,rfl⟩:=h;obtain ⟨g,hg,rfl⟩:=hv.qv;obtain ⟨g',es,clk,vals,k1,k2,k3,k4⟩:=hi.hp id _ hb;rw[k1] at hg;injection hg with hg;subst hg
   exact .rm g' es clk kvs vals (.inr ⟨id,k1⟩) k2 k3 (λq hq=>(k4 q hq).mono (aE.refl _ _) (λ_ h=>.inl h))
  ·cases h
 | .fn f caps,p,y,v,h,hp,hv=>by
  simp only[view] at h;cases e:dW σ.hp caps with
  | none=>rw[e] at h;cases h
  | some q=>
   obtain ⟨q1,l⟩:=q;simp only[e,Option.map_some,Option.some.injEq,Prod.mk.injEq] at h;obtain ⟨rfl,rfl⟩:=h;obtain ⟨vals,rfl,hl,hr⟩:=hv.xI;obtain ⟨h1,h2⟩:=hX hi caps e hp (λj=>vals.getD j undef) hr;exact .fn f vals l (by rw[hl,h1]) h2
 | .agg cells,p,y,v,h,hp,hv=>by
  simp only[view] at h;cases e:dW σ.hp cells with
  | none=>rw[e] at h;cases h
  | some q=>
   obtain ⟨q1,l⟩:=q;simp only[e,Option.map_some,Option.some.injEq,Prod.mk.injEq] at h;obtain ⟨rfl,rfl⟩:=h;obtain ⟨cs,rfl,hl,hr⟩:=hv.kL;obtain ⟨h1,h2⟩:=hX hi cells e hp (λj=>cs.getD j undef) hr;exact .agg cs l (by rw[hl,h1]) h2
 | .any,p,y,v,h,_,_=>by simp[view] at h
 | .tup _,p,y,v,h,_,_=>by simp[view] at h
 | .cnd ..,p,y,v,h,_,_=>by simp[view] at h
 | .exs ..,p,y,v,h,_,_=>by simp[view] at h
 | .int k n,p,y,v,h,_,hv=>by simp only[view,Option.some.injEq,Prod.mk.injEq] at h;obtain ⟨_,rfl⟩:=h;exact (hv.toP rfl).mono (aE.refl _ _) (λ_ h=>.inl h)
 | .bool b,p,y,v,h,_,hv=>by simp only[view,Option.some.injEq,Prod.mk.injEq] at h;obtain ⟨_,rfl⟩:=h;exact (hv.toP rfl).mono (aE.refl _ _) (λ_ h=>.inl h)
 | .str s,p,y,v,h,_,hv=>by simp only[view,Option.some.injEq,Prod.mk.injEq] at h;obtain ⟨_,rfl⟩:=h;exact (hv.toP rfl).mono (aE.refl _ _) (λ_ h=>.inl h)
 | .nilp,p,y,v,h,_,hv=>by simp only[view,Option.some.injEq,Prod.mk.injEq] at h;obtain ⟨_,rfl⟩:=h;exact (hv.toP rfl).mono (aE.refl _ _) (λ_ h=>.inl h)
 | .nili,p,y,v,h,_,hv=>by simp only[view,Option.some.injEq,Prod.mk.injEq] at h;obtain ⟨_,rfl⟩:=h;exact (hv.toP rfl).mono (aE.refl _ _) (λ_ h=>.inl h)
 | .ifc,p,y,v,h,_,hv=>by simp only[view,Option.some.injEq,Prod.mk.injEq] at h;obtain ⟨_,rfl⟩:=h;exact (hv.toP rfl).mono (aE.refl _ _) (λ_ h=>.inl h)
 | .nils,p,y,v,h,_,hv=>by simp only[view,Option.some.injEq,Prod.mk.injEq] at h;obtain ⟨_,rfl⟩:=h;exact (hv.toP rfl).mono (aE.refl _ _) (λ_ h=>.inl h)
 | .nilm,p,y,v,h,_,hv=>by simp only[view,Option.some.injEq,Prod.mk.injEq] at h;obtain ⟨_,rfl⟩:=h;exact (hv.toP rfl).mono (aE.refl _ _) (λ_ h=>.inl h)
 | .sl rows,p,y,v,h,_,hv=>by simp only[view,Option.some.injEq,Prod.mk.injEq] at h;obtain ⟨_,rfl⟩:=h;exact (hv.toP rfl).mono (aE.refl _ _) (λ_ h=>.inl h)
 | .rp c o,p,y,v,h,_,hv=>by simp only[view,Option.some.injEq,Prod.mk.injEq] at h;obtain ⟨_,rfl⟩:=h;exact (hv.toP rfl).mono (aE.refl _ _) (λ_ h=>.inl h)
 | .rm kvs,p,y,v,h,_,hv=>by simp only[view,Option.some.injEq,Prod.mk.injEq] at h;obtain ⟨_,rfl⟩:=h;exact (hv.toP rfl).mono (aE.refl _ _) (λ_ h=>.inl h)
theorem hX {μ:Nat->Option Nat} {S:Nat->Prop} {a:Act} {w:World} (hi:Inv C μ S σ a w):∀(l:List AV) {p:Prop} {l':List AV},dW σ.hp l=some (p,l')->p->∀(f:Nat->Value),
  (∀(j:Nat) x,l[j]? = some x->Rd μ S w (f j) x)->l.length=l'.length/\∀(j:Nat) x,l'[j]? = some x->RdP (λb=>S b\/∃id,μ id=some b) w (f j) x
 | [],p,l',h,_,f,_=>by
  simp only[dW,Option.some.injEq,Prod.mk.injEq] at h;obtain ⟨_,rfl⟩:=h;exact ⟨rfl,λj x hx=>by simp at hx⟩
 | x::r,p,l',h,hp,f,hf=>by
  simp only[dW] at h;split at h
  ·rename_i p1 y q l hx hr;simp only[Option.some.injEq,Prod.mk.injEq] at h;obtain ⟨rfl,rfl⟩:=h;have h1:=yB hi x hx hp.1 (hf 0 x rfl);obtain ⟨h2,h3⟩:=hX hi r hr hp.2 (λj=>f (j+1)) (λj z hz=>hf (j+1) z Ql);refine ⟨by simp[h2],λj z hz=>?_⟩;cases j with
   | zero=>simp only[List.getElem?_cons_zero,Option.some.injEq] at hz;subst hz;exact h1
   | succ j=>exact h3 j z Ql
  ·cases h
end
theorem ti {o:Oper} {c:Operand} {args:Array Operand} {ats:Array TypeId} (ho:o.op=.call { callee:=.value c,args,argTypes:=ats }) {p q:Prop} {f:FuncId} {xs ys:List AV}
  (h:ar σ c args.toList=some (p,f,xs)) (hp:p) (hv:dW σ.hp xs=some (q,ys)) (hq:q) (hc:ax P f) {r:AV} (hr:r.scalar=true) (hf:ae P f ys [] λr' _=>r'=r) :
  dx P C o σ (σ.put o.dst r):=by
 intro a w K Q ⟨μ,S,hi⟩ hK;obtain ⟨vs,h1,h2,h3⟩:=f_ hi ho h hp hc;obtain ⟨g1,g2⟩:=hX hi xs hv hq (λj=>vs.getD j undef) h2;unfold Oper.wp;rw[h3];refine (hf (λb=>S b\/∃id,μ id=some b) (λ_=>none) w vs (by rw[h1,g1]) (λj x hj=>.pure (g2 j x hj)) ⟨λid b h=>by simp[aa] at h,λid g h=>QM,λid id' g h=>QM,hi.gok.nil⟩ (λb hb=>by
  rcases hb with hb | ⟨id,hb⟩
  ·exact (hi.sb b hb).1
  ·exact (hi.dom id b hb).2.2.2)).mono ?_
 rintro e w' ⟨v,r',H',μ',S',rfl,rfl,k1,k2,k3,k4,k5⟩;have hfr:Frm (λ_=>False) w w':=⟨k3.os,k3.tape,k3.output,k3.size,λb hb _=>k3.block b hb Ze⟩;have hi':=hi.called hfr (S':=λ_=>False) (λb hb=>hb.elim);exact hK _ _ ⟨μ,_,hi'.put o.dst (k1.scalar hr)⟩
end
end Go.Eng
namespace Go.Eng
section
variable {P:Program} {T:Tab} {C:Ctx} {σ σ':St} {Ret:St->Prop}
def go (T:Tab):Nat->List It->St->Option (Prop×List It×St)
 | 0,k,σ=>some (True,k,σ)
 | n+1,k,σ=>
  match k with
  | .code (.seq x y)::k=>go T n (.code x::.code y::k) σ
  | .code (.block id c)::k=>go T n (.code c::.blk id::k) σ
  | .code .skip::k=>go T n k σ
  | .blk _::k=>go T n k σ
  | .code (.exit id)::k=>
   match exitTo id k with
   | some k'=>go T n k' σ
   | none=>none
  | .code (.region _ ops false)::k=>go T n (.ops ops ops.toList::k) σ
  | .ops all l::k=>
   match gQ T all l σ with
   | some (p,[],σ')=>(go T n k σ').map λr=>(p/\r.1,r.2)
   | some (p,o::l',σ')=>some (p,.ops all (o::l')::k,σ')
   | none=>none
  | k=>some (True,k,σ)
theorem mj (hT:TabOK P T):∀(n:Nat) {k k':List It} {σ σ':St} {p:Prop},go T n k σ=some (p,k',σ')->p->Cw P C Ret k' σ'->Cw P C Ret k σ
 | 0,k,k',σ,σ',p,h,_,hk=>by
  simp only[go,Option.some.injEq,Prod.mk.injEq] at h;obtain ⟨_,rfl,rfl⟩:=h;exact hk
 | n+1,k,k',σ,σ',p,h,hp,hk=>by
  unfold go at h;split at h
  ·exact nz (mj hT n h hp hk)
  ·exact uO (mj hT n h hp hk)
  ·exact yR (mj hT n h hp hk)
  ·exact BG (mj hT n h hp hk)
  ·split at h
   ·rename_i k1 he;exact yP he (mj hT n h hp hk)
   ·cases h
  ·exact rZ (mj hT n h hp hk)
  ·rename_i all l k2;split at h
   ·rename_i q σ1 hr;cases e:go T n k2 σ1 with
    | none=>rw[e] at h;cases h
    | some r=>
     obtain ⟨r1,r2,r3⟩:=r;simp only[e,Option.map_some,Option.some.injEq,Prod.mk.injEq] at h;obtain ⟨rfl,rfl,rfl⟩:=h;exact BN hT hr hp.1 (gm (mj hT n e hp.2 hk))
   ·rename_i q o l' σ1 hr;simp only[Option.some.injEq,Prod.mk.injEq] at h;obtain ⟨rfl,rfl,rfl⟩:=h;exact BN hT hr hp hk
   ·cases h
  ·simp only[Option.some.injEq,Prod.mk.injEq] at h;obtain ⟨_,rfl,rfl⟩:=h;exact hk
end
end Go.Eng
namespace Go.Eng
section
variable {P:Program} {T:Tab} {C:Ctx} {σ σ':St}
inductive Loc where
 | tm (t:Nat)
 | blk (id:Nat)
 deriving DecidableEq
structure Sp where
 dst:Option Tmp
 val:AV
 new:List (Nat×Blk)
 rd:List Loc
def Sp.app (p:Sp) (σ:St):St:=St.put ⟨σ.tm,p.new++σ.hp⟩ p.dst p.val
def Sp.wr (p:Sp):List Loc:=(match p.dst with | some t=>[Loc.tm t] | none=>[])++p.new.map λb=>Loc.blk b.1
def az (σ s:St):Loc->Prop
 | .tm t=>s.tm.getD t .any=σ.tm.getD t .any
 | .blk id=>aa s.hp id=aa σ.hp id
def rT (P:Program) (C:Ctx) (ops:Array Oper) (o:Oper) (σ σ':St):Prop:=
 ∀a w (K:Act->World->Prop) (Q:Exit->Act->World->Prop),Rel C σ a w->(∀a' w',Rel C σ' a' w'->K a' w') ->
  if Region.wanted o (yielded ops a.tmps) then o.wp P a w K Q\/(o.asks P a w/\LetsOut Q) else K (a.put o.dst undef) w
def Rob (P:Program) (C:Ctx) (ops:Array Oper) (o:Oper) (p:Sp) (σ:St):Prop:=
 ∀s,(∀x,x∈p.rd->az σ s x)->(∀b,b∈p.new->Loc.blk b.1∉p.rd->aa s.hp b.1=none)->rT P C ops o s (p.app s)
def cE (P:Program) (C:Ctx) (ops:Array Oper):List Oper->List Sp->St->Prop
 | [],[],_=>True
 | o::l,p::ps,σ=>Rob P C ops o p σ/\cE P C ops l ps (p.app σ)
 | _,_,_=>False
def bE:List Sp->St->St
 | [],σ=>σ
 | p::ps,σ=>bE ps (p.app σ)
def tv (D:Nat->Bool):Nat->List Sp->Nat->AV->AV
 | _,[],_,d=>d
 | i,p::r,t,d=>tv D (i+1) r t (if D i=true/\p.dst=some t then p.val else d)
def tu (D:Nat->Bool):Nat->List Sp->Nat->Option Blk->Option Blk
 | _,[],_,d=>d
 | i,p::r,id,d=>tu D (i+1) r id (if D i=true/\(∃b,b∈p.new/\b.1=id) then aa p.new id else d)
theorem iV {D E:Nat->Bool} {t:Nat}:∀(ps:List Sp) (i:Nat) {d:AV},(∀j p,ps[j]? = some p->p.dst=some t->D (i+j)=E (i+j))->tv D i ps t d=tv E i ps t d
 | [],_,_,_=>rfl
 | p::r,i,d,h=>by
  simp only[tv];have h0:(D i=true/\p.dst=some t)↔(E i=true/\p.dst=some t):=by
   constructor<;>rintro ⟨h1,h2⟩
   ·exact ⟨(h 0 p rfl h2).symm.trans h1,h2⟩
   ·exact ⟨(h 0 p rfl h2).trans h1,h2⟩
  rw[iV (D:=D) (E:=E) (t:=t) r (i+1) (λj q hq hd=>by
   have:=h (j+1) q QX hd
   rwa [show i+(j+1)=i+1+j from by omega] at this)]
  congr 1
  by_cases hc:D i=true/\p.dst=some t
  ·rw[if_pos hc,if_pos (h0.1 hc)]
  ·rw[if_neg hc,if_neg (λh=>hc (h0.2 h))]
theorem gj {D E:Nat->Bool} {id:Nat}:∀(ps:List Sp) (i:Nat) {d:Option Blk},(∀j p,ps[j]? = some p->(∃b,b∈p.new/\b.1=id)->D (i+j)=E (i+j))->tu D i ps id d=tu E i ps id d
 | [],_,_,_=>rfl
 | p::r,i,d,h=>by
  simp only[tu];have h0:(D i=true/\(∃b,b∈p.new/\b.1=id))↔(E i=true/\(∃b,b∈p.new/\b.1=id)):=by
   constructor<;>rintro ⟨h1,h2⟩
   ·exact ⟨(h 0 p rfl h2).symm.trans h1,h2⟩
   ·exact ⟨(h 0 p rfl h2).trans h1,h2⟩
  rw[gj (D:=D) (E:=E) (id:=id) r (i+1) (λj q hq hd=>by
   have:=h (j+1) q QX hd
   rwa [show i+(j+1)=i+1+j from by omega] at this)]
  congr 1
  by_cases hc:D i=true/\(∃b,b∈p.new/\b.1=id)
  ·rw[if_pos hc,if_pos (h0.1 hc)]
  ·rw[if_neg hc,if_neg (λh=>hc (h0.2 h))]
theorem nt {D:Nat->Bool} {t:Nat}:∀(ps:List Sp) (i:Nat) {d:AV},(∀j p,ps[j]? = some p->p.dst=some t->D (i+j)=false)->tv D i ps t d=d
 | [],_,_,_=>rfl
 | p::r,i,d,h=>by
  simp only[tv];rw[if_neg (λhc=>by have:=h 0 p rfl hc.2;rw[Nat.add_zero,hc.1] at this;cases this)];exact nt r (i+1) (λj q hq hd=>by
   have:=h (j+1) q QX hd
   rwa [show i+(j+1)=i+1+j from by omega] at this)
theorem nr {D:Nat->Bool} {id:Nat}:∀(ps:List Sp) (i:Nat) {d:Option Blk},(∀j p,ps[j]? = some p->(∃b,b∈p.new/\b.1=id)->D (i+j)=false)->tu D i ps id d=d
 | [],_,_,_=>rfl
 | p::r,i,d,h=>by
  simp only[tu];rw[if_neg (λhc=>by have:=h 0 p rfl hc.2;rw[Nat.add_zero,hc.1] at this;cases this)];exact nr r (i+1) (λj q hq hd=>by
   have:=h (j+1) q QX hd
   rwa [show i+(j+1)=i+1+j from by omega] at this)
theorem uI {E:Nat->Bool} {t:Nat} {q:Sp}:∀(ps:List Sp) (i m:Nat) {d:AV},ps[m]? = some q->q.dst=some t->E (i+m)=true->(∀j p,ps[j]? = some p->p.dst=some t->m<j->E (i+j)=false)->tv E i ps t d=q.val
 | [],_,_,_,h,_,_,_=>by simp at h
 | p::r,i,m,d,h,hd,hE,hu=>by
  simp only[tv];cases m with
  | zero=>
   simp only[List.getElem?_cons_zero,Option.some.injEq] at h;subst h;rw[if_pos ⟨hE,hd⟩];exact nt r (i+1) (λj p' hj hd'=>by
    have:=hu (j+1) p' u6 hd' z7
    rwa [show i+(j+1)=i+1+j from by omega] at this)
  | succ m=>
   exact uI r (i+1) m j5 hd Q0 (λj p' hj hd' hlt=>by
    have:=hu (j+1) p' u6 hd' z7
    rwa [show i+(j+1)=i+1+j from by omega] at this)
theorem uH {E:Nat->Bool} {id:Nat} {q:Sp}:∀(ps:List Sp) (i m:Nat) {d:Option Blk},ps[m]? = some q->(∃b,b∈q.new/\b.1=id)->E (i+m)=true->(∀j p,ps[j]? = some p->(∃b,b∈p.new/\b.1=id)->m<j->E (i+j)=false)->tu E i ps id d=aa q.new id
 | [],_,_,_,h,_,_,_=>by simp at h
 | p::r,i,m,d,h,hd,hE,hu=>by
  simp only[tu];cases m with
  | zero=>
   simp only[List.getElem?_cons_zero,Option.some.injEq] at h;subst h;rw[if_pos ⟨hE,hd⟩];exact nr r (i+1) (λj p' hj hd'=>by
    have:=hu (j+1) p' u6 hd' z7
    rwa [show i+(j+1)=i+1+j from by omega] at this)
  | succ m=>
   exact uH r (i+1) m j5 hd Q0 (λj p' hj hd' hlt=>by
    have:=hu (j+1) p' u6 hd' z7
    rwa [show i+(j+1)=i+1+j from by omega] at this)
structure Desc (σ:St) (ps:List Sp) (D:Nat->Bool) (s:St):Prop where
 len:s.tm.length=σ.tm.length
 tm:∀t,s.tm.getD t .any=tv D 0 ps t (σ.tm.getD t .any)
 hp:∀id,aa s.hp id=tu D 0 ps id (aa σ.hp id)
theorem an (h k:List (Nat×Blk)) (id:Nat):aa (h++k) id=if (∃b,b∈h/\b.1=id) then aa h id else aa k id:=by
 induction h with
 | nil=>simp
 | cons p r ih=>
  obtain ⟨i,c⟩:=p;simp only[List.cons_append,aa]
  by_cases e:i=id
  ·subst e;simp
  ·rw[if_neg e,if_neg e,ih]
   by_cases h2:∃b,b∈r/\b.1=id
   ·rw[if_pos h2];obtain ⟨b,h3,h4⟩:=h2;rw[if_pos ⟨b,List.mem_cons_of_mem _ h3,h4⟩]
   ·rw[if_neg h2,if_neg];rintro ⟨b,h3,h4⟩
    rcases List.mem_cons.1 h3 with h5 | h5
    ·subst h5;exact e h4
    ·exact h2 ⟨b,h5,h4⟩
structure Apart (ps:List Sp) (n:Nat):Prop where
 lt:∀(i:Nat) (p:Sp) t,ps[i]? = some p->p.dst=some t->t<n
theorem xl {p:Sp} {t:Nat} (h:p.dst=some t):Loc.tm t∈p.wr:=by simp[Sp.wr,h]
theorem lT {p:Sp} {id:Nat} (h:∃b,b∈p.new/\b.1=id):Loc.blk id∈p.wr:=by
 obtain ⟨b,hb,rfl⟩:=h;exact Zz _ (Zv.2 ⟨b,hb,rfl⟩)
theorem Desc.add {ps:List Sp} {D:Nat->Bool} {s:St} (h:Desc σ ps D s) (ha:Apart ps σ.tm.length) {m:Nat} {q:Sp} (hq:ps[m]? = some q)
  (hlate:∀j p x,ps[j]? = some p->x∈p.wr->x∈q.wr->m<j->D j=false):Desc σ ps (λj=>D j||j==m) (q.app s):=by
 refine ⟨?_,λt=>?_,λid=>?_⟩
 ·unfold Sp.app St.put;cases q.dst<;>simp[h.len]
 ·by_cases hd:q.dst=some t
  ·rw[uI ps 0 m hq hd w7 (λj p hj hd' hlt=>by
    rw[WK,hlate j p _ hj (xl hd') (xl hd) hlt];simp;omega)]
   have hlt:=ha.lt m q t hq hd;simp only[Sp.app,hd,St.put,Zo];rw[List.getElem?_set_self (by rw[h.len];exact hlt)];rfl
  ·have:(q.app s).tm.getD t .any=s.tm.getD t .any:=by
    unfold Sp.app St.put;cases e:q.dst with
    | none=>rfl
    | some u=>
     simp only[Zo];rw[List.getElem?_set_ne (by rintro rfl;exact hd e)]
   rw[this,h.tm t];refine iV ps 0 (λj p hj hd'=>?_);have:j≠m:=by rintro rfl;rw[hq] at hj;injection hj with hj;subst hj;exact hd hd'
   simp[this]
 ·have e:aa (q.app s).hp id=aa (q.new++s.hp) id:=by
   unfold Sp.app;rw[St.eO]
  rw[e,an]
  by_cases hd:∃b,b∈q.new/\b.1=id
  ·rw[if_pos hd,uH ps 0 m hq hd w7 (λj p hj hd' hlt=>by
    rw[WK,hlate j p _ hj (lT hd') (lT hd) hlt];simp;omega)]
  ·rw[if_neg hd,h.hp id];refine gj ps 0 (λj p hj hd'=>?_);have:j≠m:=by rintro rfl;rw[hq] at hj;injection hj with hj;subst hj;exact hd hd'
   simp[this]
theorem Desc.start (σ:St) (ps:List Sp):Desc σ ps (λ_=>false) σ:=by
 exact ⟨rfl,λt=>(nt _ _ (λ_ _ _ _=>rfl)).symm,λid=>(nr _ _ (λ_ _ _ _=>rfl)).symm⟩
theorem fD {s s':St} (hl:s.tm.length=s'.tm.length) (ht:∀t,s.tm.getD t .any=s'.tm.getD t .any) (hh:∀id,aa s.hp id=aa s'.hp id):Le C s s':=by
 intro a w ⟨μ,S,hi⟩;refine ⟨μ,S,by rw[hi.size,hl],hi.defers,λt x hx=>?_,λid b hb=>hi.hp id b (by rw[hh];exact hb),λid g hg=>?_,hi.inj,hi.frm,hi.sb⟩
 ·have hlt:t<s'.tm.length:=by
   by_cases h:t<s'.tm.length
   ·exact h
   ·rw[List.getElem?_eq_none z7] at hx;cases hx
  have e:=ht t;rw[Zo,Zo,hx,Zp z7] at e;simp only[Option.getD_some] at e;exact hi.tm t x (by rw[Zp z7,e])
 ·obtain ⟨⟨b,h1⟩,h2⟩:=hi.dom id g hg;exact ⟨⟨b,by rw[←hh];exact h1⟩,h2⟩
def upto (ps:List Sp) (i:Nat) (σ:St):St:=bE (ps.take i) σ
theorem tj:∀(ps:List Sp) (i:Nat) (σ:St) {p:Sp},ps[i]? = some p->upto ps (i+1) σ=p.app (upto ps i σ)
 | [],i,σ,p,h=>by simp at h
 | q::r,0,σ,p,h=>by
  simp only[List.getElem?_cons_zero,Option.some.injEq] at h;subst h;simp[upto,bE]
 | q::r,i+1,σ,p,h=>by
  have:=tj r i (q.app σ) (p:=p) j5;simpa[upto,bE] using this
theorem nA {ps:List Sp} (ha:Apart ps σ.tm.length):∀i,i≤ps.length->Desc σ ps (λj=>decide (j<i)) (upto ps i σ)
 | 0,_=>by simpa[upto,bE] using Desc.start σ ps
 | i+1,h=>by
  have hp:ps[i]? = some ps[i]:=Zp z7;rw[tj ps i σ hp];have:=(nA ha i z7).add ha hp (λj p x _ _ _ hlt=>by simp;omega);have e:(λj=>decide (j<i)||j==i)=λj=>decide (j<i+1):=by
   funext j
   rw[Bool.eq_iff_iff];simp only[Bool.or_eq_true,decide_eq_true_eq,beq_iff_eq];omega
  rwa [e] at this
theorem rW {ops:Array Oper}:∀(l:List Oper) (ps:List Sp) (σ:St),cE P C ops l ps σ->∀i o p,l[i]? = some o->ps[i]? = some p->Rob P C ops o p (upto ps i σ)
 | [],[],_,_,i,o,p,h,_=>by simp at h
 | o'::l,p'::ps,σ,h,i,o,p,ho,hp=>by
  cases i with
  | zero=>
   simp only[List.getElem?_cons_zero,Option.some.injEq] at ho hp;subst ho hp;simpa[upto,bE] using h.1
  | succ i=>
   have:=rW l ps (p'.app σ) h.2 i o p (by simpa using ho) (by simpa using hp);simpa[upto,bE] using this
 | [],_::_,_,h,_,_,_,_,_=>h.elim
 | _::_,[],_,h,_,_,_,_,_=>h.elim
def fC (ops:Array Oper) (i:Nat):List Nat:=
 match ops[i]? with
 | some o=>(o.after.toList.filter λe=>Region.binds .any e).map (·.on)
 | none=>[]
def reach (ops:Array Oper):Nat->Nat->Nat->Bool
 | 0,_,_=>false
 | f+1,i,j=>(fC ops j).any λe=>e==i||reach ops f i e
theorem cO {ops:Array Oper} {listed:Array Bool} (hc:∀j,listed.getD j false=true->∀e,e∈fC ops j->listed.getD e false=true) :
  ∀(f i j:Nat),reach ops f i j=true->(∀e,e∈fC ops j->listed.getD e false=true)->listed.getD i false=true
 | 0,_,_,h,_=>by cases h
 | f+1,i,j,h,hj=>by
  simp only[reach,List.any_eq_true,Bool.or_eq_true,beq_iff_eq] at h;obtain ⟨e,he,h1⟩:=h
  rcases h1 with rfl | h1
  ·exact hj _ he
  ·exact cO hc f i e h1 (hc e (hj e he))
abbrev cL:=List (List Loc×List Loc)
def fg (ps:List Sp):cL:=ps.map λp=>(p.wr,p.rd)
def Bt (ops:Array Oper) (j:Nat) (t:List Nat):Nat:=(fC ops j).foldl (λm e=>m ||| ((1 <<< e) ||| (if e<j then t.getD (j-1-e) 0 else 0))) 0
def pM (ops:Array Oper):Nat->List Nat
 | 0=>[]
 | j+1=>Bt ops j (pM ops j)::pM ops j
def hit (n:Nat) (t:List Nat) (i j:Nat):Bool:=(t.getD (n-1-j) 0).testBit i
theorem lK {ops:Array Oper}:∀(f g:Nat) {i j:Nat},f≤g->reach ops f i j=true->reach ops g i j=true
 | 0,_,i,j,_,h=>by cases h
 | f+1,0,i,j,hfg,_=>by omega
 | f+1,g+1,i,j,hfg,h=>by
  simp only[reach,List.any_eq_true,Bool.or_eq_true,beq_iff_eq] at h ⊢;obtain ⟨e,he,h1⟩:=h;refine ⟨e,he,?_⟩
  rcases h1 with h1 | h1
  ·exact .inl h1
  ·exact .inr (lK f g z7 h1)
theorem uE {F:Nat->Nat} {i:Nat}:∀(l:List Nat) (m:Nat),(l.foldl (λm e=>m ||| F e) m).testBit i=true->m.testBit i=true\/∃e,e∈l/\(F e).testBit i=true
 | [],m,h=>.inl h
 | e::l,m,h=>by
  simp only[List.foldl_cons] at h
  rcases uE l _ h with h | ⟨e',he,h⟩
  ·rw[Nat.testBit_or,Bool.or_eq_true] at h
   rcases h with h | h
   ·exact .inl h
   ·exact .inr ⟨e,by simp,h⟩
  ·exact .inr ⟨e',by simp[he],h⟩
theorem Ec {i e:Nat} (h:(1 <<< e).testBit i=true):i=e:=by
 simp only[Nat.testBit_shiftLeft,Bool.and_eq_true,decide_eq_true_eq] at h;obtain ⟨h1,h2⟩:=h;have:i-e=0:=by
  by_cases h3:i-e=0
  ·exact h3
  ·rw[show i-e=(i-e-1)+1 from by omega,Nat.testBit_succ] at h2;simp at h2
 omega
theorem jI (ops:Array Oper):∀(n j i:Nat),j<n->((pM ops n).getD (n-1-j) 0).testBit i=true->reach ops (j+1) i j=true
 | 0,j,i,h,_=>by omega
 | n+1,j,i,h,hb=>by
  by_cases e:j=n
  ·subst e;simp only[pM,Nat.add_sub_cancel,WY,List.getD_cons_zero] at hb;unfold Bt at hb
   rcases uE _ _ hb with h1 | ⟨e,he,h1⟩
   ·simp at h1
   ·simp only[reach,List.any_eq_true,Bool.or_eq_true,beq_iff_eq];refine ⟨e,he,?_⟩;rw[Nat.testBit_or,Bool.or_eq_true] at h1
    rcases h1 with h1 | h1
    ·exact .inl (Ec h1).symm
    ·split at h1
     ·rename_i hlt;exact .inr (lK (e+1) j z7 (jI ops j e i hlt h1))
     ·simp at h1
  ·have e1:n+1-1-j=(n-1-j)+1:=by omega
   rw[e1] at hb;simp only[pM,List.getD_cons_succ] at hb;exact jI ops n j i z7 hb
theorem gf {ops:Array Oper} {i j:Nat} (hj:j<ops.size) (h:hit ops.size (pM ops ops.size) i j=true):reach ops ops.size i j=true:=
 lK (j+1) ops.size z7 (jI ops ops.size j i hj h)
def yj (ops:Array Oper) (k:Nat) (sk:cL) (n:Nat) (t:List Nat):Bool:=
 ((List.range ops.size).all λi=>(fC ops i).all λe=>decide (e<i)) &&
 ((List.range ops.size).all λi=>decide (i<k+sk.length)||(List.range sk.length).all λs=>hit n t (k+s) i) &&
 ((List.range sk.length).all λi=>(List.range sk.length).all λj=>
  match sk[i]?,sk[j]? with
  | some p,some q=>i==j||(!(q.1.any λx=>p.1.contains x||p.2.contains x)||(if j<i then hit n t (k+j) (k+i) else hit n t (k+i) (k+j)))
  | _,_=>true)&&decide (k+sk.length≤ops.size)
def ku (ops:Array Oper) (k:Nat) (sk:cL):Bool:=yj ops k sk ops.size (pM ops ops.size)
structure SegFacts (ops:Array Oper) (k:Nat) (ps:List Sp):Prop where
 lt:∀i,i<ops.size->∀e,e∈fC ops i->e<i
 late:∀i,i<ops.size->k+ps.length≤i->∀s,s<ps.length->reach ops ops.size (k+s) i=true
 od:∀(i j:Nat) p q x,ps[i]? = some p->ps[j]? = some q->x∈q.wr->(x∈p.rd\/x∈p.wr)->i≠j->(j<i/\reach ops ops.size (k+j) (k+i)=true)\/(i<j/\reach ops ops.size (k+i) (k+j)=true)
 size:k+ps.length≤ops.size
theorem AW {ops:Array Oper} {k:Nat} {ps:List Sp} (h:ku ops k (fg ps)=true):SegFacts ops k ps:=by
 unfold ku yj at h;simp only[Bool.and_eq_true,decide_eq_true_eq] at h;obtain ⟨⟨⟨h1,h2⟩,h3⟩,h4⟩:=h;have hl:(fg ps).length=ps.length:=by simp[fg]
 rw[hl] at h2 h3 h4;have key:∀(i j:Nat) (p q:Sp),ps[i]? = some p->ps[j]? = some q->i=j\/((∀x,x∈q.wr->x∉p.wr/\x∉p.rd)\/(if j<i then reach ops ops.size (k+j) (k+i) else reach ops ops.size (k+i) (k+j))=true):=by
  intro i j p q hp hq;have hi:i<ps.length:=(Zu.1 hp).1;have hj:j<ps.length:=(Zu.1 hq).1;have:=List.all_eq_true.1 (List.all_eq_true.1 h3 i (WN.2 hi)) j (WN.2 hj);simp only[fg,Zr,hp,hq,Option.map_some,Bool.or_eq_true,beq_iff_eq,WQ,List.any_eq_false,WA] at this
  rcases this with h | h6
  ·exact .inl h
  ·refine .inr ?_
   rcases h6 with h6 | h6
   ·exact .inl (λx hx=>⟨λhx'=>h6 x hx (.inl hx'),λhx'=>h6 x hx (.inr hx')⟩)
   ·refine .inr ?_;split at h6
    ·rw[if_pos Zc];exact gf z7 h6
    ·rw[if_neg Zc];exact gf z7 h6
 refine ⟨λi hi e he=>?_,λi hi hle s hs=>?_,λi j p q x hp hq hx hx' hne=>?_,h4⟩
 ·have:=List.all_eq_true.1 (List.all_eq_true.1 h1 i (WN.2 hi)) e he;simpa using this
 ·have:=List.all_eq_true.1 h2 i (WN.2 hi);simp only[Bool.or_eq_true,decide_eq_true_eq] at this
  rcases this with h | h
  ·omega
  ·exact gf hi (List.all_eq_true.1 h s (WN.2 hs))
 ·rcases key i j p q hp hq with h | h
  ·exact absurd h hne
  ·rcases h with h | h
   ·rcases hx' with hx' | hx'
    ·exact absurd hx' (h x hx).2
    ·exact absurd hx' (h x hx).1
   ·split at h
    ·exact .inl ⟨by assumption,h⟩
    ·exact .inr ⟨by omega,h⟩
def aT (n k:Nat):Array Bool:=(Array.range n).map λi=>decide (i<k)
theorem cN (n k j:Nat) (d:Bool):(aT n k).getD j d=if j<n then decide (j<k) else d:=by
 unfold aT;rw[Zq,Array.getElem?_map,Array.getElem?_range];split<;>rfl
def aY (P:Program) (C:Ctx) (ops:Array Oper) (Q:Exit->Act->World->Prop) (k:Nat) (σ:St):Prop:=
 ∀a w,Rel C σ a w->wpAny P .any ops Q (ops.size-k) (aT ops.size k) a w
theorem BR {ops:Array Oper} {Q:Exit->Act->World->Prop} {k:Nat} (hk:k=ops.size) (h:∀a w,Rel C σ a w->Q .normal a w):aY P C ops Q k σ:=by
 intro a w hr;subst hk;have:Region.ready .any ops (aT ops.size ops.size)=[]:=by
  rw[List.eq_nil_iff_forall_not_mem];intro j hj;obtain ⟨h1,o,ho,_⟩:=mem_ready.1 hj;have hlt:j<ops.size:=(WL.1 ho).1;rw[cN,if_pos hlt] at h1;simp[hlt] at h1
 rw[WY];exact ⟨this,h a w hr⟩
theorem pW {ops:Array Oper} {Q:Exit->Act->World->Prop} {i:Nat} {o:Oper} (ho:ops[i]? = some o) {s s':St} (ht:rT P C ops o s s') {K:Act->World->Prop} {a:Act} {w:World} (hr:Rel C s a w)
  (hK:∀a' w',Rel C s' a' w'->K a' w'):wpOp P ops Q i K a w:=by
 unfold wpOp;simp only[ho];exact ht a w K Q hr hK
theorem uR {ops:Array Oper} {Q:Exit->Act->World->Prop} {k:Nat} {o:Oper} (ho:ops[k]? = some o) (hc:Region.ready .any ops (aT ops.size k)=[k]) (ht:rT P C ops o σ σ') (h:aY P C ops Q (k+1) σ') :
  aY P C ops Q k σ:=by
 intro a w hr;have hlt:k<ops.size:=(WL.1 ho).1;rw[show ops.size-k=(ops.size-(k+1))+1 from by omega];refine ⟨λh0=>(by rw[hc] at h0;cases h0),λi hi=>?_⟩;rw[hc,List.mem_singleton] at hi;subst hi;refine pW ho ht hr λa' w' hr'=>?_
 have e:(aT ops.size i).setIfInBounds i true=aT ops.size (i+1):=by
  apply Array.ext
  ·simp[aT]
  ·intro j h1 h2;simp only[aT,Array.size_setIfInBounds,Array.size_map,Array.size_range] at h1;rw[Array.getElem_setIfInBounds (by simpa[aT] using h1)];split
   ·rename_i e;subst e;simp[aT]
   ·rename_i e;simp[aT];omega
 rw[e];exact h a' w' hr'
theorem jX {D:Nat->Bool} {m:Nat} (hm:D m=false):∀(l:List Nat),l.Nodup->m∈l->(l.filter λj=>!(D j||j==m)).length+1=(l.filter λj=>!D j).length
 | [],_,h=>by cases h
 | x::r,hn,h=>by
  rw[List.nodup_cons] at hn
  rcases List.mem_cons.1 h with rfl | h'
  ·have e:(r.filter λj=>!(D j||j==m))=r.filter λj=>!D j:=by
    refine List.filter_congr λj hj=>?_
    have:j≠m:=by rintro rfl;exact hn.1 hj
    simp[this]
   simp only[List.filter_cons,hm,beq_self_eq_true,Bool.or_true,Bool.not_true,Bool.false_eq_true,if_false,Bool.not_false,if_true,List.length_cons];rw[e]
  ·have hx:x≠m:=by rintro rfl;exact hn.1 h'
   have ih:=jX hm r hn.2 h';simp only[List.filter_cons];have e:(x==m)=false:=by simpa using hx
   rw[e];simp only[Wu];split
   ·simp only[List.length_cons];omega
   ·exact ih
theorem BS {ops:Array Oper} {Q:Exit->Act->World->Prop} {k:Nat} {l:List Oper} {ps:List Sp} (hck:ku ops k (fg ps)=true) (hlen:l.length=ps.length)
  (hl:∀i,i<ps.length->ops[k+i]? = l[i]?) (hlt:∀(i:Nat) p t,ps[i]? = some p->p.dst=some t->t<σ.tm.length) (hfr:∀(i:Nat) p,ps[i]? = some p->∀b,b∈p.new->Loc.blk b.1∉p.rd->aa (upto ps i σ).hp b.1=none)
  (hch:cE P C ops l ps σ) (h:aY P C ops Q (k+ps.length) (bE ps σ)):aY P C ops Q k σ:=by
 have hF:=AW hck;have ha:Apart ps σ.tm.length:=⟨hlt⟩;have main:∀(r:Nat) (D:Nat->Bool) (listed:Array Bool) (s:St),((List.range ps.length).filter λj=>!D j).length=r->listed.size=ops.size ->
   (∀j,j<ops.size->listed.getD j false=(decide (j<k)||(decide (j<k+ps.length)&&D (j-k)))) ->
   (∀j,listed.getD j false=true->∀e,e∈fC ops j->listed.getD e false=true)->Desc σ ps D s->∀a w,Rel C s a w->wpAny P .any ops Q (ops.size-(k+ps.length)+r) listed a w:=by
  intro r
  induction r with
  | zero=>
   intro D listed s hr hsz hlist _ hd a w hrel;have hall:∀j,j<ps.length->D j=true:=λj hj=>by
    have h0:(List.range ps.length).filter (λj=>!D j)=[]:=List.eq_nil_of_length_eq_zero hr;have:=List.filter_eq_nil_iff.1 h0 j (WN.2 hj);simpa using this
   have e:listed=aT ops.size (k+ps.length):=by
    apply Array.ext
    ·simp[aT,hsz]
    ·intro j h1 h2;have hj:j<ops.size:=by omega
     have h3:=hlist j hj;rw[Zq,Zx h1,Option.getD_some] at h3;rw[h3];have h4:=cN ops.size (k+ps.length) j false;rw[Zq,Zx h2,Option.getD_some,if_pos hj] at h4;rw[h4]
     by_cases hk:j<k
     ·simp[hk];omega
     ·by_cases hk2:j<k+ps.length
      ·simp[hk,hk2,hall (j-k) z7]
      ·simp[hk,hk2]
   rw[Nat.add_zero,e];have hu:=nA ha ps.length (Zw _);have hsame:Le C s (bE ps σ):=by
    have e2:upto ps ps.length σ=bE ps σ:=by simp[upto]
    rw[←e2];refine fD (hd.len.trans hu.len.symm) (λt=>?_) (λid=>?_)
    ·rw[hd.tm,hu.tm];exact iV ps 0 (λj p hj _=>by
      have hj':j<ps.length:=(Zu.1 hj).1;simp[hall j hj',hj'])
    ·rw[hd.hp,hu.hp];exact gj ps 0 (λj p hj _=>by
      have hj':j<ps.length:=(Zu.1 hj).1;simp[hall j hj',hj'])
   exact h a w (hsame a w hrel)
  | succ r ih=>
   intro D listed s hr hsz hlist hclosed hd a w hrel;have hex:∃m,m<ps.length/\D m=false:=by
    have hne:(List.range ps.length).filter (λj=>!D j)≠[]:=by intro e;rw[e] at hr;simp at hr
    obtain ⟨m,hm⟩:=List.exists_mem_of_ne_nil _ hne;rw[Z0,WN] at hm;exact ⟨m,hm.1,by simpa using hm.2⟩
   obtain ⟨m0,⟨hm0,hD0⟩,hmin⟩:=least (p:=λm=>m<ps.length/\D m=false) hex;have hun:listed.getD (k+m0) false=false:=by
    rw[hlist _ Q8];simp[show ¬k+m0<k by omega,hD0]
   refine ⟨λh0=>?_,λi hi=>?_⟩
   ·exfalso
    have:k+m0∈Region.ready .any ops listed:=by
     rw[mem_ready];have hlt':k+m0<ops.size:=by have:=hF.size;omega
     refine ⟨?_,ops[k+m0],Zx hlt',λe he hb=>?_⟩
     ·rw[Zq,Zx z7] at hun ⊢;exact hun
     ·have hmem:e.on∈fC ops (k+m0):=by
       unfold fC;rw[Zx hlt'];exact Zv.2 ⟨e,Z0.2 ⟨by simpa using he,hb⟩,rfl⟩
      have hl':=hF.lt _ hlt' _ hmem;rw[hlist _ z7]
      by_cases h1:e.on<k
      ·simp[h1]
      ·have h2:D (e.on-k)=true:=by
        cases h3:D (e.on-k) with
        | true=>rfl
        | false=>exact absurd ⟨by omega,h3⟩ (hmin (e.on-k) z7)
       simp[h1,h2,show e.on<k+ps.length by omega]
    rw[h0] at this;cases this
   ·obtain ⟨h1,o,ho,hall⟩:=mem_ready.1 hi;have hilt:i<ops.size:=(WL.1 ho).1;have hil:listed.getD i false=false:=by
     rw[Zq,Zx z7] at h1 ⊢;exact h1
    have hpl:∀e,e∈fC ops i->listed.getD e false=true:=λe he=>by
     unfold fC at he;rw[ho] at he;obtain ⟨ed,hed,rfl⟩:=Zv.1 he;rw[Z0] at hed;exact hall ed (by simpa using hed.1) hed.2
    have hik:k≤i:=by
     rw[hlist i hilt] at hil;simp at hil;omega
    have hiu:i<k+ps.length:=by
     rcases Nat.lt_or_ge i (k+ps.length) with h2 | h2
     ·exact h2
     ·have:=cO hclosed _ _ _ (hF.late i hilt h2 m0 hm0) hpl;rw[hun] at this;cases this
    obtain ⟨m,rfl⟩:∃m,i=k+m:=⟨i-k,by omega⟩;have hm:m<ps.length:=by omega
    have hDm:D m=false:=by
     rw[hlist _ hilt] at hil;simpa[show ¬k+m<k by omega,hiu] using hil
    have hpm:ps[m]? = some ps[m]:=Zp hm;have hom:l[m]? = some o:=by rw[←hl m hm];exact ho
    have hrob:=rW l ps σ hch m o ps[m] hom hpm;have hu:=nA ha m z7;have key:∀x,(x∈ps[m].rd\/x∈ps[m].wr)->∀(j:Nat) q,ps[j]? = some q->x∈q.wr->D j=decide (j<m):=λx hx j q hq hxq=>by
     have hj:j<ps.length:=(Zu.1 hq).1
     by_cases e:m=j
     ·subst e;simp[hDm]
     ·rcases hF.od m j _ q x hpm hq hxq hx e with ⟨h3,h4⟩ | ⟨h3,h4⟩
      ·have h5:=cO hclosed _ _ _ h4 hpl;rw[hlist _ z7] at h5;simp[show ¬k+j<k by omega] at h5;simp[h3,h5.2]
      ·cases h6:D j with
       | false=>simp;omega
       | true=>
        have h7:listed.getD (k+j) false=true:=by
         rw[hlist _ Q8];simp[h6,hj]
        have h8:=cO hclosed _ _ _ h4 (hclosed _ h7);rw[hil] at h8;cases h8
    have hag:∀x,x∈ps[m].rd->az (upto ps m σ) s x:=λx hx=>by
     have key:=key x (.inl hx);cases x with
     | tm t=>
      show s.tm.getD t .any=(upto ps m σ).tm.getD t .any
      rw[hd.tm,hu.tm];exact iV ps 0 (λj q hq hdq=>by rw[WK];exact key j q hq (xl hdq))
     | blk id=>
      show aa s.hp id=aa (upto ps m σ).hp id
      rw[hd.hp,hu.hp];exact gj ps 0 (λj q hq hdq=>by rw[WK];exact key j q hq (lT hdq))
    have hfresh:∀b,b∈ps[m].new->Loc.blk b.1∉ps[m].rd->aa s.hp b.1=none:=λb hb hnr=>by
     rw[←hfr m _ hpm b hb hnr,hd.hp,hu.hp];exact gj ps 0 (λj q hq hdq=>by rw[WK];exact key (.blk b.1) (.inr (lT ⟨b,hb,rfl⟩)) j q hq (lT hdq))
    have ht:=hrob s hag hfresh;refine pW ho ht hrel λa' w' hr'=>?_
    refine ih (λj=>D j||j==m) (listed.setIfInBounds (k+m) true) (ps[m].app s) ?_ (by simp[hsz]) (λj hj=>?_) (λj hj e he=>?_) (hd.add ha hpm λj p x hj hx hx' hlt=>by rw[key x (.inr hx') j p hj hx];simp;omega) a' w' hr'
    ·have:=jX hDm (List.range ps.length) List.nodup_range (WN.2 hm);omega
    ·by_cases e:k+m=j
     ·subst e;rw[Zq,Array.getElem?_setIfInBounds_self_of_lt z7];simp[hiu]
     ·rw[getD_set_ne false e,hlist j hj];have:(j-k==m)=false\/j<k:=by
       by_cases h2:j<k
       ·exact .inr h2
       ·left;simp;omega
      rcases this with h2 | h2
      ·rw[h2];simp
      ·simp[h2]
    ·by_cases e':k+m=j
     ·subst e';exact getD_set_true (hpl e he)
     ·rw[getD_set_ne false e'] at hj;exact getD_set_true (hclosed j hj e he)
 intro a w hr;have h0:=main ps.length (λ_=>false) (aT ops.size k) σ (by show ((List.range ps.length).filter λ_=>true).length=ps.length;rw[WV.2 (λ_ _=>rfl)];simp) (by simp[aT]) (λj hj=>by rw[cN,if_pos hj];simp) (λj hj e he=>by
  rw[cN] at hj ⊢;split at hj
  ·rename_i hjn;have hlt':=hF.lt j hjn e he;rw[if_pos z7];simp at hj ⊢;omega
  ·cases hj) (Desc.start σ ps) a w hr
 rw[show ops.size-k=ops.size-(k+ps.length)+ps.length from by have:=hF.size;omega];exact h0
theorem ZW {Ret:St->Prop} {k:List It} {id:Nat} {ops:Array Oper} (hm:P.follows .mixedOrders=true) (h:aY P C ops (aft (kY C Ret) (sem P C (kY C Ret) k)) 0 σ):Cw P C Ret (.code (.region id ops true)::k) σ:=λa w hr=>by
 obtain ⟨μ,S,hi⟩:=hr;refine wp_region_any hm ?_;have:=h a w.drew ⟨μ,S,hi.drew⟩;have e:aT ops.size 0=Array.replicate ops.size false:=by
  apply Array.ext<;>simp[aT]
 rw[e] at this;exact this
theorem xy {Ret:St->Prop} {k:List It} {ops:Array Oper} {n:Nat} (hn:n=ops.size) (h:Cw P C Ret k σ):aY P C ops (aft (kY C Ret) (sem P C (kY C Ret) k)) n σ:=
 BR hn λa w hr=>h a w hr
end
end Go.Eng
namespace Go.Eng
section
variable {P:Program} {T:Tab} {C:Ctx} {σ σ' s:St}
def ew (σ:St):Operand->List Loc
 | .tmp t=>.tm t::(refs (σ.tm.getD t .any)).map .blk
 | _=>[]
def aK (σ:St):List Operand->List Loc
 | []=>[]
 | o::r=>ew σ o++aK σ r
def bx (ops:Array Oper) (g:Option (Nat×Bool)):List Loc:=
 match g with
 | none=>[]
 | some (j,_)=>
  match (ops[j]?).bind (·.dst) with
  | some d=>[.tm d]
  | none=>[]
theorem uW {o:Operand} (h:∀x,x∈ew σ o->az σ s x):ev s o=ev σ o:=by
 cases o with
 | tmp t=>exact h (.tm t) (by simp[ew])
 | _=>rfl
theorem bU {o:Operand} (h:∀x,x∈ew σ o->az σ s x):evS s o=evS σ o:=by unfold evS;rw[uW h]
theorem rh (x:AV):∀id,id∈refs (strip x).2->id∈refs x:=by
 intro id h;cases x<;>first | exact h | simpa[strip,refs] using h
theorem zN {o:Operand} (h:∀x,x∈ew σ o->az σ s x) {id:Nat} (hid:id∈refs (evS σ o).2):aa s.hp id=aa σ.hp id:=by
 have h1:=rh _ id hid;cases o with
 | tmp t=>
  refine h (.blk id) ?_;simp only[ev] at h1;exact List.mem_cons_of_mem _ (Zv.2 ⟨id,h1,rfl⟩)
 | const v=>
  simp only[ev] at h1
  exfalso
  revert h1
  unfold ofValue;split<;>simp[refs]
 | func f=>simp[ev,refs,av] at h1
 | global g=>simp[ev,refs] at h1
theorem cX {os:List Operand} {o:Operand} (ho:o∈os):∀x,x∈ew σ o->x∈aK σ os:=by
 intro x hx
 induction os with
 | nil=>cases ho
 | cons y r ih=>
  simp only[aK,List.mem_append]
  rcases List.mem_cons.1 ho with rfl | h
  ·exact .inl hx
  ·exact .inr (ih h)
theorem lu:∀{os:List Operand},(∀x,x∈aK σ os->az σ s x)->dg s os=dg σ os
 | [],_=>rfl
 | o::r,h=>by
  simp only[dg];rw[bU (λx hx=>h x (by simp[aK,hx])),lu (λx hx=>h x (by simp[aK,hx]))]
theorem tT {t:TypeId} {x:AV} (h:∀id,id∈refs x->aa s.hp id=aa σ.hp id):jh T s t x=jh T σ t x:=by
 unfold jh;split
 ·rfl
 ·rename_i id size row off;rw[h id x9]
 ·rfl
theorem vI {t:TypeId} {x:AV} (h:∀id,id∈refs x->aa s.hp id=aa σ.hp id):oF T s t x=oF T σ t x:=by
 unfold oF;split<;>try rfl
 rename_i id hu;rw[h id x9]
theorem vN {x:AV} (h:∀id,id∈refs x->aa s.hp id=aa σ.hp id):mapOf s x=mapOf σ x:=by
 unfold mapOf;split
 ·rfl
 ·rfl
 ·rw[h _ x9]
 ·rfl
theorem mU {op:Op} (h:∀x,x∈aK σ op.operands.toList->az σ s x):dr T s op=dr T σ op:=by
 have he:∀o,o∈op.operands.toList->evS s o=evS σ o:=λo ho=>bU λx hx=>h x (cX ho x hx)
 have hv:∀o,o∈op.operands.toList->ev s o=ev σ o:=λo ho=>uW λx hx=>h x (cX ho x hx)
 have hb:∀o,o∈op.operands.toList->∀id,id∈refs (evS σ o).2->aa s.hp id=aa σ.hp id:=λo ho id hid=>zN (λx hx=>h x (cX ho x hx)) hid
 unfold dr;split
 ·rw[hv _ k7]
 ·rw[hv _ k7]
 ·rename_i c x y;rw[hv c k7,hv x k7,hv y k7]
 ·rename_i t x;rw[he x k7,tT (hb x k7)]
 ·rename_i x;rw[he x k7]
 ·rename_i op t x y ty;rw[he x k7,he y k7]
 ·rename_i op t x;rw[he x k7]
 ·rename_i t x j;rw[he x k7]
 ·rename_i t x j;rw[he x k7]
 ·rename_i t x y;rw[he x k7,he y k7]
 ·rename_i t x y;rw[he x k7,he y k7]
 ·rename_i t x lo hi;rw[he x k7];have e1:(lo.map λo=>(evS s o).2)=lo.map λo=>(evS σ o).2:=by
   cases lo with
   | none=>rfl
   | some o=>simp only[Option.map_some];rw[he o k7]
  have e2:(hi.map λo=>(evS s o).2)=hi.map λo=>(evS σ o).2:=by
   cases hi with
   | none=>rfl
   | some o=>simp only[Option.map_some];rw[he o k7]
  have e3:dg s lo.toList=dg σ lo.toList:=by
   cases lo with
   | none=>rfl
   | some o=>simp only[Option.toList,dg];rw[he o k7]
  have e4:dg s hi.toList=dg σ hi.toList:=by
   cases hi with
   | none=>rfl
   | some o=>simp only[Option.toList,dg];rw[he o k7]
  rw[e1,e2,e3,e4]
 ·rename_i x j;rw[he x k7]
 ·rename_i f first captured
  have:dg s captured.toList=dg σ captured.toList:=lu λx hx=>h x (by
   have hm:∀(l:List Operand),(∀o,o∈l->o∈(Op.makeFunc (.func f) first captured).operands.toList)->∀x,x∈aK σ l->x∈aK σ (Op.makeFunc (.func f) first captured).operands.toList:=by
    intro l
    induction l with
    | nil=>intro _ x hx;cases hx
    | cons o r ih=>
     intro ho x hx;simp only[aK,List.mem_append] at hx
     rcases hx with hx | hx
     ·exact cX (ho o (List.mem_cons_self ..)) x hx
     ·exact ih (λo' ho'=>ho o' (List.mem_cons_of_mem _ ho')) x hx
   exact hm _ (λo ho=>by simp[Op.operands] at ho ⊢;exact .inr ho) x hx)
  rw[this]
 ·rename_i args ats;split
  ·rename_i x t hx ht;have hm:x∈(Op.call { callee:=.builtin .len,args,argTypes:=ats }).operands.toList:=by simp[Op.operands,Call.operands,hx]
   rw[he x hm,vI (hb x hm)]
  ·rfl
 ·rename_i s t x;rw[he x k7]
 ·rename_i t x i ok;unfold nW;rw[he x k7,he i k7,vN (hb x k7)]
 ·rfl
theorem fw {ops:Array Oper} {g:Option (Nat×Bool)} (h:∀x,x∈bx ops g->az σ s x):guardOf ops s g=guardOf ops σ g:=by
 unfold guardOf;split
 ·rfl
 ·rename_i j want;split
  ·rename_i d hd;have:=h (.tm d) (by simp[bx,hd]);simp only[az] at this;rw[this]
  ·rfl
def kA (ops:Array Oper) (σ:St) (o:Oper) (x:AV):Sp:=⟨o.dst,x,[],bx ops o.guard++aK σ o.op.operands.toList⟩
theorem C1 (hT:TabOK P T) {ops:Array Oper} {o:Oper} {c:Bool} {p:Prop} {x:AV} (hg:guardOf ops σ o.guard=some c) (h:dr T σ o.op=some (p,x)) (hp:c=true->p) (hc:c=true\/∃y,x=.cnd c y\/True) :
  Rob P C ops o (kA ops σ o (mkc c x)) σ:=by
 intro s ha _ a w K Q hr hK;have hg':guardOf ops s o.guard=some c:=by rw[fw (λx hx=>ha x (WH _ hx))];exact hg
 have h':dr T s o.op=some (p,x):=by rw[mU (λx hx=>ha x (Zz _ hx))];exact h
 obtain ⟨μ,S,hi⟩:=hr;rw[ba hi hg'];cases c with
 | false=>exact hK _ _ ⟨μ,S,hi.put o.dst (uc (.cndF x))⟩
 | true=>
  refine .inl ?_;obtain ⟨u,h1,h2⟩:=jz hT hi o h' (hp rfl);unfold Oper.wp;rw[h1];exact hK _ _ ⟨μ,S,hi.put o.dst (uc (.cndT u x h2))⟩
theorem AN (hT:TabOK P T) {ops:Array Oper} {o:Oper} {p:Prop} {x:AV} (hg:o.guard=none) (h:dr T σ o.op=some (p,x)) (hp:p):Rob P C ops o (kA ops σ o x) σ:=by
 intro s ha _ a w K Q hr hK;have h':dr T s o.op=some (p,x):=by rw[mU (λx hx=>ha x (Zz _ hx))];exact h
 obtain ⟨μ,S,hi⟩:=hr;have hw:Region.wanted o (yielded ops a.tmps)=true:=ba hi Qt;rw[hw];refine .inl ?_;obtain ⟨u,h1,h2⟩:=jz hT hi o h' hp;unfold Oper.wp;rw[h1];exact hK _ _ ⟨μ,S,hi.put o.dst h2⟩
def jw (T:Tab) (ops:Array Oper):List Oper->St->Option (Prop×List Sp×List Oper×St)
 | [],σ=>some (True,[],[],σ)
 | o::l,σ=>
  match dr T σ o.op with
  | some (p,x)=>
   match o.guard with
   | none=>(jw T ops l (σ.put o.dst x)).map λr=>(p/\r.1,kA ops σ o x::r.2.1,r.2.2)
   | some g=>
    match guardOf ops σ (some g) with
    | some c=>(jw T ops l (σ.put o.dst (mkc c x))).map λr=>((c=true->p)/\r.1,kA ops σ o (mkc c x)::r.2.1,r.2.2)
    | none=>none
  | none=>some (True,[],o::l,σ)
theorem lN (ops:Array Oper) (σ:St) (o:Oper) (x:AV):(kA ops σ o x).app σ=σ.put o.dst x:=by
 simp[Sp.app,kA]
theorem gK (hT:TabOK P T) (ops:Array Oper):∀(l:List Oper) (σ:St) {p:Prop} {ps:List Sp} {l':List Oper} {σ':St},jw T ops l σ=some (p,ps,l',σ')->p ->
  ∀{l2:List Oper} {ps2:List Sp},cE P C ops l2 ps2 σ'->l'=l2++(l'.drop l2.length)->∃l1,l=l1++l'/\cE P C ops (l1++l2) (ps++ps2) σ
 | [],σ,p,ps,l',σ',h,_,l2,ps2,hc,_=>by
  simp only[jw,Option.some.injEq,Prod.mk.injEq] at h;obtain ⟨_,rfl,rfl,rfl⟩:=h;exact ⟨[],rfl,hc⟩
 | o::l,σ,p,ps,l',σ',h,hp,l2,ps2,hc,he=>by
  unfold jw at h;split at h
  ·rename_i q x hpo;split at h
   ·rename_i hg;cases e:jw T ops l (σ.put o.dst x) with
    | none=>rw[e] at h;cases h
    | some r=>
     obtain ⟨r1,r2,r3,r4⟩:=r;simp only[e,Option.map_some,Option.some.injEq,Prod.mk.injEq] at h;obtain ⟨rfl,rfl,rfl,rfl⟩:=h;obtain ⟨l1,h1,h2⟩:=gK hT ops l _ e hp.2 hc he;exact ⟨o::l1,by rw[h1];rfl,AN hT hg hpo hp.1,by rw[lN];exact h2⟩
   ·rename_i g hg;split at h
    ·rename_i c hc';cases e:jw T ops l (σ.put o.dst (mkc c x)) with
     | none=>rw[e] at h;cases h
     | some r=>
      obtain ⟨r1,r2,r3,r4⟩:=r;simp only[e,Option.map_some,Option.some.injEq,Prod.mk.injEq] at h;obtain ⟨rfl,rfl,rfl,rfl⟩:=h;obtain ⟨l1,h1,h2⟩:=gK hT ops l _ e hp.2 hc he;exact ⟨o::l1,by rw[h1];rfl,C1 hT (by rw[hg];exact hc') hpo hp.1 (.inr ⟨x,.inr trivial⟩),by rw[lN];exact h2⟩
    ·cases h
  ·simp only[Option.some.injEq,Prod.mk.injEq] at h;obtain ⟨_,rfl,rfl,rfl⟩:=h;exact ⟨[],rfl,hc⟩
end
end Go.Eng
namespace Go.Eng
section
variable {P:Program} {T:Tab} {C:Ctx} {σ σ' s:St} {Ret:St->Prop} {k:List It}
theorem mZ:∀{ops:Array Oper} {l:List Oper} {σ:St} {p:Prop} {ps:List Sp} {l':List Oper} {σ':St},jw T ops l σ=some (p,ps,l',σ')->l.length=ps.length+l'.length/\bE ps σ=σ'/\∀(i:Nat) q,ps[i]? = some q->q.new=[]
 | ops,[],σ,p,ps,l',σ',h=>by
  simp only[jw,Option.some.injEq,Prod.mk.injEq] at h;obtain ⟨_,rfl,rfl,rfl⟩:=h;exact ⟨rfl,rfl,λi q h=>by simp at h⟩
 | ops,o::l,σ,p,ps,l',σ',h=>by
  unfold jw at h;split at h
  ·rename_i q x hpo;have fin:∀(y:AV) {f:Prop->Prop},(jw T ops l (σ.put o.dst y)).map (λr=>(f r.1,kA ops σ o y::r.2.1,r.2.2))=some (p,ps,l',σ') ->
     (o::l).length=ps.length+l'.length/\bE ps σ=σ'/\∀(i:Nat) q,ps[i]? = some q->q.new=[]:=by
    intro y f h;cases e:jw T ops l (σ.put o.dst y) with
    | none=>rw[e] at h;cases h
    | some r=>
     obtain ⟨r1,r2,r3,r4⟩:=r;simp only[e,Option.map_some,Option.some.injEq,Prod.mk.injEq] at h;obtain ⟨_,rfl,rfl,rfl⟩:=h;obtain ⟨h1,h2,h3⟩:=mZ e;refine ⟨by simp[h1];omega,by simp only[bE,lN];exact h2,λi q hq=>?_⟩;cases i with
     | zero=>simp only[List.getElem?_cons_zero,Option.some.injEq] at hq;subst hq;rfl
     | succ i=>exact h3 i q QX
   split at h
   ·exact fin x (f:=λr=>q/\r) h
   ·split at h
    ·rename_i c _;exact fin (mkc c x) (f:=λr=>(c=true->q)/\r) h
    ·cases h
  ·simp only[Option.some.injEq,Prod.mk.injEq] at h;obtain ⟨_,rfl,rfl,rfl⟩:=h;exact ⟨by simp,rfl,λi q h=>by simp at h⟩
def BV (n:Nat) (sk:cL):Bool:=sk.all λp=>p.1.all λ| .tm t=>decide (t<n) | .blk _=>true
def GB:List AV->List AV->Prop
 | [],[]=>True
 | x::l,y::m=>(y=.any\/x=y)/\GB l m
 | _,_=>False
theorem wrap_small {n:Int} (h:-9223372036854775808≤n) (h2:n≤9223372036854775807):IntKind.i64.wrap n=n:=by
 simp[IntKind.wrap,IntKind.signed,IntKind.bits];omega
def kx (l:List AV):List (Nat×AV)->List AV
 | []=>l
 | (t,x)::r=>kx (l.set t x) r
def bA (h:List (Nat×Blk)):List (Nat×Blk)->List (Nat×Blk)
 | []=>h
 | (t,x)::r=>bA (aB h t x) r
theorem ZL {ι:Type} (J:ι->Prop) (m:ι->Nat) (f:ι->List (Nat×AV)) (g:ι->List (Nat×Blk)) (i0:ι) {c:Code} {l:List AV} {H:List (Nat×Blk)} (hJ:J i0) (h0:Le C ⟨l,H⟩ ⟨kx l (f i0),bA H (g i0)⟩)
  (round:∀i,J i->Cw P C Ret (.code c::.back (λs=>∃j,J j/\m j<m i/\Le C s ⟨kx l (f j),bA H (g j)⟩)::k) ⟨kx l (f i),bA H (g i)⟩):Cw P C Ret (.code (.loop c)::k) ⟨l,H⟩:=by
 refine Eo (ι:={ i // J i }) (λi=>⟨kx l (f i.1),bA H (g i.1)⟩) (λi=>m i.1) ⟨i0,hJ⟩ h0 λi=>?_
 intro a w hr;have:=round i.1 i.2 a w hr;refine wp_mono this λe a w q=>?_
 cases e with
 | normal=>
  obtain ⟨s,⟨j,hj,hm,hle⟩,hrs⟩:=q;exact ⟨s,⟨⟨j,hj⟩,hm,hle⟩,hrs⟩
 | _=>exact q
theorem uG {f:FuncId} {args:List AV} {r:AV} (h:ae P f args [] λr' _=>r'=r) {w:World} {vs:List Value} (hl:vs.length=args.length) {S:Nat->Prop}
  (hargs:∀(j:Nat) x,args[j]? = some x->RdP S w (vs.getD j undef) x) (hS:∀b,S b->b<w.heap.size) (hg:GOK (λ_=>none) w) :
  Calls P f vs.toArray w λe w'=>∃v μ S',e=.returned v/\Rd μ S' w' v r/\Frm (λ_=>False) w w':=by
 refine (h S (λ_=>none) w vs hl (λj x hx=>.pure (hargs j x hx)) ⟨λid b h=>by simp[aa] at h,λid g h=>QM,λid id' g h=>QM,hg⟩ hS).mono ?_;rintro e w' ⟨v,r',H',μ',S',rfl,rfl,k1,_,k3,_,_⟩;exact ⟨v,μ',S',rfl,k1,⟨k3.os,k3.tape,k3.output,k3.size,λb hb _=>k3.block b hb Ze⟩⟩
end
end Go.Eng
