/- Texts of this claim, part 4: EngL, Tab, EngN. No condition. -/
import Derived.Test.YtmcfbfdonjllaaaGreatDoorZT3
import Derived.Test.YtmcfbfdonjllaaaGreatDoorProg
import Derived.KernelRfl
set_option maxRecDepth 10000
set_option maxHeartbeats 4000000
set_option linter.unusedSimpArgs false
set_option linter.unusedVariables false
namespace Go.Eng
section
variable {P:Program} {T:Tab} {C:Ctx} {σ σ':St}
def aJ (P:Program) (f:FuncId):Prop:=∃fn,P.funcs[f]? = some fn/\(fn.name == "runtime.NumGoroutine")=false/\fn.body.isSome=true
mutual
def AV.scalar:AV->Bool
 | .int .. | .bool _ | .str _ | .nilp | .nili | .ifc | .nils | .nilm=>true
 | .tup vs=>mK vs
 | .agg vs=>mK vs
 | _=>false
def mK:List AV->Bool
 | []=>true
 | x::r=>x.scalar&&mK r
end
theorem jm {x:AV}:∀{l:List AV} {j:Nat},mK l=true->l[j]? = some x->x.scalar=true
 | [],j,_,h=>by simp at h
 | y::r,j,hl,h=>by
  simp only[mK,Bool.and_eq_true] at hl;cases j with
  | zero=>simp only[List.getElem?_cons_zero,Option.some.injEq] at h;subst h;exact hl.1
  | succ j=>exact jm hl.2 v8
theorem RdP.scalar {S S':Nat->Prop} {w w':World} {v:Value} {x:AV} (h:RdP S w v x) (hx:x.scalar=true):RdP S' w' v x:=by
 induction h with
 | int k n=>exact .int k n
 | bool b=>exact .bool b
 | str s l h=>exact .str s l h
 | nilp=>exact .nilp
 | nili=>exact .nili
 | ifc t p=>exact .ifc t p
 | nils=>exact .nils
 | nilm=>exact .nilm
 | agg cs cells hl hr ih=>exact .agg cs cells hl (λj x hj=>ih j x hj (jm WM hj))
 | sl=>cases hx
 | rp=>cases hx
 | rm=>cases hx
 | fn=>cases hx
theorem Rd.scalar {μ μ':Nat->Option Nat} {S S':Nat->Prop} {w w':World} {v:Value} {x:AV} (h:Rd μ S w v x) (hx:x.scalar=true):Rd μ' S' w' v x:=by
 induction h with
 | any=>cases hx
 | pure h=>exact .pure (h.scalar hx)
 | agg cs cells hl hr ih=>exact .agg cs cells hl (λj x hj=>ih j x hj (jm WM hj))
 | tup cs cells hl hr ih=>exact .tup cs cells hl (λj x hj=>ih j x hj (jm WM hj))
 | fn=>cases hx
 | ptr=>cases hx
 | osl=>cases hx
 | mp=>cases hx
 | exs=>cases hx
 | cndT=>cases hx
 | cndF=>cases hx
theorem Rd.free {μ μ':Nat->Option Nat} {S:Nat->Prop} {w:World} {v:Value} {x:AV} (h:Rd μ S w v x) (hx:refs x=[]):Rd μ' S w v x:=by
 induction h with
 | any v=>exact .any v
 | pure h=>exact .pure h
 | agg cs cells hl hr ih=>exact .agg cs cells hl (λj x hj=>ih j x hj (refsL_nil Z5 hj))
 | tup cs cells hl hr ih=>exact .tup cs cells hl (λj x hj=>ih j x hj (refsL_nil Z5 hj))
 | fn f vals caps hl hr ih=>exact .fn f vals caps hl (λj x hj=>ih j x hj (refsL_nil Z5 hj))
 | ptr=>simp[refs] at hx
 | osl=>simp[refs] at hx
 | mp=>simp[refs] at hx
 | exs=>simp[refs] at hx
 | cndT v x h ih=>exact .cndT v x (ih Z5)
 | cndF x=>exact .cndF x
where
 refsL_nil {x:AV}:∀{l:List AV} {j:Nat},aC l=[]->l[j]? = some x->refs x=[]
  | [],j,_,h=>by simp at h
  | y::r,j,hl,h=>by
   simp only[aC,List.append_eq_nil_iff] at hl;cases j with
   | zero=>simp only[List.getElem?_cons_zero,Option.some.injEq] at h;subst h;exact hl.1
   | succ j=>exact refsL_nil hl.2 v8
theorem Inv.called {μ:Nat->Option Nat} {S S':Nat->Prop} {a:Act} {w w':World} (hi:Inv C μ S σ a w) (hf:Frm (λ_=>False) w w')
  (hS:∀b,S' b->b<w'.heap.size/\(S b\/w.heap.size≤b)):Inv C μ (λb=>S b\/S' b) σ a w':=by
 have hb:∀b,b<w.heap.size->w'.heap[b]? = w.heap[b]?:=λb h=>hf.block b h (λh=>h)
 have hw:aK S w w':=λb h=>hb b (hi.sb b h).1
 have hz:∀i g,μ i=some g->ah w' g=ah w g:=λi g h=>aO (hb g (hi.dom i g h).2.2.2)
 refine ⟨hi.size,hi.defers,λt x hx=>(hi.tm t x hx).mono hw (λ_ h=>.inl h) (λ_ _ h=>h) hz,λi b h=>(hi.hp i b h).mono hw (λ_ h=>.inl h) (λ_ _ h=>h) hz (λh=>h) (λg h=>hb g (hi.dom i g h).2.2.2),λi g h=>?_,hi.inj,hi.frm.step (λ_=>False) hf (λ_ h=>h.elim),λb h=>?_⟩
 ·obtain ⟨h1,h2,h3,h4⟩:=hi.dom i g h;refine ⟨h1,h2,?_,YN h4 hf.size⟩;rintro (h | h)
  ·exact h3 h
  ·rcases (hS g h).2 with h | h
   ·exact h3 h
   ·omega
 ·rcases h with h | h
  ·exact ⟨YN (hi.sb b h).1 hf.size,(hi.sb b h).2⟩
  ·refine ⟨(hS b h).1,?_⟩
   rcases (hS b h).2 with h | h
   ·exact (hi.sb b h).2
   ·have:=hi.frm.size;exact .inr (.inr z8)
def ax (σ:St) (c:Operand) (args:List Operand):Option (Prop×FuncId×List AV):=
 match evS σ c with
 | (p,.fn f caps)=>some (p/\(ew σ args).1,f,(ew σ args).2++caps)
 | _=>none
theorem jJ {o:Oper} {c:Operand} {args:Array Operand} {ats:Array TypeId} {μ:Nat->Option Nat} {S:Nat->Prop} {a:Act} {w:World} (hi:Inv C μ S σ a w)
  (ho:o.op=.call { callee:=.value c,args,argTypes:=ats }) {p:Prop} {f:FuncId} {xs:List AV} (h:ax σ c args.toList=some (p,f,xs)) (hp:p) (hc:aJ P f) :
  ∃vs:List Value,vs.length=xs.length/\(∀(j:Nat) x,xs[j]? = some x->Rd μ S w (vs.getD j undef) x)/\(execOp a.eval o).run P w=.ok (.enter f vs.toArray) w:=by
 unfold ax at h;split at h
 ·rename_i q f' caps hev;simp only[Option.some.injEq,Prod.mk.injEq] at h;obtain ⟨rfl,rfl,rfl⟩:=h;have hv:=hi.evS c (by rw[hev];exact hp.1);rw[hev] at hv;obtain ⟨vals,he,hl,hr⟩:=hv.zl;obtain ⟨fn,hf,hn,hb⟩:=hc;refine ⟨args.toList.map a.eval++vals.toList,by simp[lH,hl],λj x hx=>?_,?_⟩
  ·by_cases hj:j<args.toList.length
   ·rw[W6 (by rw[lH];exact hj)] at hx;obtain ⟨o',ho',hr'⟩:=hi.ew _ hp.2 j x hx;rw[Wi,W6 QC,Wm,ho'];exact hr'
   ·rw[W1 (by rw[lH];omega),lH] at hx;have:=hr _ x hx;rw[Wi,W1 QC];rw[Wk,←YF] at this;rw[List.length_map];exact this
  ·have hb':¬fn.body=none:=by intro e;rw[e] at hb;cases hb
   have hn':¬fn.name = "runtime.NumGoroutine":=by simpa using hn
   have e1:(#[]++args.map a.eval++vals)=(args.toList.map a.eval++vals.toList).toArray:=by
    apply Array.ext';simp
   simp[execOp,ho,resolve,he,Deferred.ofValue,invoke,callFunc,hf,hn',hb']
 ·cases h
theorem mM {o:Oper} {c:Operand} {args:Array Operand} {ats:Array TypeId} (ho:o.op=.call { callee:=.value c,args,argTypes:=ats }) {p:Prop} {f:FuncId} {xs:List AV}
  (h:ax σ c args.toList=some (p,f,xs)) (hp:p) (hc:aJ P f) (hx:aC xs=[]) {r:AV} (hr:refs r=[]) (hf:ae P f xs [] λr' _=>r'=r):eZ P C o σ (σ.put o.dst r):=by
 intro a w K Q ⟨μ,S,hi⟩ hK;obtain ⟨vs,h1,h2,h3⟩:=jJ hi ho h hp hc;unfold Oper.wp;rw[h3];refine (hf S (λ_=>none) w vs h1 (λj x hj=>(h2 j x hj).free (Rd.free.refsL_nil hx hj)) ⟨λid b h=>by simp[aa] at h,λid g h=>Qp,λid id' g h=>Qp,hi.gok.nil⟩ (λb hb=>(hi.sb b hb).1)).mono ?_;rintro e w' ⟨v,r',H',μ',S',rfl,rfl,k1,k2,k3,k4,k5⟩;have hfr:Frm (λ_=>False) w w':=⟨k3.os,k3.tape,k3.output,k3.size,λb hb _=>k3.block b hb WN⟩;have hi':=hi.called hfr (S':=S') (λb hb=>⟨(k5 b hb).1,by
  rcases (k5 b hb).2 with h | ⟨id,h⟩ | h
  ·exact .inl h
  ·cases h
  ·exact .inr h⟩)
 exact hK _ _ ⟨μ,_,hi'.put o.dst ((k1.mono (aK.refl _ _) (λ_ h=>.inr h) (λ_ _ h=>h) (λ_ _ _=>rfl)).free hr)⟩
mutual
def view (h:List (Nat×Blk)):AV->Option (Prop×AV)
 | .osl id s off len=>
  match aa h id with
  | some (.cells _ s' rows)=>if s=s' then some (off+len≤rows.length/\(rows.all λrow=>row.all AV.aY)=true,.sl ((rows.drop off).take len)) else none
  | _=>none
 | .ptr id s row off=>
  match aa h id with
  | some (.cells _ s' rows)=>if s=s' then some (row<rows.length/\((rows.getD row []).all AV.aY)=true,.rp (rows.getD row []) off) else none
  | _=>none
 | .mp id=>
  match aa h id with
  | some (.map kvs)=>some (True,.rm kvs)
  | _=>none
 | .fn f caps=>(fk h caps).map λr=>(r.1,.fn f r.2)
 | .agg cells=>(fk h cells).map λr=>(r.1,.agg r.2)
 | .any=>none
 | .tup _=>none
 | .cnd ..=>none
 | .exs ..=>none
 | x=>some (True,x)
def fk (h:List (Nat×Blk)):List AV->Option (Prop×List AV)
 | []=>some (True,[])
 | x::r=>
  match view h x,fk h r with
  | some (p,y),some (q,l)=>some (p/\q,y::l)
  | _,_=>none
end
theorem Bd {l:List (List AV)} {i:Nat} (h:i<l.length):l[i]? = some (l.getD i []):=by
 rw[Wi,Wj h];rfl
mutual
theorem Ax {μ:Nat->Option Nat} {S:Nat->Prop} {a:Act} {w:World} (hi:Inv C μ S σ a w):∀(x:AV) {p:Prop} {y:AV} {v:Value},view σ.hp x=some (p,y)->p->Rd μ S w v x ->
  RdP (λb=>S b\/∃id,μ id=some b) w v y
 | .osl id s off len,p,y,v,h,hp,hv=>by
  simp only[view] at h;split at h
  ·rename_i e s' rows hb;split at h
   ·rename_i hs;subst hs;simp only[Option.some.injEq,Prod.mk.injEq] at h;obtain ⟨rfl,rfl⟩:=h;obtain ⟨hle,hpure⟩:=hp;obtain ⟨A,cap,rfl,hc,hor⟩:=hv.bL;have hl:((rows.drop off).take len).length=len:=by simp;omega
    rcases hor with ⟨rfl,h2⟩ | ⟨g,e',n,h1,rfl,h3,h4⟩
    ·exact .sl A 0 cap _ s 0 0 (λ_ _=>undef) hl hc (λrow h=>by simp at h) (λh=>by omega) (λi j h=>by omega) (λi row h=>by simp at h)
    ·rcases hi.hp id _ hb with ⟨_,k2⟩ | ⟨g',c,k1,k2,k3,k4,k5⟩
     ·rw[k2] at h1;cases h1
     ·rw[k1] at h1;injection h1 with h1;subst h1
      refine .sl _ len cap _ s g' (off*s) (λi j=>c.getD ((off+i)*s+j) undef) hl hc (λrow h=>k4 row (YB (Wx h))) (λ_=>⟨rfl,.inr ⟨id,k1⟩⟩) (λi j hi' hj=>?_) (λi row h j x hx=>?_)
      ·have hlt:(off+i)*s+s≤rows.length*s:=by
        have:=Wz s (show off+i+1≤rows.length by omega)
        rwa [Nat.succ_mul] at this
       rw[show off*s+(i*s+j)=(off+i)*s+j from by rw[YM];omega,cell_of k2,Wk,Ws z8];rfl
      ·rw[W4] at h;split at h
       ·rw[YI] at h;exact ((k5 _ row h j x hx).toP (List.all_eq_true.1 (List.all_eq_true.1 hpure row (Wn h)) x (Wn hx))).mono (aK.refl _ _) (λ_ h=>.inl h)
       ·cases h
   ·cases h
  ·cases h
 | .ptr id s row off,p,y,v,h,hp,hv=>by
  simp only[view] at h;split at h
  ·rename_i e s' rows hb;split at h
   ·rename_i hs;subst hs;simp only[Option.some.injEq,Prod.mk.injEq] at h;obtain ⟨rfl,rfl⟩:=h;obtain ⟨hrow,hpure⟩:=hp;obtain ⟨g,hg,rfl⟩:=hv.ig
    rcases hi.hp id _ hb with ⟨rfl,_⟩ | ⟨g',c,k1,k2,k3,k4,k5⟩
    ·simp at hrow
    ·rw[k1] at hg;injection hg with hg;subst hg
     have hr:=Bd hrow;have hlen:=k4 _ (Wn hr);have hlt:=gY (size:=s) hr;refine .rp g' (row*s) off _ (λj=>c.getD (row*s+j) undef) (.inr ⟨id,k1⟩) (λj hj=>?_) (λj x hx=>?_)
     ·rw[cell_of k2,Wk,Ws z8];rfl
     ·exact ((k5 _ _ hr j x hx).toP (List.all_eq_true.1 hpure x (Wn hx))).mono (aK.refl _ _) (λ_ h=>.inl h)
   ·cases h
  ·cases h
 | .mp id,p,y,v,h,hp,hv=>by
  simp only[view] at h;split at h
  ·rename_i kvs hb;simp only[Option.some.injEq,Prod.mk.injEq] at h;obtain ⟨_,rfl⟩:=h;obtain ⟨g,hg,rfl⟩:=hv.rU;obtain ⟨g',es,clk,vals,k1,k2,k3,k4⟩:=hi.hp id _ hb;rw[k1] at hg;injection hg with hg;subst hg
   exact .rm g' es clk kvs vals (.inr ⟨id,k1⟩) k2 k3 (λq hq=>(k4 q hq).mono (aK.refl _ _) (λ_ h=>.inl h))
  ·cases h
 | .fn f caps,p,y,v,h,hp,hv=>by
  simp only[view] at h;cases e:fk σ.hp caps with
  | none=>rw[e] at h;cases h
  | some q=>
   obtain ⟨q1,l⟩:=q;simp only[e,Option.map_some,Option.some.injEq,Prod.mk.injEq] at h;obtain ⟨rfl,rfl⟩:=h;obtain ⟨vals,rfl,hl,hr⟩:=hv.zl;obtain ⟨h1,h2⟩:=jq hi caps e hp (λj=>vals.getD j undef) hr;exact .fn f vals l (by rw[hl,h1]) h2
 | .agg cells,p,y,v,h,hp,hv=>by
  simp only[view] at h;cases e:fk σ.hp cells with
  | none=>rw[e] at h;cases h
  | some q=>
   obtain ⟨q1,l⟩:=q;simp only[e,Option.map_some,Option.some.injEq,Prod.mk.injEq] at h;obtain ⟨rfl,rfl⟩:=h;obtain ⟨cs,rfl,hl,hr⟩:=hv.my;obtain ⟨h1,h2⟩:=jq hi cells e hp (λj=>cs.getD j undef) hr;exact .agg cs l (by rw[hl,h1]) h2
 | .any,p,y,v,h,_,_=>by simp[view] at h
 | .tup _,p,y,v,h,_,_=>by simp[view] at h
 | .cnd ..,p,y,v,h,_,_=>by simp[view] at h
 | .exs ..,p,y,v,h,_,_=>by simp[view] at h
 | .int k n,p,y,v,h,_,hv=>by simp only[view,Option.some.injEq,Prod.mk.injEq] at h;obtain ⟨_,rfl⟩:=h;exact (hv.toP rfl).mono (aK.refl _ _) (λ_ h=>.inl h)
 | .bool b,p,y,v,h,_,hv=>by simp only[view,Option.some.injEq,Prod.mk.injEq] at h;obtain ⟨_,rfl⟩:=h;exact (hv.toP rfl).mono (aK.refl _ _) (λ_ h=>.inl h)
 | .str s,p,y,v,h,_,hv=>by simp only[view,Option.some.injEq,Prod.mk.injEq] at h;obtain ⟨_,rfl⟩:=h;exact (hv.toP rfl).mono (aK.refl _ _) (λ_ h=>.inl h)
 | .nilp,p,y,v,h,_,hv=>by simp only[view,Option.some.injEq,Prod.mk.injEq] at h;obtain ⟨_,rfl⟩:=h;exact (hv.toP rfl).mono (aK.refl _ _) (λ_ h=>.inl h)
 | .nili,p,y,v,h,_,hv=>by simp only[view,Option.some.injEq,Prod.mk.injEq] at h;obtain ⟨_,rfl⟩:=h;exact (hv.toP rfl).mono (aK.refl _ _) (λ_ h=>.inl h)
 | .ifc,p,y,v,h,_,hv=>by simp only[view,Option.some.injEq,Prod.mk.injEq] at h;obtain ⟨_,rfl⟩:=h;exact (hv.toP rfl).mono (aK.refl _ _) (λ_ h=>.inl h)
 | .nils,p,y,v,h,_,hv=>by simp only[view,Option.some.injEq,Prod.mk.injEq] at h;obtain ⟨_,rfl⟩:=h;exact (hv.toP rfl).mono (aK.refl _ _) (λ_ h=>.inl h)
 | .nilm,p,y,v,h,_,hv=>by simp only[view,Option.some.injEq,Prod.mk.injEq] at h;obtain ⟨_,rfl⟩:=h;exact (hv.toP rfl).mono (aK.refl _ _) (λ_ h=>.inl h)
 | .sl rows,p,y,v,h,_,hv=>by simp only[view,Option.some.injEq,Prod.mk.injEq] at h;obtain ⟨_,rfl⟩:=h;exact (hv.toP rfl).mono (aK.refl _ _) (λ_ h=>.inl h)
 | .rp c o,p,y,v,h,_,hv=>by simp only[view,Option.some.injEq,Prod.mk.injEq] at h;obtain ⟨_,rfl⟩:=h;exact (hv.toP rfl).mono (aK.refl _ _) (λ_ h=>.inl h)
 | .rm kvs,p,y,v,h,_,hv=>by simp only[view,Option.some.injEq,Prod.mk.injEq] at h;obtain ⟨_,rfl⟩:=h;exact (hv.toP rfl).mono (aK.refl _ _) (λ_ h=>.inl h)
theorem jq {μ:Nat->Option Nat} {S:Nat->Prop} {a:Act} {w:World} (hi:Inv C μ S σ a w):∀(l:List AV) {p:Prop} {l':List AV},fk σ.hp l=some (p,l')->p->∀(f:Nat->Value),
  (∀(j:Nat) x,l[j]? = some x->Rd μ S w (f j) x)->l.length=l'.length/\∀(j:Nat) x,l'[j]? = some x->RdP (λb=>S b\/∃id,μ id=some b) w (f j) x
 | [],p,l',h,_,f,_=>by
  simp only[fk,Option.some.injEq,Prod.mk.injEq] at h;obtain ⟨_,rfl⟩:=h;exact ⟨rfl,λj x hx=>by simp at hx⟩
 | x::r,p,l',h,hp,f,hf=>by
  simp only[fk] at h;split at h
  ·rename_i p1 y q l hx hr;simp only[Option.some.injEq,Prod.mk.injEq] at h;obtain ⟨rfl,rfl⟩:=h;have h1:=Ax hi x hx hp.1 (hf 0 x rfl);obtain ⟨h2,h3⟩:=jq hi r hr hp.2 (λj=>f (j+1)) (λj z hz=>hf (j+1) z Q4);refine ⟨by simp[h2],λj z hz=>?_⟩;cases j with
   | zero=>simp only[List.getElem?_cons_zero,Option.some.injEq] at hz;subst hz;exact h1
   | succ j=>exact h3 j z Q4
  ·cases h
end
theorem uI {o:Oper} {c:Operand} {args:Array Operand} {ats:Array TypeId} (ho:o.op=.call { callee:=.value c,args,argTypes:=ats }) {p q:Prop} {f:FuncId} {xs ys:List AV}
  (h:ax σ c args.toList=some (p,f,xs)) (hp:p) (hv:fk σ.hp xs=some (q,ys)) (hq:q) (hc:aJ P f) {r:AV} (hr:r.scalar=true) (hf:ae P f ys [] λr' _=>r'=r) :
  eZ P C o σ (σ.put o.dst r):=by
 intro a w K Q ⟨μ,S,hi⟩ hK;obtain ⟨vs,h1,h2,h3⟩:=jJ hi ho h hp hc;obtain ⟨g1,g2⟩:=jq hi xs hv hq (λj=>vs.getD j undef) h2;unfold Oper.wp;rw[h3];refine (hf (λb=>S b\/∃id,μ id=some b) (λ_=>none) w vs (by rw[h1,g1]) (λj x hj=>.pure (g2 j x hj)) ⟨λid b h=>by simp[aa] at h,λid g h=>Qp,λid id' g h=>Qp,hi.gok.nil⟩ (λb hb=>by
  rcases hb with hb | ⟨id,hb⟩
  ·exact (hi.sb b hb).1
  ·exact (hi.dom id b hb).2.2.2)).mono ?_
 rintro e w' ⟨v,r',H',μ',S',rfl,rfl,k1,k2,k3,k4,k5⟩;have hfr:Frm (λ_=>False) w w':=⟨k3.os,k3.tape,k3.output,k3.size,λb hb _=>k3.block b hb WN⟩;have hi':=hi.called hfr (S':=λ_=>False) (λb hb=>hb.elim);exact hK _ _ ⟨μ,_,hi'.put o.dst (k1.scalar hr)⟩
end
end Go.Eng
namespace Go.Eng
def GK:TypeId->KD
 | 2=>(.int .i64)
 | 3=>(.int .i64)
 | 4=>.bool
 | 5=>(.int .u8)
 | 6=>(.int .u8)
 | 7=>.struct
 | 8=>.struct
 | 9=>.str
 | 10=>.str
 | 11=>.str
 | 12=>(.int .u64)
 | 13=>.struct
 | 14=>.struct
 | 15=>(.ptr 309)
 | 16=>(.ptr 312)
 | 17=>(.ptr 321)
 | 18=>.struct
 | 19=>.struct
 | 21=>(.int .i32)
 | 24=>(.sl 5)
 | 25=>.struct
 | 26=>.struct
 | 28=>(.sl 26)
 | 29=>(.sl 94)
 | 30=>(.sl 79)
 | 31=>.struct
 | 32=>.struct
 | 33=>(.sl 47)
 | 34=>.struct
 | 35=>.struct
 | 36=>(.sl 42)
 | 37=>(.int .i64)
 | 40=>(.sl 3)
 | 41=>.struct
 | 42=>.struct
 | 43=>(.sl 138)
 | 44=>(.sl 51)
 | 45=>(.sl 118)
 | 46=>.struct
 | 47=>.struct
 | 48=>.struct
 | 49=>.struct
 | 50=>.struct
 | 51=>.struct
 | 65=>(.map 3 94)
 | 66=>(.map 3 94)
 | 70=>(.sl 76)
 | 74=>(.map 3 3)
 | 75=>.struct
 | 76=>.struct
 | 78=>.struct
 | 79=>.struct
 | 92=>(.sl 96)
 | 93=>.struct
 | 94=>.struct
 | 95=>.struct
 | 96=>.struct
 | 97=>(.ptr 47)
 | 100=>(.ptr 103)
 | 101=>(.sl 40)
 | 102=>.struct
 | 103=>.struct
 | 104=>(.sl 162)
 | 117=>.struct
 | 118=>.struct
 | 119=>(.ptr 121)
 | 120=>.struct
 | 121=>.struct
 | 122=>(.sl 9)
 | 137=>.struct
 | 138=>.struct
 | 144=>(.ptr 146)
 | 145=>.struct
 | 146=>.struct
 | 148=>(.ptr 26)
 | 157=>(.sl 49)
 | 161=>.struct
 | 162=>.struct
 | 163=>(.map 3 4)
 | 183=>(.ptr 94)
 | 187=>(.ptr 49)
 | 198=>(.ptr 200)
 | 199=>.struct
 | 200=>.struct
 | 203=>(.ptr 51)
 | 214=>.struct
 | 215=>.struct
 | 226=>(.ptr 228)
 | 227=>.struct
 | 228=>.struct
 | 244=>(.int .u64)
 | 263=>(.int .i64)
 | 270=>(.int .u32)
 | 272=>(.int .u64)
 | 286=>(.int .u64)
 | 290=>(.ptr 3)
 | 296=>(.ptr 286)
 | 300=>.struct
 | 301=>.struct
 | 308=>.struct
 | 309=>.struct
 | 314=>(.int .u8)
 | 315=>(.int .u8)
 | 317=>(.ptr 5)
 | 318=>(.int .i32)
 | 319=>(.int .i32)
 | _=>.other
def An:TypeId->Nat
 | 2=>1
 | 3=>1
 | 4=>1
 | 5=>1
 | 6=>1
 | 7=>4
 | 8=>4
 | 9=>1
 | 10=>1
 | 11=>1
 | 12=>1
 | 13=>2
 | 14=>2
 | 15=>1
 | 16=>1
 | 17=>1
 | 18=>1
 | 19=>1
 | 21=>1
 | 24=>1
 | 25=>6
 | 26=>6
 | 28=>1
 | 29=>1
 | 30=>1
 | 31=>3
 | 32=>3
 | 33=>1
 | 34=>4
 | 35=>4
 | 36=>1
 | 37=>1
 | 40=>1
 | 41=>4
 | 42=>4
 | 43=>1
 | 44=>1
 | 45=>1
 | 46=>10
 | 47=>10
 | 48=>7
 | 49=>7
 | 50=>9
 | 51=>9
 | 65=>1
 | 66=>1
 | 70=>1
 | 74=>1
 | 75=>4
 | 76=>4
 | 78=>8
 | 79=>8
 | 92=>1
 | 93=>5
 | 94=>5
 | 95=>2
 | 96=>2
 | 97=>1
 | 100=>1
 | 101=>1
 | 102=>2
 | 103=>2
 | 104=>1
 | 117=>2
 | 118=>2
 | 119=>1
 | 120=>13
 | 121=>13
 | 122=>1
 | 137=>8
 | 138=>8
 | 144=>1
 | 145=>13
 | 146=>13
 | 148=>1
 | 157=>1
 | 161=>2
 | 162=>2
 | 163=>1
 | 183=>1
 | 187=>1
 | 198=>1
 | 199=>6
 | 200=>6
 | 203=>1
 | 214=>4
 | 215=>4
 | 226=>1
 | 227=>9
 | 228=>9
 | 244=>1
 | 263=>1
 | 270=>1
 | 272=>1
 | 286=>1
 | 290=>1
 | 296=>1
 | 300=>2
 | 301=>2
 | 308=>4
 | 309=>4
 | 314=>1
 | 315=>1
 | 317=>1
 | 318=>1
 | 319=>1
 | _=>0
def I8:TypeId->Nat
 | 2=>8
 | 3=>8
 | 4=>1
 | 5=>1
 | 6=>1
 | 7=>24
 | 8=>24
 | 9=>16
 | 10=>16
 | 11=>16
 | 12=>8
 | 13=>24
 | 14=>24
 | 15=>8
 | 16=>8
 | 17=>8
 | 18=>8
 | 19=>8
 | 21=>4
 | 24=>24
 | 25=>80
 | 26=>80
 | 28=>24
 | 29=>24
 | 30=>24
 | 31=>56
 | 32=>56
 | 33=>24
 | 34=>80
 | 35=>80
 | 36=>24
 | 37=>8
 | 40=>24
 | 41=>48
 | 42=>48
 | 43=>24
 | 44=>24
 | 45=>24
 | 46=>144
 | 47=>144
 | 48=>88
 | 49=>88
 | 50=>104
 | 51=>104
 | 65=>8
 | 66=>8
 | 70=>24
 | 74=>8
 | 75=>32
 | 76=>32
 | 78=>96
 | 79=>96
 | 92=>24
 | 93=>72
 | 94=>72
 | 95=>24
 | 96=>24
 | 97=>8
 | 100=>8
 | 101=>24
 | 102=>48
 | 103=>48
 | 104=>24
 | 117=>24
 | 118=>24
 | 119=>8
 | 120=>200
 | 121=>200
 | 122=>24
 | 137=>96
 | 138=>96
 | 144=>8
 | 145=>200
 | 146=>200
 | 148=>8
 | 157=>24
 | 161=>16
 | 162=>16
 | 163=>8
 | 183=>8
 | 187=>8
 | 198=>8
 | 199=>64
 | 200=>64
 | 203=>8
 | 214=>64
 | 215=>64
 | 226=>8
 | 227=>120
 | 228=>120
 | 244=>8
 | 263=>8
 | 270=>4
 | 272=>8
 | 286=>8
 | 290=>8
 | 296=>8
 | 300=>2
 | 301=>2
 | 308=>40
 | 309=>40
 | 314=>1
 | 315=>1
 | 317=>8
 | 318=>4
 | 319=>4
 | _=>0
def I9:TypeId->List AV
 | 2=>[.int .i64 0]
 | 3=>[.int .i64 0]
 | 4=>[.bool false]
 | 5=>[.int .u8 0]
 | 6=>[.int .u8 0]
 | 7=>[.int .i64 0,.int .i64 0,.bool false,.int .u8 0]
 | 8=>[.int .i64 0,.int .i64 0,.bool false,.int .u8 0]
 | 9=>[.str []]
 | 10=>[.str []]
 | 11=>[.str []]
 | 12=>[.int .u64 0]
 | 13=>[.str [],.int .u64 0]
 | 14=>[.str [],.int .u64 0]
 | 15=>[.nilp]
 | 16=>[.nilp]
 | 17=>[.nilp]
 | 18=>[.nilp]
 | 19=>[.nilp]
 | 21=>[.int .i32 0]
 | 24=>[.nils]
 | 25=>[.int .i64 0,.int .i64 0,.int .i64 0,.str [],.str [],.nils]
 | 26=>[.int .i64 0,.int .i64 0,.int .i64 0,.str [],.str [],.nils]
 | 28=>[.nils]
 | 29=>[.nils]
 | 30=>[.nils]
 | 31=>[.nils,.int .i64 0,.nils]
 | 32=>[.nils,.int .i64 0,.nils]
 | 33=>[.nils]
 | 34=>[.nils,.int .i64 0,.nils,.nils]
 | 35=>[.nils,.int .i64 0,.nils,.nils]
 | 36=>[.nils]
 | 37=>[.int .i64 0]
 | 40=>[.nils]
 | 41=>[.int .i64 0,.int .i64 0,.int .i64 0,.nils]
 | 42=>[.int .i64 0,.int .i64 0,.int .i64 0,.nils]
 | 43=>[.nils]
 | 44=>[.nils]
 | 45=>[.nils]
 | 46=>[.int .i64 0,.bool false,.int .i64 0,.nils,.nils,.nils,.nils,.int .i64 0,.int .i64 0,.int .i64 0]
 | 47=>[.int .i64 0,.bool false,.int .i64 0,.nils,.nils,.nils,.nils,.int .i64 0,.int .i64 0,.int .i64 0]
 | 48=>[.int .i64 0,.int .i64 0,.int .i64 0,.str [],.int .i64 0,.str [],.nils]
 | 49=>[.int .i64 0,.int .i64 0,.int .i64 0,.str [],.int .i64 0,.str [],.nils]
 | 50=>[.int .i64 0,.int .i64 0,.int .i64 0,.str [],.int .i64 0,.str [],.nils,.int .i64 0,.int .i64 0]
 | 51=>[.int .i64 0,.int .i64 0,.int .i64 0,.str [],.int .i64 0,.str [],.nils,.int .i64 0,.int .i64 0]
 | 65=>[.nilm]
 | 66=>[.nilm]
 | 70=>[.nils]
 | 74=>[.nilm]
 | 75=>[.int .i64 0,.int .i64 0,.int .i64 0,.int .i64 0]
 | 76=>[.int .i64 0,.int .i64 0,.int .i64 0,.int .i64 0]
 | 78=>[.int .i64 0,.int .i64 0,.int .i64 0,.int .i64 0,.str [],.int .i64 0,.str [],.nils]
 | 79=>[.int .i64 0,.int .i64 0,.int .i64 0,.int .i64 0,.str [],.int .i64 0,.str [],.nils]
 | 92=>[.nils]
 | 93=>[.int .i64 0,.bool false,.nils,.nils,.int .i64 0]
 | 94=>[.int .i64 0,.bool false,.nils,.nils,.int .i64 0]
 | 95=>[.str [],.int .i64 0]
 | 96=>[.str [],.int .i64 0]
 | 97=>[.nilp]
 | 100=>[.nilp]
 | 101=>[.nils]
 | 102=>[.nils,.nils]
 | 103=>[.nils,.nils]
 | 104=>[.nils]
 | 117=>[.str [],.int .i64 0]
 | 118=>[.str [],.int .i64 0]
 | 119=>[.nilp]
 | 120=>[.int .i64 0,.bool false,.int .i64 0,.nils,.nils,.nils,.nils,.int .i64 0,.int .i64 0,.int .i64 0,.nils,.int .i64 0,.nils]
 | 121=>[.int .i64 0,.bool false,.int .i64 0,.nils,.nils,.nils,.nils,.int .i64 0,.int .i64 0,.int .i64 0,.nils,.int .i64 0,.nils]
 | 122=>[.nils]
 | 137=>[.int .i64 0,.bool false,.nils,.nils,.int .i64 0,.bool false,.int .i64 0,.int .i64 0]
 | 138=>[.int .i64 0,.bool false,.nils,.nils,.int .i64 0,.bool false,.int .i64 0,.int .i64 0]
 | 144=>[.nilp]
 | 145=>[.int .i64 0,.bool false,.int .i64 0,.nils,.nils,.nils,.nils,.int .i64 0,.int .i64 0,.int .i64 0,.nils,.int .i64 0,.nils]
 | 146=>[.int .i64 0,.bool false,.int .i64 0,.nils,.nils,.nils,.nils,.int .i64 0,.int .i64 0,.int .i64 0,.nils,.int .i64 0,.nils]
 | 148=>[.nilp]
 | 157=>[.nils]
 | 161=>[.int .i64 0,.int .i64 0]
 | 162=>[.int .i64 0,.int .i64 0]
 | 163=>[.nilm]
 | 183=>[.nilp]
 | 187=>[.nilp]
 | 198=>[.nilp]
 | 199=>[.nils,.int .i64 0,.int .i64 0,.nilm,.nilm,.nilm]
 | 200=>[.nils,.int .i64 0,.int .i64 0,.nilm,.nilm,.nilm]
 | 203=>[.nilp]
 | 214=>[.nils,.nils,.nilm,.int .i64 0]
 | 215=>[.nils,.nils,.nilm,.int .i64 0]
 | 226=>[.nilp]
 | 227=>[.nils,.int .i64 0,.int .i64 0,.int .i64 0,.str [],.int .i64 0,.str [],.nils,.int .i64 0]
 | 228=>[.nils,.int .i64 0,.int .i64 0,.int .i64 0,.str [],.int .i64 0,.str [],.nils,.int .i64 0]
 | 244=>[.int .u64 0]
 | 263=>[.int .i64 0]
 | 270=>[.int .u32 0]
 | 272=>[.int .u64 0]
 | 286=>[.int .u64 0]
 | 290=>[.nilp]
 | 296=>[.nilp]
 | 300=>[.int .u8 0,.int .u8 0]
 | 301=>[.int .u8 0,.int .u8 0]
 | 308=>[.nilp,.nilp,.nilp,.str []]
 | 309=>[.nilp,.nilp,.nilp,.str []]
 | 314=>[.int .u8 0]
 | 315=>[.int .u8 0]
 | 317=>[.nilp]
 | 318=>[.int .i32 0]
 | 319=>[.int .i32 0]
 | _=>[]
def tFl:TypeId->List (TypeId×Nat)
 | 7=>[(2,0),(3,1),(4,2),(6,3)]
 | 8=>[(2,0),(3,1),(4,2),(6,3)]
 | 13=>[(9,0),(12,1)]
 | 14=>[(9,0),(12,1)]
 | 18=>[(17,0)]
 | 19=>[(17,0)]
 | 25=>[(3,0),(3,1),(3,2),(9,3),(9,4),(24,5)]
 | 26=>[(3,0),(3,1),(3,2),(9,3),(9,4),(24,5)]
 | 31=>[(29,0),(3,1),(30,2)]
 | 32=>[(29,0),(3,1),(30,2)]
 | 34=>[(32,0),(33,3)]
 | 35=>[(32,0),(33,3)]
 | 41=>[(37,0),(3,1),(3,2),(24,3)]
 | 42=>[(37,0),(3,1),(3,2),(24,3)]
 | 46=>[(3,0),(4,1),(3,2),(43,3),(44,4),(44,5),(45,6),(3,7),(3,8),(3,9)]
 | 47=>[(3,0),(4,1),(3,2),(43,3),(44,4),(44,5),(45,6),(3,7),(3,8),(3,9)]
 | 48=>[(3,0),(3,1),(3,2),(9,3),(3,4),(9,5),(24,6)]
 | 49=>[(3,0),(3,1),(3,2),(9,3),(3,4),(9,5),(24,6)]
 | 50=>[(49,0),(3,7),(3,8)]
 | 51=>[(49,0),(3,7),(3,8)]
 | 75=>[(3,0),(3,1),(3,2),(3,3)]
 | 76=>[(3,0),(3,1),(3,2),(3,3)]
 | 78=>[(3,0),(49,1)]
 | 79=>[(3,0),(49,1)]
 | 93=>[(3,0),(4,1),(24,2),(92,3),(3,4)]
 | 94=>[(3,0),(4,1),(24,2),(92,3),(3,4)]
 | 95=>[(9,0),(3,1)]
 | 96=>[(9,0),(3,1)]
 | 102=>[(70,0),(101,1)]
 | 103=>[(70,0),(101,1)]
 | 117=>[(9,0),(3,1)]
 | 118=>[(9,0),(3,1)]
 | 120=>[(47,0),(32,10)]
 | 121=>[(47,0),(32,10)]
 | 137=>[(94,0),(4,5),(3,6),(3,7)]
 | 138=>[(94,0),(4,5),(3,6),(3,7)]
 | 145=>[(47,0),(32,10)]
 | 146=>[(47,0),(32,10)]
 | 161=>[(37,0),(3,1)]
 | 162=>[(37,0),(3,1)]
 | 199=>[(29,0),(3,1),(3,2),(74,3),(163,4),(163,5)]
 | 200=>[(29,0),(3,1),(3,2),(74,3),(163,4),(163,5)]
 | 214=>[(104,0),(157,1),(66,2),(3,3)]
 | 215=>[(104,0),(157,1),(66,2),(3,3)]
 | 227=>[(29,0),(49,1),(3,8)]
 | 228=>[(29,0),(49,1),(3,8)]
 | 300=>[(5,0),(5,1)]
 | 301=>[(5,0),(5,1)]
 | 308=>[(17,0),(17,1),(17,2),(9,3)]
 | 309=>[(17,0),(17,1),(17,2),(9,3)]
 | _=>[]
def IQ (t:TypeId) (j:Nat):Option (TypeId×Nat):=(tFl t)[j]?
def tab:Tab:=⟨GK,An,I8,I9,IQ⟩
@[go_sem] theorem tu2:tab.und 2=(.int .i64):=rfl
@[go_sem] theorem ts2:tab.siz 2=1:=rfl
@[go_sem] theorem tz2:tab.zer 2=[.int .i64 0]:=rfl
@[go_sem] theorem tu3:tab.und 3=(.int .i64):=rfl
@[go_sem] theorem ts3:tab.siz 3=1:=rfl
@[go_sem] theorem tb3:tab.byt 3=8:=rfl
@[go_sem] theorem tz3:tab.zer 3=[.int .i64 0]:=rfl
@[go_sem] theorem tu4:tab.und 4=.bool:=rfl
@[go_sem] theorem ts4:tab.siz 4=1:=rfl
@[go_sem] theorem tz4:tab.zer 4=[.bool false]:=rfl
@[go_sem] theorem tu5:tab.und 5=(.int .u8):=rfl
@[go_sem] theorem ts5:tab.siz 5=1:=rfl
@[go_sem] theorem tb5:tab.byt 5=1:=rfl
@[go_sem] theorem tz5:tab.zer 5=[.int .u8 0]:=rfl
@[go_sem] theorem tu6:tab.und 6=(.int .u8):=rfl
@[go_sem] theorem ts6:tab.siz 6=1:=rfl
@[go_sem] theorem tz6:tab.zer 6=[.int .u8 0]:=rfl
@[go_sem] theorem tu7:tab.und 7=.struct:=rfl
@[go_sem] theorem ts7:tab.siz 7=4:=rfl
@[go_sem] theorem tz7:tab.zer 7=[.int .i64 0,.int .i64 0,.bool false,.int .u8 0]:=rfl
@[go_sem] theorem HM:tab.fld 7 0=some (2,0):=rfl
@[go_sem] theorem HN:tab.fld 7 1=some (3,1):=rfl
@[go_sem] theorem HO:tab.fld 7 2=some (4,2):=rfl
@[go_sem] theorem HP:tab.fld 7 3=some (6,3):=rfl
@[go_sem] theorem tu8:tab.und 8=.struct:=rfl
@[go_sem] theorem ts8:tab.siz 8=4:=rfl
@[go_sem] theorem tz8:tab.zer 8=[.int .i64 0,.int .i64 0,.bool false,.int .u8 0]:=rfl
@[go_sem] theorem HQ:tab.fld 8 0=some (2,0):=rfl
@[go_sem] theorem HR:tab.fld 8 1=some (3,1):=rfl
@[go_sem] theorem HS:tab.fld 8 2=some (4,2):=rfl
@[go_sem] theorem HT:tab.fld 8 3=some (6,3):=rfl
@[go_sem] theorem tu9:tab.und 9=.str:=rfl
@[go_sem] theorem ts9:tab.siz 9=1:=rfl
@[go_sem] theorem tb9:tab.byt 9=16:=rfl
@[go_sem] theorem tz9:tab.zer 9=[.str []]:=rfl
@[go_sem] theorem Lj:tab.und 21=(.int .i32):=rfl
@[go_sem] theorem KS:tab.siz 21=1:=rfl
@[go_sem] theorem LL:tab.zer 21=[.int .i32 0]:=rfl
@[go_sem] theorem Lk:tab.und 24=(.sl 5):=rfl
@[go_sem] theorem KT:tab.siz 24=1:=rfl
@[go_sem] theorem LM:tab.zer 24=[.nils]:=rfl
@[go_sem] theorem Ll:tab.und 26=.struct:=rfl
@[go_sem] theorem KU:tab.siz 26=6:=rfl
@[go_sem] theorem KK:tab.byt 26=80:=rfl
@[go_sem] theorem LN:tab.zer 26=[.int .i64 0,.int .i64 0,.int .i64 0,.str [],.str [],.nils]:=rfl
@[go_sem] theorem GL:tab.fld 26 0=some (3,0):=rfl
@[go_sem] theorem GM:tab.fld 26 1=some (3,1):=rfl
@[go_sem] theorem GN:tab.fld 26 2=some (3,2):=rfl
@[go_sem] theorem GO:tab.fld 26 3=some (9,3):=rfl
@[go_sem] theorem GP:tab.fld 26 4=some (9,4):=rfl
@[go_sem] theorem GQ:tab.fld 26 5=some (24,5):=rfl
@[go_sem] theorem Lm:tab.und 28=(.sl 26):=rfl
@[go_sem] theorem KV:tab.siz 28=1:=rfl
@[go_sem] theorem LO:tab.zer 28=[.nils]:=rfl
@[go_sem] theorem Ln:tab.und 29=(.sl 94):=rfl
@[go_sem] theorem KW:tab.siz 29=1:=rfl
@[go_sem] theorem LP:tab.zer 29=[.nils]:=rfl
@[go_sem] theorem Lo:tab.und 30=(.sl 79):=rfl
@[go_sem] theorem KX:tab.siz 30=1:=rfl
@[go_sem] theorem LQ:tab.zer 30=[.nils]:=rfl
@[go_sem] theorem Lp:tab.und 32=.struct:=rfl
@[go_sem] theorem KY:tab.siz 32=3:=rfl
@[go_sem] theorem LR:tab.zer 32=[.nils,.int .i64 0,.nils]:=rfl
@[go_sem] theorem GR:tab.fld 32 0=some (29,0):=rfl
@[go_sem] theorem GS:tab.fld 32 1=some (3,1):=rfl
@[go_sem] theorem GU:tab.fld 32 2=some (30,2):=rfl
@[go_sem] theorem Lq:tab.und 33=(.sl 47):=rfl
@[go_sem] theorem KZ:tab.siz 33=1:=rfl
@[go_sem] theorem LS:tab.zer 33=[.nils]:=rfl
@[go_sem] theorem Lr:tab.und 35=.struct:=rfl
@[go_sem] theorem K0:tab.siz 35=4:=rfl
@[go_sem] theorem LU:tab.zer 35=[.nils,.int .i64 0,.nils,.nils]:=rfl
@[go_sem] theorem GV:tab.fld 35 0=some (32,0):=rfl
@[go_sem] theorem GW:tab.fld 35 1=some (33,3):=rfl
@[go_sem] theorem Ls:tab.und 36=(.sl 42):=rfl
@[go_sem] theorem K1:tab.siz 36=1:=rfl
@[go_sem] theorem LV:tab.zer 36=[.nils]:=rfl
@[go_sem] theorem Lt:tab.und 37=(.int .i64):=rfl
@[go_sem] theorem K3:tab.siz 37=1:=rfl
@[go_sem] theorem LW:tab.zer 37=[.int .i64 0]:=rfl
@[go_sem] theorem Lu:tab.und 40=(.sl 3):=rfl
@[go_sem] theorem K4:tab.siz 40=1:=rfl
@[go_sem] theorem LX:tab.zer 40=[.nils]:=rfl
@[go_sem] theorem Lv:tab.und 42=.struct:=rfl
@[go_sem] theorem K5:tab.siz 42=4:=rfl
@[go_sem] theorem KL:tab.byt 42=48:=rfl
@[go_sem] theorem LY:tab.zer 42=[.int .i64 0,.int .i64 0,.int .i64 0,.nils]:=rfl
@[go_sem] theorem GX:tab.fld 42 0=some (37,0):=rfl
@[go_sem] theorem GY:tab.fld 42 1=some (3,1):=rfl
@[go_sem] theorem GZ:tab.fld 42 2=some (3,2):=rfl
@[go_sem] theorem G0:tab.fld 42 3=some (24,3):=rfl
@[go_sem] theorem Lw:tab.und 43=(.sl 138):=rfl
@[go_sem] theorem K6:tab.siz 43=1:=rfl
@[go_sem] theorem LZ:tab.zer 43=[.nils]:=rfl
@[go_sem] theorem Lx:tab.und 44=(.sl 51):=rfl
@[go_sem] theorem K7:tab.siz 44=1:=rfl
@[go_sem] theorem L4:tab.zer 44=[.nils]:=rfl
@[go_sem] theorem Ly:tab.und 45=(.sl 118):=rfl
@[go_sem] theorem K8:tab.siz 45=1:=rfl
@[go_sem] theorem L5:tab.zer 45=[.nils]:=rfl
@[go_sem] theorem Lz:tab.und 47=.struct:=rfl
@[go_sem] theorem K9:tab.siz 47=10:=rfl
@[go_sem] theorem KM:tab.byt 47=144:=rfl
@[go_sem] theorem L6:tab.zer 47=[.int .i64 0,.bool false,.int .i64 0,.nils,.nils,.nils,.nils,.int .i64 0,.int .i64 0,.int .i64 0]:=rfl
@[go_sem] theorem G1:tab.fld 47 0=some (3,0):=rfl
@[go_sem] theorem G2:tab.fld 47 1=some (4,1):=rfl
@[go_sem] theorem G3:tab.fld 47 2=some (3,2):=rfl
@[go_sem] theorem G4:tab.fld 47 3=some (43,3):=rfl
@[go_sem] theorem G5:tab.fld 47 4=some (44,4):=rfl
@[go_sem] theorem G6:tab.fld 47 5=some (44,5):=rfl
@[go_sem] theorem G7:tab.fld 47 6=some (45,6):=rfl
@[go_sem] theorem G8:tab.fld 47 7=some (3,7):=rfl
@[go_sem] theorem G9:tab.fld 47 8=some (3,8):=rfl
@[go_sem] theorem G_:tab.fld 47 9=some (3,9):=rfl
@[go_sem] theorem LA:tab.und 49=.struct:=rfl
@[go_sem] theorem K_:tab.siz 49=7:=rfl
@[go_sem] theorem KN:tab.byt 49=88:=rfl
@[go_sem] theorem L7:tab.zer 49=[.int .i64 0,.int .i64 0,.int .i64 0,.str [],.int .i64 0,.str [],.nils]:=rfl
@[go_sem] theorem G':tab.fld 49 0=some (3,0):=rfl
@[go_sem] theorem Ha:tab.fld 49 1=some (3,1):=rfl
@[go_sem] theorem Hb:tab.fld 49 2=some (3,2):=rfl
@[go_sem] theorem Hc:tab.fld 49 3=some (9,3):=rfl
@[go_sem] theorem Hd:tab.fld 49 4=some (3,4):=rfl
@[go_sem] theorem He:tab.fld 49 5=some (9,5):=rfl
@[go_sem] theorem Hf:tab.fld 49 6=some (24,6):=rfl
@[go_sem] theorem LB:tab.und 51=.struct:=rfl
@[go_sem] theorem K':tab.siz 51=9:=rfl
@[go_sem] theorem KO:tab.byt 51=104:=rfl
@[go_sem] theorem L8:tab.zer 51=[.int .i64 0,.int .i64 0,.int .i64 0,.str [],.int .i64 0,.str [],.nils,.int .i64 0,.int .i64 0]:=rfl
@[go_sem] theorem Hg:tab.fld 51 0=some (49,0):=rfl
@[go_sem] theorem Hh:tab.fld 51 1=some (3,7):=rfl
@[go_sem] theorem Hi:tab.fld 51 2=some (3,8):=rfl
@[go_sem] theorem LC:tab.und 66=(.map 3 94):=rfl
@[go_sem] theorem Lb:tab.siz 66=1:=rfl
@[go_sem] theorem L9:tab.zer 66=[.nilm]:=rfl
@[go_sem] theorem LD:tab.und 74=(.map 3 3):=rfl
@[go_sem] theorem Lc:tab.siz 74=1:=rfl
@[go_sem] theorem L_:tab.zer 74=[.nilm]:=rfl
@[go_sem] theorem LF:tab.und 79=.struct:=rfl
@[go_sem] theorem Ld:tab.siz 79=8:=rfl
@[go_sem] theorem KP:tab.byt 79=96:=rfl
@[go_sem] theorem Ma:tab.zer 79=[.int .i64 0,.int .i64 0,.int .i64 0,.int .i64 0,.str [],.int .i64 0,.str [],.nils]:=rfl
@[go_sem] theorem Hj:tab.fld 79 0=some (3,0):=rfl
@[go_sem] theorem Hk:tab.fld 79 1=some (49,1):=rfl
@[go_sem] theorem LG:tab.und 92=(.sl 96):=rfl
@[go_sem] theorem Lf:tab.siz 92=1:=rfl
@[go_sem] theorem Mb:tab.zer 92=[.nils]:=rfl
@[go_sem] theorem LH:tab.und 94=.struct:=rfl
@[go_sem] theorem Lg:tab.siz 94=5:=rfl
@[go_sem] theorem KQ:tab.byt 94=72:=rfl
@[go_sem] theorem Mc:tab.zer 94=[.int .i64 0,.bool false,.nils,.nils,.int .i64 0]:=rfl
@[go_sem] theorem Hl:tab.fld 94 0=some (3,0):=rfl
@[go_sem] theorem Hm:tab.fld 94 1=some (4,1):=rfl
@[go_sem] theorem Hn:tab.fld 94 2=some (24,2):=rfl
@[go_sem] theorem Ho:tab.fld 94 3=some (92,3):=rfl
@[go_sem] theorem Hp:tab.fld 94 4=some (3,4):=rfl
@[go_sem] theorem LI:tab.und 96=.struct:=rfl
@[go_sem] theorem Lh:tab.siz 96=2:=rfl
@[go_sem] theorem KR:tab.byt 96=24:=rfl
@[go_sem] theorem Md:tab.zer 96=[.str [],.int .i64 0]:=rfl
@[go_sem] theorem Hq:tab.fld 96 0=some (9,0):=rfl
@[go_sem] theorem Hr:tab.fld 96 1=some (3,1):=rfl
@[go_sem] theorem LJ:tab.und 97=(.ptr 47):=rfl
@[go_sem] theorem Li:tab.siz 97=1:=rfl
@[go_sem] theorem Me:tab.zer 97=[.nilp]:=rfl
@[go_sem] theorem JO:tab.und 104=(.sl 162):=rfl
@[go_sem] theorem Jl:tab.siz 104=1:=rfl
@[go_sem] theorem Kf:tab.zer 104=[.nils]:=rfl
@[go_sem] theorem JP:tab.und 118=.struct:=rfl
@[go_sem] theorem Jm:tab.siz 118=2:=rfl
@[go_sem] theorem Ji:tab.byt 118=24:=rfl
@[go_sem] theorem Kg:tab.zer 118=[.str [],.int .i64 0]:=rfl
@[go_sem] theorem EW:tab.fld 118 0=some (9,0):=rfl
@[go_sem] theorem EX:tab.fld 118 1=some (3,1):=rfl
@[go_sem] theorem JQ:tab.und 119=(.ptr 121):=rfl
@[go_sem] theorem Jn:tab.siz 119=1:=rfl
@[go_sem] theorem Kh:tab.zer 119=[.nilp]:=rfl
@[go_sem] theorem JR:tab.und 121=.struct:=rfl
@[go_sem] theorem Jo:tab.siz 121=13:=rfl
@[go_sem] theorem Ki:tab.zer 121=[.int .i64 0,.bool false,.int .i64 0,.nils,.nils,.nils,.nils,.int .i64 0,.int .i64 0,.int .i64 0,.nils,.int .i64 0,.nils]:=rfl
@[go_sem] theorem EY:tab.fld 121 0=some (47,0):=rfl
@[go_sem] theorem EZ:tab.fld 121 1=some (32,10):=rfl
@[go_sem] theorem JT:tab.und 122=(.sl 9):=rfl
@[go_sem] theorem Jp:tab.siz 122=1:=rfl
@[go_sem] theorem Kj:tab.zer 122=[.nils]:=rfl
@[go_sem] theorem JU:tab.und 138=.struct:=rfl
@[go_sem] theorem Jq:tab.siz 138=8:=rfl
@[go_sem] theorem Jj:tab.byt 138=96:=rfl
@[go_sem] theorem Kk:tab.zer 138=[.int .i64 0,.bool false,.nils,.nils,.int .i64 0,.bool false,.int .i64 0,.int .i64 0]:=rfl
@[go_sem] theorem E0:tab.fld 138 0=some (94,0):=rfl
@[go_sem] theorem E1:tab.fld 138 1=some (4,5):=rfl
@[go_sem] theorem E2:tab.fld 138 2=some (3,6):=rfl
@[go_sem] theorem E3:tab.fld 138 3=some (3,7):=rfl
@[go_sem] theorem JV:tab.und 144=(.ptr 146):=rfl
@[go_sem] theorem Jr:tab.siz 144=1:=rfl
@[go_sem] theorem Kl:tab.zer 144=[.nilp]:=rfl
@[go_sem] theorem JW:tab.und 146=.struct:=rfl
@[go_sem] theorem Js:tab.siz 146=13:=rfl
@[go_sem] theorem Km:tab.zer 146=[.int .i64 0,.bool false,.int .i64 0,.nils,.nils,.nils,.nils,.int .i64 0,.int .i64 0,.int .i64 0,.nils,.int .i64 0,.nils]:=rfl
@[go_sem] theorem E4:tab.fld 146 0=some (47,0):=rfl
@[go_sem] theorem E5:tab.fld 146 1=some (32,10):=rfl
@[go_sem] theorem JX:tab.und 148=(.ptr 26):=rfl
@[go_sem] theorem Jt:tab.siz 148=1:=rfl
@[go_sem] theorem Kn:tab.zer 148=[.nilp]:=rfl
@[go_sem] theorem JY:tab.und 157=(.sl 49):=rfl
@[go_sem] theorem Ju:tab.siz 157=1:=rfl
@[go_sem] theorem Ko:tab.zer 157=[.nils]:=rfl
@[go_sem] theorem JZ:tab.und 162=.struct:=rfl
@[go_sem] theorem Jv:tab.siz 162=2:=rfl
@[go_sem] theorem Jk:tab.byt 162=16:=rfl
@[go_sem] theorem Kq:tab.zer 162=[.int .i64 0,.int .i64 0]:=rfl
@[go_sem] theorem E6:tab.fld 162 0=some (37,0):=rfl
@[go_sem] theorem E7:tab.fld 162 1=some (3,1):=rfl
@[go_sem] theorem J0:tab.und 163=(.map 3 4):=rfl
@[go_sem] theorem Jw:tab.siz 163=1:=rfl
@[go_sem] theorem Kr:tab.zer 163=[.nilm]:=rfl
@[go_sem] theorem J1:tab.und 183=(.ptr 94):=rfl
@[go_sem] theorem Jx:tab.siz 183=1:=rfl
@[go_sem] theorem Ks:tab.zer 183=[.nilp]:=rfl
@[go_sem] theorem J2:tab.und 187=(.ptr 49):=rfl
@[go_sem] theorem Jy:tab.siz 187=1:=rfl
@[go_sem] theorem Kt:tab.zer 187=[.nilp]:=rfl
@[go_sem] theorem J3:tab.und 198=(.ptr 200):=rfl
@[go_sem] theorem Jz:tab.siz 198=1:=rfl
@[go_sem] theorem Ku:tab.zer 198=[.nilp]:=rfl
@[go_sem] theorem J4:tab.und 200=.struct:=rfl
@[go_sem] theorem JA:tab.siz 200=6:=rfl
@[go_sem] theorem Kv:tab.zer 200=[.nils,.int .i64 0,.int .i64 0,.nilm,.nilm,.nilm]:=rfl
@[go_sem] theorem E8:tab.fld 200 0=some (29,0):=rfl
@[go_sem] theorem E9:tab.fld 200 1=some (3,1):=rfl
@[go_sem] theorem E_:tab.fld 200 2=some (3,2):=rfl
@[go_sem] theorem E':tab.fld 200 3=some (74,3):=rfl
@[go_sem] theorem Fb:tab.fld 200 4=some (163,4):=rfl
@[go_sem] theorem Fc:tab.fld 200 5=some (163,5):=rfl
@[go_sem] theorem J5:tab.und 203=(.ptr 51):=rfl
@[go_sem] theorem JB:tab.siz 203=1:=rfl
@[go_sem] theorem Kw:tab.zer 203=[.nilp]:=rfl
@[go_sem] theorem J6:tab.und 215=.struct:=rfl
@[go_sem] theorem JC:tab.siz 215=4:=rfl
@[go_sem] theorem Kx:tab.zer 215=[.nils,.nils,.nilm,.int .i64 0]:=rfl
@[go_sem] theorem Fe:tab.fld 215 0=some (104,0):=rfl
@[go_sem] theorem Ff:tab.fld 215 1=some (157,1):=rfl
@[go_sem] theorem Fg:tab.fld 215 2=some (66,2):=rfl
@[go_sem] theorem Fh:tab.fld 215 3=some (3,3):=rfl
@[go_sem] theorem J7:tab.und 226=(.ptr 228):=rfl
@[go_sem] theorem JD:tab.siz 226=1:=rfl
@[go_sem] theorem Ky:tab.zer 226=[.nilp]:=rfl
@[go_sem] theorem J8:tab.und 228=.struct:=rfl
@[go_sem] theorem JE:tab.siz 228=9:=rfl
@[go_sem] theorem Kz:tab.zer 228=[.nils,.int .i64 0,.int .i64 0,.int .i64 0,.str [],.int .i64 0,.str [],.nils,.int .i64 0]:=rfl
@[go_sem] theorem Fi:tab.fld 228 0=some (29,0):=rfl
@[go_sem] theorem Fj:tab.fld 228 1=some (49,1):=rfl
@[go_sem] theorem Fk:tab.fld 228 2=some (3,8):=rfl
@[go_sem] theorem J9:tab.und 244=(.int .u64):=rfl
@[go_sem] theorem JF:tab.siz 244=1:=rfl
@[go_sem] theorem KB:tab.zer 244=[.int .u64 0]:=rfl
@[go_sem] theorem J_:tab.und 263=(.int .i64):=rfl
@[go_sem] theorem JH:tab.siz 263=1:=rfl
@[go_sem] theorem KC:tab.zer 263=[.int .i64 0]:=rfl
@[go_sem] theorem J':tab.und 270=(.int .u32):=rfl
@[go_sem] theorem JI:tab.siz 270=1:=rfl
@[go_sem] theorem KE:tab.zer 270=[.int .u32 0]:=rfl
@[go_sem] theorem Ka:tab.und 272=(.int .u64):=rfl
@[go_sem] theorem JJ:tab.siz 272=1:=rfl
@[go_sem] theorem KF:tab.zer 272=[.int .u64 0]:=rfl
@[go_sem] theorem Kb:tab.und 286=(.int .u64):=rfl
@[go_sem] theorem JK:tab.siz 286=1:=rfl
@[go_sem] theorem KG:tab.zer 286=[.int .u64 0]:=rfl
@[go_sem] theorem Kc:tab.und 290=(.ptr 3):=rfl
@[go_sem] theorem JL:tab.siz 290=1:=rfl
@[go_sem] theorem KH:tab.zer 290=[.nilp]:=rfl
@[go_sem] theorem Kd:tab.und 296=(.ptr 286):=rfl
@[go_sem] theorem JM:tab.siz 296=1:=rfl
@[go_sem] theorem KI:tab.zer 296=[.nilp]:=rfl
@[go_sem] theorem Ke:tab.und 301=.struct:=rfl
@[go_sem] theorem JN:tab.siz 301=2:=rfl
@[go_sem] theorem KJ:tab.zer 301=[.int .u8 0,.int .u8 0]:=rfl
@[go_sem] theorem Fl:tab.fld 301 0=some (5,0):=rfl
@[go_sem] theorem Fm:tab.fld 301 1=some (5,1):=rfl
theorem Aq:∀t,iY Go.Proofs.Tryz.prog t (GK t):=by
 intro t;unfold GK;split
 ·exact Go.Proofs.Tryz.underlying2
 ·exact Go.Proofs.Tryz.underlying3
 ·exact Go.Proofs.Tryz.underlying4
 ·exact Go.Proofs.Tryz.underlying5
 ·exact Go.Proofs.Tryz.underlying6
 ·exact ⟨_,Go.Proofs.Tryz.underlying7,by intro f hf;simp at hf;rcases hf with rfl | rfl | rfl | rfl<;>kernel_rfl⟩
 ·exact ⟨_,Go.Proofs.Tryz.underlying8,by intro f hf;simp at hf;rcases hf with rfl | rfl | rfl | rfl<;>kernel_rfl⟩
 ·exact Go.Proofs.Tryz.underlying9
 ·exact Go.Proofs.Tryz.underlying10
 ·exact Go.Proofs.Tryz.underlying11
 ·exact Go.Proofs.Tryz.underlying12
 ·exact ⟨_,Go.Proofs.Tryz.underlying13,by intro f hf;simp at hf;rcases hf with rfl | rfl<;>kernel_rfl⟩
 ·exact ⟨_,Go.Proofs.Tryz.underlying14,by intro f hf;simp at hf;rcases hf with rfl | rfl<;>kernel_rfl⟩
 ·exact Go.Proofs.Tryz.underlying15
 ·exact Go.Proofs.Tryz.underlying16
 ·exact Go.Proofs.Tryz.underlying17
 ·exact ⟨_,Go.Proofs.Tryz.underlying18,by intro f hf;simp at hf;rcases hf with rfl<;>kernel_rfl⟩
 ·exact ⟨_,Go.Proofs.Tryz.underlying19,by intro f hf;simp at hf;rcases hf with rfl<;>kernel_rfl⟩
 ·exact Go.Proofs.Tryz.underlying21
 ·exact Go.Proofs.Tryz.underlying24
 ·exact ⟨_,Go.Proofs.Tryz.underlying25,by intro f hf;simp at hf;rcases hf with rfl | rfl | rfl | rfl | rfl | rfl<;>kernel_rfl⟩
 ·exact ⟨_,Go.Proofs.Tryz.underlying26,by intro f hf;simp at hf;rcases hf with rfl | rfl | rfl | rfl | rfl | rfl<;>kernel_rfl⟩
 ·exact Go.Proofs.Tryz.underlying28
 ·exact Go.Proofs.Tryz.underlying29
 ·exact Go.Proofs.Tryz.underlying30
 ·exact ⟨_,Go.Proofs.Tryz.underlying31,by intro f hf;simp at hf;rcases hf with rfl | rfl | rfl<;>kernel_rfl⟩
 ·exact ⟨_,Go.Proofs.Tryz.underlying32,by intro f hf;simp at hf;rcases hf with rfl | rfl | rfl<;>kernel_rfl⟩
 ·exact Go.Proofs.Tryz.underlying33
 ·exact ⟨_,Go.Proofs.Tryz.underlying34,by intro f hf;simp at hf;rcases hf with rfl | rfl<;>kernel_rfl⟩
 ·exact ⟨_,Go.Proofs.Tryz.underlying35,by intro f hf;simp at hf;rcases hf with rfl | rfl<;>kernel_rfl⟩
 ·exact Go.Proofs.Tryz.underlying36
 ·exact Go.Proofs.Tryz.underlying37
 ·exact Go.Proofs.Tryz.underlying40
 ·exact ⟨_,Go.Proofs.Tryz.underlying41,by intro f hf;simp at hf;rcases hf with rfl | rfl | rfl | rfl<;>kernel_rfl⟩
 ·exact ⟨_,Go.Proofs.Tryz.underlying42,by intro f hf;simp at hf;rcases hf with rfl | rfl | rfl | rfl<;>kernel_rfl⟩
 ·exact Go.Proofs.Tryz.underlying43
 ·exact Go.Proofs.Tryz.underlying44
 ·exact Go.Proofs.Tryz.underlying45
 ·exact ⟨_,Go.Proofs.Tryz.underlying46,by intro f hf;simp at hf;rcases hf with rfl | rfl | rfl | rfl | rfl | rfl | rfl | rfl | rfl | rfl<;>kernel_rfl⟩
 ·exact ⟨_,Go.Proofs.Tryz.underlying47,by intro f hf;simp at hf;rcases hf with rfl | rfl | rfl | rfl | rfl | rfl | rfl | rfl | rfl | rfl<;>kernel_rfl⟩
 ·exact ⟨_,Go.Proofs.Tryz.underlying48,by intro f hf;simp at hf;rcases hf with rfl | rfl | rfl | rfl | rfl | rfl | rfl<;>kernel_rfl⟩
 ·exact ⟨_,Go.Proofs.Tryz.underlying49,by intro f hf;simp at hf;rcases hf with rfl | rfl | rfl | rfl | rfl | rfl | rfl<;>kernel_rfl⟩
 ·exact ⟨_,Go.Proofs.Tryz.underlying50,by intro f hf;simp at hf;rcases hf with rfl | rfl | rfl<;>kernel_rfl⟩
 ·exact ⟨_,Go.Proofs.Tryz.underlying51,by intro f hf;simp at hf;rcases hf with rfl | rfl | rfl<;>kernel_rfl⟩
 ·exact Go.Proofs.Tryz.underlying65
 ·exact Go.Proofs.Tryz.underlying66
 ·exact Go.Proofs.Tryz.underlying70
 ·exact Go.Proofs.Tryz.underlying74
 ·exact ⟨_,Go.Proofs.Tryz.underlying75,by intro f hf;simp at hf;rcases hf with rfl | rfl | rfl | rfl<;>kernel_rfl⟩
 ·exact ⟨_,Go.Proofs.Tryz.underlying76,by intro f hf;simp at hf;rcases hf with rfl | rfl | rfl | rfl<;>kernel_rfl⟩
 ·exact ⟨_,Go.Proofs.Tryz.underlying78,by intro f hf;simp at hf;rcases hf with rfl | rfl<;>kernel_rfl⟩
 ·exact ⟨_,Go.Proofs.Tryz.underlying79,by intro f hf;simp at hf;rcases hf with rfl | rfl<;>kernel_rfl⟩
 ·exact Go.Proofs.Tryz.underlying92
 ·exact ⟨_,Go.Proofs.Tryz.underlying93,by intro f hf;simp at hf;rcases hf with rfl | rfl | rfl | rfl | rfl<;>kernel_rfl⟩
 ·exact ⟨_,Go.Proofs.Tryz.underlying94,by intro f hf;simp at hf;rcases hf with rfl | rfl | rfl | rfl | rfl<;>kernel_rfl⟩
 ·exact ⟨_,Go.Proofs.Tryz.underlying95,by intro f hf;simp at hf;rcases hf with rfl | rfl<;>kernel_rfl⟩
 ·exact ⟨_,Go.Proofs.Tryz.underlying96,by intro f hf;simp at hf;rcases hf with rfl | rfl<;>kernel_rfl⟩
 ·exact Go.Proofs.Tryz.underlying97
 ·exact Go.Proofs.Tryz.underlying100
 ·exact Go.Proofs.Tryz.underlying101
 ·exact ⟨_,Go.Proofs.Tryz.underlying102,by intro f hf;simp at hf;rcases hf with rfl | rfl<;>kernel_rfl⟩
 ·exact ⟨_,Go.Proofs.Tryz.underlying103,by intro f hf;simp at hf;rcases hf with rfl | rfl<;>kernel_rfl⟩
 ·exact Go.Proofs.Tryz.underlying104
 ·exact ⟨_,Go.Proofs.Tryz.underlying117,by intro f hf;simp at hf;rcases hf with rfl | rfl<;>kernel_rfl⟩
 ·exact ⟨_,Go.Proofs.Tryz.underlying118,by intro f hf;simp at hf;rcases hf with rfl | rfl<;>kernel_rfl⟩
 ·exact Go.Proofs.Tryz.underlying119
 ·exact ⟨_,Go.Proofs.Tryz.underlying120,by intro f hf;simp at hf;rcases hf with rfl | rfl<;>kernel_rfl⟩
 ·exact ⟨_,Go.Proofs.Tryz.underlying121,by intro f hf;simp at hf;rcases hf with rfl | rfl<;>kernel_rfl⟩
 ·exact Go.Proofs.Tryz.underlying122
 ·exact ⟨_,Go.Proofs.Tryz.underlying137,by intro f hf;simp at hf;rcases hf with rfl | rfl | rfl | rfl<;>kernel_rfl⟩
 ·exact ⟨_,Go.Proofs.Tryz.underlying138,by intro f hf;simp at hf;rcases hf with rfl | rfl | rfl | rfl<;>kernel_rfl⟩
 ·exact Go.Proofs.Tryz.underlying144
 ·exact ⟨_,Go.Proofs.Tryz.underlying145,by intro f hf;simp at hf;rcases hf with rfl | rfl<;>kernel_rfl⟩
 ·exact ⟨_,Go.Proofs.Tryz.underlying146,by intro f hf;simp at hf;rcases hf with rfl | rfl<;>kernel_rfl⟩
 ·exact Go.Proofs.Tryz.underlying148
 ·exact Go.Proofs.Tryz.underlying157
 ·exact ⟨_,Go.Proofs.Tryz.underlying161,by intro f hf;simp at hf;rcases hf with rfl | rfl<;>kernel_rfl⟩
 ·exact ⟨_,Go.Proofs.Tryz.underlying162,by intro f hf;simp at hf;rcases hf with rfl | rfl<;>kernel_rfl⟩
 ·exact Go.Proofs.Tryz.underlying163
 ·exact Go.Proofs.Tryz.underlying183
 ·exact Go.Proofs.Tryz.underlying187
 ·exact Go.Proofs.Tryz.underlying198
 ·exact ⟨_,Go.Proofs.Tryz.underlying199,by intro f hf;simp at hf;rcases hf with rfl | rfl | rfl | rfl | rfl | rfl<;>kernel_rfl⟩
 ·exact ⟨_,Go.Proofs.Tryz.underlying200,by intro f hf;simp at hf;rcases hf with rfl | rfl | rfl | rfl | rfl | rfl<;>kernel_rfl⟩
 ·exact Go.Proofs.Tryz.underlying203
 ·exact ⟨_,Go.Proofs.Tryz.underlying214,by intro f hf;simp at hf;rcases hf with rfl | rfl | rfl | rfl<;>kernel_rfl⟩
 ·exact ⟨_,Go.Proofs.Tryz.underlying215,by intro f hf;simp at hf;rcases hf with rfl | rfl | rfl | rfl<;>kernel_rfl⟩
 ·exact Go.Proofs.Tryz.underlying226
 ·exact ⟨_,Go.Proofs.Tryz.underlying227,by intro f hf;simp at hf;rcases hf with rfl | rfl | rfl<;>kernel_rfl⟩
 ·exact ⟨_,Go.Proofs.Tryz.underlying228,by intro f hf;simp at hf;rcases hf with rfl | rfl | rfl<;>kernel_rfl⟩
 ·exact Go.Proofs.Tryz.underlying244
 ·exact Go.Proofs.Tryz.underlying263
 ·exact Go.Proofs.Tryz.underlying270
 ·exact Go.Proofs.Tryz.underlying272
 ·exact Go.Proofs.Tryz.underlying286
 ·exact Go.Proofs.Tryz.underlying290
 ·exact Go.Proofs.Tryz.underlying296
 ·exact ⟨_,Go.Proofs.Tryz.underlying300,by intro f hf;simp at hf;rcases hf with rfl | rfl<;>kernel_rfl⟩
 ·exact ⟨_,Go.Proofs.Tryz.underlying301,by intro f hf;simp at hf;rcases hf with rfl | rfl<;>kernel_rfl⟩
 ·exact ⟨_,Go.Proofs.Tryz.underlying308,by intro f hf;simp at hf;rcases hf with rfl | rfl | rfl | rfl<;>kernel_rfl⟩
 ·exact ⟨_,Go.Proofs.Tryz.underlying309,by intro f hf;simp at hf;rcases hf with rfl | rfl | rfl | rfl<;>kernel_rfl⟩
 ·exact Go.Proofs.Tryz.underlying314
 ·exact Go.Proofs.Tryz.underlying315
 ·exact Go.Proofs.Tryz.underlying317
 ·exact Go.Proofs.Tryz.underlying318
 ·exact Go.Proofs.Tryz.underlying319
 ·trivial
theorem Ap:∀t,An t≠0->∃i,(Go.Proofs.Tryz.prog).info? t=some i/\i.size=An t/\i.bytes=I8 t/\∃z,i.zero=some z/\z.cells.toList.map ofValue=I9 t/\z.cells.size=An t /\
  (GK t).isA=some (match z with | .agg _=>true | _=>false):=by
 intro t h
 revert h
 unfold An;split
 ·exact λ_=>⟨Go.Proofs.Tryz.t2,by kernel_rfl,rfl,rfl,_,rfl,rfl,rfl,rfl⟩
 ·exact λ_=>⟨Go.Proofs.Tryz.t3,by kernel_rfl,rfl,rfl,_,rfl,rfl,rfl,rfl⟩
 ·exact λ_=>⟨Go.Proofs.Tryz.t4,by kernel_rfl,rfl,rfl,_,rfl,rfl,rfl,rfl⟩
 ·exact λ_=>⟨Go.Proofs.Tryz.t5,by kernel_rfl,rfl,rfl,_,rfl,rfl,rfl,rfl⟩
 ·exact λ_=>⟨Go.Proofs.Tryz.t6,by kernel_rfl,rfl,rfl,_,rfl,rfl,rfl,rfl⟩
 ·exact λ_=>⟨Go.Proofs.Tryz.t7,by kernel_rfl,rfl,rfl,_,rfl,rfl,rfl,rfl⟩
 ·exact λ_=>⟨Go.Proofs.Tryz.t8,by kernel_rfl,rfl,rfl,_,rfl,rfl,rfl,rfl⟩
 ·exact λ_=>⟨Go.Proofs.Tryz.t9,by kernel_rfl,rfl,rfl,_,rfl,rfl,rfl,rfl⟩
 ·exact λ_=>⟨Go.Proofs.Tryz.t10,by kernel_rfl,rfl,rfl,_,rfl,rfl,rfl,rfl⟩
 ·exact λ_=>⟨Go.Proofs.Tryz.t11,by kernel_rfl,rfl,rfl,_,rfl,rfl,rfl,rfl⟩
 ·exact λ_=>⟨Go.Proofs.Tryz.t12,by kernel_rfl,rfl,rfl,_,rfl,rfl,rfl,rfl⟩
 ·exact λ_=>⟨Go.Proofs.Tryz.t13,by kernel_rfl,rfl,rfl,_,rfl,rfl,rfl,rfl⟩
 ·exact λ_=>⟨Go.Proofs.Tryz.t14,by kernel_rfl,rfl,rfl,_,rfl,rfl,rfl,rfl⟩
 ·exact λ_=>⟨Go.Proofs.Tryz.t15,by kernel_rfl,rfl,rfl,_,rfl,rfl,rfl,rfl⟩
 ·exact λ_=>⟨Go.Proofs.Tryz.t16,by kernel_rfl,rfl,rfl,_,rfl,rfl,rfl,rfl⟩
 ·exact λ_=>⟨Go.Proofs.Tryz.t17,by kernel_rfl,rfl,rfl,_,rfl,rfl,rfl,rfl⟩
 ·exact λ_=>⟨Go.Proofs.Tryz.t18,by kernel_rfl,rfl,rfl,_,rfl,rfl,rfl,rfl⟩
 ·exact λ_=>⟨Go.Proofs.Tryz.t19,by kernel_rfl,rfl,rfl,_,rfl,rfl,rfl,rfl⟩
 ·exact λ_=>⟨Go.Proofs.Tryz.t21,by kernel_rfl,rfl,rfl,_,rfl,rfl,rfl,rfl⟩
 ·exact λ_=>⟨Go.Proofs.Tryz.t24,by kernel_rfl,rfl,rfl,_,rfl,rfl,rfl,rfl⟩
 ·exact λ_=>⟨Go.Proofs.Tryz.t25,by kernel_rfl,rfl,rfl,_,rfl,rfl,rfl,rfl⟩
 ·exact λ_=>⟨Go.Proofs.Tryz.t26,by kernel_rfl,rfl,rfl,_,rfl,rfl,rfl,rfl⟩
 ·exact λ_=>⟨Go.Proofs.Tryz.t28,by kernel_rfl,rfl,rfl,_,rfl,rfl,rfl,rfl⟩
 ·exact λ_=>⟨Go.Proofs.Tryz.t29,by kernel_rfl,rfl,rfl,_,rfl,rfl,rfl,rfl⟩
 ·exact λ_=>⟨Go.Proofs.Tryz.t30,by kernel_rfl,rfl,rfl,_,rfl,rfl,rfl,rfl⟩
 ·exact λ_=>⟨Go.Proofs.Tryz.t31,by kernel_rfl,rfl,rfl,_,rfl,rfl,rfl,rfl⟩
 ·exact λ_=>⟨Go.Proofs.Tryz.t32,by kernel_rfl,rfl,rfl,_,rfl,rfl,rfl,rfl⟩
 ·exact λ_=>⟨Go.Proofs.Tryz.t33,by kernel_rfl,rfl,rfl,_,rfl,rfl,rfl,rfl⟩
 ·exact λ_=>⟨Go.Proofs.Tryz.t34,by kernel_rfl,rfl,rfl,_,rfl,rfl,rfl,rfl⟩
 ·exact λ_=>⟨Go.Proofs.Tryz.t35,by kernel_rfl,rfl,rfl,_,rfl,rfl,rfl,rfl⟩
 ·exact λ_=>⟨Go.Proofs.Tryz.t36,by kernel_rfl,rfl,rfl,_,rfl,rfl,rfl,rfl⟩
 ·exact λ_=>⟨Go.Proofs.Tryz.t37,by kernel_rfl,rfl,rfl,_,rfl,rfl,rfl,rfl⟩
 ·exact λ_=>⟨Go.Proofs.Tryz.t40,by kernel_rfl,rfl,rfl,_,rfl,rfl,rfl,rfl⟩
 ·exact λ_=>⟨Go.Proofs.Tryz.t41,by kernel_rfl,rfl,rfl,_,rfl,rfl,rfl,rfl⟩
 ·exact λ_=>⟨Go.Proofs.Tryz.t42,by kernel_rfl,rfl,rfl,_,rfl,rfl,rfl,rfl⟩
 ·exact λ_=>⟨Go.Proofs.Tryz.t43,by kernel_rfl,rfl,rfl,_,rfl,rfl,rfl,rfl⟩
 ·exact λ_=>⟨Go.Proofs.Tryz.t44,by kernel_rfl,rfl,rfl,_,rfl,rfl,rfl,rfl⟩
 ·exact λ_=>⟨Go.Proofs.Tryz.t45,by kernel_rfl,rfl,rfl,_,rfl,rfl,rfl,rfl⟩
 ·exact λ_=>⟨Go.Proofs.Tryz.t46,by kernel_rfl,rfl,rfl,_,rfl,rfl,rfl,rfl⟩
 ·exact λ_=>⟨Go.Proofs.Tryz.t47,by kernel_rfl,rfl,rfl,_,rfl,rfl,rfl,rfl⟩
 ·exact λ_=>⟨Go.Proofs.Tryz.t48,by kernel_rfl,rfl,rfl,_,rfl,rfl,rfl,rfl⟩
 ·exact λ_=>⟨Go.Proofs.Tryz.t49,by kernel_rfl,rfl,rfl,_,rfl,rfl,rfl,rfl⟩
 ·exact λ_=>⟨Go.Proofs.Tryz.t50,by kernel_rfl,rfl,rfl,_,rfl,rfl,rfl,rfl⟩
 ·exact λ_=>⟨Go.Proofs.Tryz.t51,by kernel_rfl,rfl,rfl,_,rfl,rfl,rfl,rfl⟩
 ·exact λ_=>⟨Go.Proofs.Tryz.t65,by kernel_rfl,rfl,rfl,_,rfl,rfl,rfl,rfl⟩
 ·exact λ_=>⟨Go.Proofs.Tryz.t66,by kernel_rfl,rfl,rfl,_,rfl,rfl,rfl,rfl⟩
 ·exact λ_=>⟨Go.Proofs.Tryz.t70,by kernel_rfl,rfl,rfl,_,rfl,rfl,rfl,rfl⟩
 ·exact λ_=>⟨Go.Proofs.Tryz.t74,by kernel_rfl,rfl,rfl,_,rfl,rfl,rfl,rfl⟩
 ·exact λ_=>⟨Go.Proofs.Tryz.t75,by kernel_rfl,rfl,rfl,_,rfl,rfl,rfl,rfl⟩
 ·exact λ_=>⟨Go.Proofs.Tryz.t76,by kernel_rfl,rfl,rfl,_,rfl,rfl,rfl,rfl⟩
 ·exact λ_=>⟨Go.Proofs.Tryz.t78,by kernel_rfl,rfl,rfl,_,rfl,rfl,rfl,rfl⟩
 ·exact λ_=>⟨Go.Proofs.Tryz.t79,by kernel_rfl,rfl,rfl,_,rfl,rfl,rfl,rfl⟩
 ·exact λ_=>⟨Go.Proofs.Tryz.t92,by kernel_rfl,rfl,rfl,_,rfl,rfl,rfl,rfl⟩
 ·exact λ_=>⟨Go.Proofs.Tryz.t93,by kernel_rfl,rfl,rfl,_,rfl,rfl,rfl,rfl⟩
 ·exact λ_=>⟨Go.Proofs.Tryz.t94,by kernel_rfl,rfl,rfl,_,rfl,rfl,rfl,rfl⟩
 ·exact λ_=>⟨Go.Proofs.Tryz.t95,by kernel_rfl,rfl,rfl,_,rfl,rfl,rfl,rfl⟩
 ·exact λ_=>⟨Go.Proofs.Tryz.t96,by kernel_rfl,rfl,rfl,_,rfl,rfl,rfl,rfl⟩
 ·exact λ_=>⟨Go.Proofs.Tryz.t97,by kernel_rfl,rfl,rfl,_,rfl,rfl,rfl,rfl⟩
 ·exact λ_=>⟨Go.Proofs.Tryz.t100,by kernel_rfl,rfl,rfl,_,rfl,rfl,rfl,rfl⟩
 ·exact λ_=>⟨Go.Proofs.Tryz.t101,by kernel_rfl,rfl,rfl,_,rfl,rfl,rfl,rfl⟩
 ·exact λ_=>⟨Go.Proofs.Tryz.t102,by kernel_rfl,rfl,rfl,_,rfl,rfl,rfl,rfl⟩
 ·exact λ_=>⟨Go.Proofs.Tryz.t103,by kernel_rfl,rfl,rfl,_,rfl,rfl,rfl,rfl⟩
 ·exact λ_=>⟨Go.Proofs.Tryz.t104,by kernel_rfl,rfl,rfl,_,rfl,rfl,rfl,rfl⟩
 ·exact λ_=>⟨Go.Proofs.Tryz.t117,by kernel_rfl,rfl,rfl,_,rfl,rfl,rfl,rfl⟩
 ·exact λ_=>⟨Go.Proofs.Tryz.t118,by kernel_rfl,rfl,rfl,_,rfl,rfl,rfl,rfl⟩
 ·exact λ_=>⟨Go.Proofs.Tryz.t119,by kernel_rfl,rfl,rfl,_,rfl,rfl,rfl,rfl⟩
 ·exact λ_=>⟨Go.Proofs.Tryz.t120,by kernel_rfl,rfl,rfl,_,rfl,rfl,rfl,rfl⟩
 ·exact λ_=>⟨Go.Proofs.Tryz.t121,by kernel_rfl,rfl,rfl,_,rfl,rfl,rfl,rfl⟩
 ·exact λ_=>⟨Go.Proofs.Tryz.t122,by kernel_rfl,rfl,rfl,_,rfl,rfl,rfl,rfl⟩
 ·exact λ_=>⟨Go.Proofs.Tryz.t137,by kernel_rfl,rfl,rfl,_,rfl,rfl,rfl,rfl⟩
 ·exact λ_=>⟨Go.Proofs.Tryz.t138,by kernel_rfl,rfl,rfl,_,rfl,rfl,rfl,rfl⟩
 ·exact λ_=>⟨Go.Proofs.Tryz.t144,by kernel_rfl,rfl,rfl,_,rfl,rfl,rfl,rfl⟩
 ·exact λ_=>⟨Go.Proofs.Tryz.t145,by kernel_rfl,rfl,rfl,_,rfl,rfl,rfl,rfl⟩
 ·exact λ_=>⟨Go.Proofs.Tryz.t146,by kernel_rfl,rfl,rfl,_,rfl,rfl,rfl,rfl⟩
 ·exact λ_=>⟨Go.Proofs.Tryz.t148,by kernel_rfl,rfl,rfl,_,rfl,rfl,rfl,rfl⟩
 ·exact λ_=>⟨Go.Proofs.Tryz.t157,by kernel_rfl,rfl,rfl,_,rfl,rfl,rfl,rfl⟩
 ·exact λ_=>⟨Go.Proofs.Tryz.t161,by kernel_rfl,rfl,rfl,_,rfl,rfl,rfl,rfl⟩
 ·exact λ_=>⟨Go.Proofs.Tryz.t162,by kernel_rfl,rfl,rfl,_,rfl,rfl,rfl,rfl⟩
 ·exact λ_=>⟨Go.Proofs.Tryz.t163,by kernel_rfl,rfl,rfl,_,rfl,rfl,rfl,rfl⟩
 ·exact λ_=>⟨Go.Proofs.Tryz.t183,by kernel_rfl,rfl,rfl,_,rfl,rfl,rfl,rfl⟩
 ·exact λ_=>⟨Go.Proofs.Tryz.t187,by kernel_rfl,rfl,rfl,_,rfl,rfl,rfl,rfl⟩
 ·exact λ_=>⟨Go.Proofs.Tryz.t198,by kernel_rfl,rfl,rfl,_,rfl,rfl,rfl,rfl⟩
 ·exact λ_=>⟨Go.Proofs.Tryz.t199,by kernel_rfl,rfl,rfl,_,rfl,rfl,rfl,rfl⟩
 ·exact λ_=>⟨Go.Proofs.Tryz.t200,by kernel_rfl,rfl,rfl,_,rfl,rfl,rfl,rfl⟩
 ·exact λ_=>⟨Go.Proofs.Tryz.t203,by kernel_rfl,rfl,rfl,_,rfl,rfl,rfl,rfl⟩
 ·exact λ_=>⟨Go.Proofs.Tryz.t214,by kernel_rfl,rfl,rfl,_,rfl,rfl,rfl,rfl⟩
 ·exact λ_=>⟨Go.Proofs.Tryz.t215,by kernel_rfl,rfl,rfl,_,rfl,rfl,rfl,rfl⟩
 ·exact λ_=>⟨Go.Proofs.Tryz.t226,by kernel_rfl,rfl,rfl,_,rfl,rfl,rfl,rfl⟩
 ·exact λ_=>⟨Go.Proofs.Tryz.t227,by kernel_rfl,rfl,rfl,_,rfl,rfl,rfl,rfl⟩
 ·exact λ_=>⟨Go.Proofs.Tryz.t228,by kernel_rfl,rfl,rfl,_,rfl,rfl,rfl,rfl⟩
 ·exact λ_=>⟨Go.Proofs.Tryz.t244,by kernel_rfl,rfl,rfl,_,rfl,rfl,rfl,rfl⟩
 ·exact λ_=>⟨Go.Proofs.Tryz.t263,by kernel_rfl,rfl,rfl,_,rfl,rfl,rfl,rfl⟩
 ·exact λ_=>⟨Go.Proofs.Tryz.t270,by kernel_rfl,rfl,rfl,_,rfl,rfl,rfl,rfl⟩
 ·exact λ_=>⟨Go.Proofs.Tryz.t272,by kernel_rfl,rfl,rfl,_,rfl,rfl,rfl,rfl⟩
 ·exact λ_=>⟨Go.Proofs.Tryz.t286,by kernel_rfl,rfl,rfl,_,rfl,rfl,rfl,rfl⟩
 ·exact λ_=>⟨Go.Proofs.Tryz.t290,by kernel_rfl,rfl,rfl,_,rfl,rfl,rfl,rfl⟩
 ·exact λ_=>⟨Go.Proofs.Tryz.t296,by kernel_rfl,rfl,rfl,_,rfl,rfl,rfl,rfl⟩
 ·exact λ_=>⟨Go.Proofs.Tryz.t300,by kernel_rfl,rfl,rfl,_,rfl,rfl,rfl,rfl⟩
 ·exact λ_=>⟨Go.Proofs.Tryz.t301,by kernel_rfl,rfl,rfl,_,rfl,rfl,rfl,rfl⟩
 ·exact λ_=>⟨Go.Proofs.Tryz.t308,by kernel_rfl,rfl,rfl,_,rfl,rfl,rfl,rfl⟩
 ·exact λ_=>⟨Go.Proofs.Tryz.t309,by kernel_rfl,rfl,rfl,_,rfl,rfl,rfl,rfl⟩
 ·exact λ_=>⟨Go.Proofs.Tryz.t314,by kernel_rfl,rfl,rfl,_,rfl,rfl,rfl,rfl⟩
 ·exact λ_=>⟨Go.Proofs.Tryz.t315,by kernel_rfl,rfl,rfl,_,rfl,rfl,rfl,rfl⟩
 ·exact λ_=>⟨Go.Proofs.Tryz.t317,by kernel_rfl,rfl,rfl,_,rfl,rfl,rfl,rfl⟩
 ·exact λ_=>⟨Go.Proofs.Tryz.t318,by kernel_rfl,rfl,rfl,_,rfl,rfl,rfl,rfl⟩
 ·exact λ_=>⟨Go.Proofs.Tryz.t319,by kernel_rfl,rfl,rfl,_,rfl,rfl,rfl,rfl⟩
 ·exact λh=>absurd rfl h
theorem CA:∀t,tFl t=[]\/∃F:Array Field,(Go.Proofs.Tryz.prog).underlying t=some (.struct F)/\F.toList.map (λf=>(f.type,f.offset))=tFl t/\∀x,x∈tFl t->An x.1≠0:=by
 intro t;unfold tFl;split
 ·exact .inr ⟨_,Go.Proofs.Tryz.underlying7,rfl,by decide⟩
 ·exact .inr ⟨_,Go.Proofs.Tryz.underlying8,rfl,by decide⟩
 ·exact .inr ⟨_,Go.Proofs.Tryz.underlying13,rfl,by decide⟩
 ·exact .inr ⟨_,Go.Proofs.Tryz.underlying14,rfl,by decide⟩
 ·exact .inr ⟨_,Go.Proofs.Tryz.underlying18,rfl,by decide⟩
 ·exact .inr ⟨_,Go.Proofs.Tryz.underlying19,rfl,by decide⟩
 ·exact .inr ⟨_,Go.Proofs.Tryz.underlying25,rfl,by decide⟩
 ·exact .inr ⟨_,Go.Proofs.Tryz.underlying26,rfl,by decide⟩
 ·exact .inr ⟨_,Go.Proofs.Tryz.underlying31,rfl,by decide⟩
 ·exact .inr ⟨_,Go.Proofs.Tryz.underlying32,rfl,by decide⟩
 ·exact .inr ⟨_,Go.Proofs.Tryz.underlying34,rfl,by decide⟩
 ·exact .inr ⟨_,Go.Proofs.Tryz.underlying35,rfl,by decide⟩
 ·exact .inr ⟨_,Go.Proofs.Tryz.underlying41,rfl,by decide⟩
 ·exact .inr ⟨_,Go.Proofs.Tryz.underlying42,rfl,by decide⟩
 ·exact .inr ⟨_,Go.Proofs.Tryz.underlying46,rfl,by decide⟩
 ·exact .inr ⟨_,Go.Proofs.Tryz.underlying47,rfl,by decide⟩
 ·exact .inr ⟨_,Go.Proofs.Tryz.underlying48,rfl,by decide⟩
 ·exact .inr ⟨_,Go.Proofs.Tryz.underlying49,rfl,by decide⟩
 ·exact .inr ⟨_,Go.Proofs.Tryz.underlying50,rfl,by decide⟩
 ·exact .inr ⟨_,Go.Proofs.Tryz.underlying51,rfl,by decide⟩
 ·exact .inr ⟨_,Go.Proofs.Tryz.underlying75,rfl,by decide⟩
 ·exact .inr ⟨_,Go.Proofs.Tryz.underlying76,rfl,by decide⟩
 ·exact .inr ⟨_,Go.Proofs.Tryz.underlying78,rfl,by decide⟩
 ·exact .inr ⟨_,Go.Proofs.Tryz.underlying79,rfl,by decide⟩
 ·exact .inr ⟨_,Go.Proofs.Tryz.underlying93,rfl,by decide⟩
 ·exact .inr ⟨_,Go.Proofs.Tryz.underlying94,rfl,by decide⟩
 ·exact .inr ⟨_,Go.Proofs.Tryz.underlying95,rfl,by decide⟩
 ·exact .inr ⟨_,Go.Proofs.Tryz.underlying96,rfl,by decide⟩
 ·exact .inr ⟨_,Go.Proofs.Tryz.underlying102,rfl,by decide⟩
 ·exact .inr ⟨_,Go.Proofs.Tryz.underlying103,rfl,by decide⟩
 ·exact .inr ⟨_,Go.Proofs.Tryz.underlying117,rfl,by decide⟩
 ·exact .inr ⟨_,Go.Proofs.Tryz.underlying118,rfl,by decide⟩
 ·exact .inr ⟨_,Go.Proofs.Tryz.underlying120,rfl,by decide⟩
 ·exact .inr ⟨_,Go.Proofs.Tryz.underlying121,rfl,by decide⟩
 ·exact .inr ⟨_,Go.Proofs.Tryz.underlying137,rfl,by decide⟩
 ·exact .inr ⟨_,Go.Proofs.Tryz.underlying138,rfl,by decide⟩
 ·exact .inr ⟨_,Go.Proofs.Tryz.underlying145,rfl,by decide⟩
 ·exact .inr ⟨_,Go.Proofs.Tryz.underlying146,rfl,by decide⟩
 ·exact .inr ⟨_,Go.Proofs.Tryz.underlying161,rfl,by decide⟩
 ·exact .inr ⟨_,Go.Proofs.Tryz.underlying162,rfl,by decide⟩
 ·exact .inr ⟨_,Go.Proofs.Tryz.underlying199,rfl,by decide⟩
 ·exact .inr ⟨_,Go.Proofs.Tryz.underlying200,rfl,by decide⟩
 ·exact .inr ⟨_,Go.Proofs.Tryz.underlying214,rfl,by decide⟩
 ·exact .inr ⟨_,Go.Proofs.Tryz.underlying215,rfl,by decide⟩
 ·exact .inr ⟨_,Go.Proofs.Tryz.underlying227,rfl,by decide⟩
 ·exact .inr ⟨_,Go.Proofs.Tryz.underlying228,rfl,by decide⟩
 ·exact .inr ⟨_,Go.Proofs.Tryz.underlying300,rfl,by decide⟩
 ·exact .inr ⟨_,Go.Proofs.Tryz.underlying301,rfl,by decide⟩
 ·exact .inr ⟨_,Go.Proofs.Tryz.underlying308,rfl,by decide⟩
 ·exact .inr ⟨_,Go.Proofs.Tryz.underlying309,rfl,by decide⟩
 ·exact .inl rfl
theorem Ao:∀t j ft off,IQ t j=some (ft,off)->∃F f,(Go.Proofs.Tryz.prog).underlying t=some (.struct F)/\F[j]? = some f/\f.type=ft/\f.offset=off/\An ft≠0:=by
 intro t j ft off h;unfold IQ at h
 rcases CA t with e | ⟨F,h1,h2,h3⟩
 ·rw[e] at h;simp at h
 ·have h4:=h3 _ (Wn h);rw[←h2,Wm,YF] at h;cases e:F[j]? with
  | none=>rw[e] at h;cases h
  | some f=>
   rw[e] at h;simp only[Option.map_some,Option.some.injEq,Prod.mk.injEq] at h;exact ⟨F,f,h1,e,h.1,h.2,h4⟩
theorem tK:TabOK Go.Proofs.Tryz.prog tab:=⟨Aq,Ap,Ao⟩
end Go.Eng
namespace Go.Eng
section
variable {P:Program} {T:Tab} {C:Ctx} {σ σ':St} {Ret:St->Prop}
def go (T:Tab):Nat->List It->St->Option (Prop×List It×St)
 | 0,k,σ=>some (True,k,σ)
 | n+1,k,σ=>
  match k with
  | .code (.seq x y)::k=>go T n (.code x::.code y::k) σ
  | .code (.block id c)::k=>go T n (.code c::.blk id::k) σ
  | .code .skip::k=>go T n k σ
  | .blk _::k=>go T n k σ
  | .code (.exit id)::k=>
   match exitTo id k with
   | some k'=>go T n k' σ
   | none=>none
  | .code (.region _ ops false)::k=>go T n (.ops ops ops.toList::k) σ
  | .ops all l::k=>
   match ja T all l σ with
   | some (p,[],σ')=>(go T n k σ').map λr=>(p/\r.1,r.2)
   | some (p,o::l',σ')=>some (p,.ops all (o::l')::k,σ')
   | none=>none
  | k=>some (True,k,σ)
theorem mR (hT:TabOK P T):∀(n:Nat) {k k':List It} {σ σ':St} {p:Prop},go T n k σ=some (p,k',σ')->p->Cw P C Ret k' σ'->Cw P C Ret k σ
 | 0,k,k',σ,σ',p,h,_,hk=>by
  simp only[go,Option.some.injEq,Prod.mk.injEq] at h;obtain ⟨_,rfl,rfl⟩:=h;exact hk
 | n+1,k,k',σ,σ',p,h,hp,hk=>by
  unfold go at h;split at h
  ·exact oQ (mR hT n h hp hk)
  ·exact wx (mR hT n h hp hk)
  ·exact AP (mR hT n h hp hk)
  ·exact C8 (mR hT n h hp hk)
  ·split at h
   ·rename_i k1 he;exact AN he (mR hT n h hp hk)
   ·cases h
  ·exact tG (mR hT n h hp hk)
  ·rename_i all l k2;split at h
   ·rename_i q σ1 hr;cases e:go T n k2 σ1 with
    | none=>rw[e] at h;cases h
    | some r=>
     obtain ⟨r1,r2,r3⟩:=r;simp only[e,Option.map_some,Option.some.injEq,Prod.mk.injEq] at h;obtain ⟨rfl,rfl,rfl⟩:=h;exact Db hT hr hp.1 (iI (mR hT n e hp.2 hk))
   ·rename_i q o l' σ1 hr;simp only[Option.some.injEq,Prod.mk.injEq] at h;obtain ⟨rfl,rfl,rfl⟩:=h;exact Db hT hr hp hk
   ·cases h
  ·simp only[Option.some.injEq,Prod.mk.injEq] at h;obtain ⟨_,rfl,rfl⟩:=h;exact hk
end
end Go.Eng
