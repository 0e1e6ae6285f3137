/- Texts of this claim, part 4: EngL, Tab, EngN. No condition. -/
import Derived.Test.YtdcmhdkpfllnlaaGreatDoorXC3
import Derived.Test.YtdcmhdkpfllnlaaGreatDoorProg
import Derived.KernelRfl
set_option maxRecDepth 10000
set_option maxHeartbeats 4000000
set_option linter.unusedSimpArgs false
set_option linter.unusedVariables false
namespace Go.Eng
section
variable {P:Program} {T:Tab} {C:Ctx} {σ σ':St}
def aI (P:Program) (f:FuncId):Prop:=∃fn,P.funcs[f]? = some fn/\(fn.name == "runtime.NumGoroutine")=false/\fn.body.isSome=true
mutual
def AV.scalar:AV->Bool
 | .int .. | .bool _ | .str _ | .nilp | .nili | .ifc | .nils | .nilm=>true
 | .tup vs=>my vs
 | .agg vs=>my vs
 | _=>false
def my:List AV->Bool
 | []=>true
 | x::r=>x.scalar&&my r
end
theorem jd {x:AV}:∀{l:List AV} {j:Nat},my l=true->l[j]? = some x->x.scalar=true
 | [],j,_,h=>by simp at h
 | y::r,j,hl,h=>by
  simp only[my,Bool.and_eq_true] at hl;cases j with
  | zero=>simp only[List.getElem?_cons_zero,Option.some.injEq] at h;subst h;exact hl.1
  | succ j=>exact jd hl.2 u6
theorem RdP.scalar {S S':Nat->Prop} {w w':World} {v:Value} {x:AV} (h:RdP S w v x) (hx:x.scalar=true):RdP S' w' v x:=by
 induction h with
 | int k n=>exact .int k n
 | bool b=>exact .bool b
 | str s l h=>exact .str s l h
 | nilp=>exact .nilp
 | nili=>exact .nili
 | ifc t p=>exact .ifc t p
 | nils=>exact .nils
 | nilm=>exact .nilm
 | agg cs cells hl hr ih=>exact .agg cs cells hl (λj x hj=>ih j x hj (jd WG hj))
 | sl=>cases hx
 | rp=>cases hx
 | rm=>cases hx
 | fn=>cases hx
theorem Rd.scalar {μ μ':Nat->Option Nat} {S S':Nat->Prop} {w w':World} {v:Value} {x:AV} (h:Rd μ S w v x) (hx:x.scalar=true):Rd μ' S' w' v x:=by
 induction h with
 | any=>cases hx
 | pure h=>exact .pure (h.scalar hx)
 | agg cs cells hl hr ih=>exact .agg cs cells hl (λj x hj=>ih j x hj (jd WG hj))
 | tup cs cells hl hr ih=>exact .tup cs cells hl (λj x hj=>ih j x hj (jd WG hj))
 | fn=>cases hx
 | ptr=>cases hx
 | osl=>cases hx
 | mp=>cases hx
 | exs=>cases hx
 | cndT=>cases hx
 | cndF=>cases hx
theorem Rd.free {μ μ':Nat->Option Nat} {S:Nat->Prop} {w:World} {v:Value} {x:AV} (h:Rd μ S w v x) (hx:refs x=[]):Rd μ' S w v x:=by
 induction h with
 | any v=>exact .any v
 | pure h=>exact .pure h
 | agg cs cells hl hr ih=>exact .agg cs cells hl (λj x hj=>ih j x hj (refsL_nil Z0 hj))
 | tup cs cells hl hr ih=>exact .tup cs cells hl (λj x hj=>ih j x hj (refsL_nil Z0 hj))
 | fn f vals caps hl hr ih=>exact .fn f vals caps hl (λj x hj=>ih j x hj (refsL_nil Z0 hj))
 | ptr=>simp[refs] at hx
 | osl=>simp[refs] at hx
 | mp=>simp[refs] at hx
 | exs=>simp[refs] at hx
 | cndT v x h ih=>exact .cndT v x (ih Z0)
 | cndF x=>exact .cndF x
where
 refsL_nil {x:AV}:∀{l:List AV} {j:Nat},aA l=[]->l[j]? = some x->refs x=[]
  | [],j,_,h=>by simp at h
  | y::r,j,hl,h=>by
   simp only[aA,List.append_eq_nil_iff] at hl;cases j with
   | zero=>simp only[List.getElem?_cons_zero,Option.some.injEq] at h;subst h;exact hl.1
   | succ j=>exact refsL_nil hl.2 u6
theorem Inv.called {μ:Nat->Option Nat} {S S':Nat->Prop} {a:Act} {w w':World} (hi:Inv C μ S σ a w) (hf:Frm (λ_=>False) w w')
  (hS:∀b,S' b->b<w'.heap.size/\(S b\/w.heap.size≤b)):Inv C μ (λb=>S b\/S' b) σ a w':=by
 have hb:∀b,b<w.heap.size->w'.heap[b]? = w.heap[b]?:=λb h=>hf.block b h (λh=>h)
 have hw:aJ S w w':=λb h=>hb b (hi.sb b h).1
 have hz:∀i g,μ i=some g->ah w' g=ah w g:=λi g h=>aN (hb g (hi.dom i g h).2.2.2)
 refine ⟨hi.size,hi.defers,λt x hx=>(hi.tm t x hx).mono hw (λ_ h=>.inl h) (λ_ _ h=>h) hz,λi b h=>(hi.hp i b h).mono hw (λ_ h=>.inl h) (λ_ _ h=>h) hz (λh=>h) (λg h=>hb g (hi.dom i g h).2.2.2),λi g h=>?_,hi.inj,hi.frm.step (λ_=>False) hf (λ_ h=>h.elim),λb h=>?_⟩
 ·obtain ⟨h1,h2,h3,h4⟩:=hi.dom i g h;refine ⟨h1,h2,?_,Nat.lt_of_lt_of_le h4 hf.size⟩;rintro (h | h)
  ·exact h3 h
  ·rcases (hS g h).2 with h | h
   ·exact h3 h
   ·omega
 ·rcases h with h | h
  ·exact ⟨Nat.lt_of_lt_of_le (hi.sb b h).1 hf.size,(hi.sb b h).2⟩
  ·refine ⟨(hS b h).1,?_⟩
   rcases (hS b h).2 with h | h
   ·exact (hi.sb b h).2
   ·have:=hi.frm.size;exact .inr (.inr z8)
def av (σ:St) (c:Operand) (args:List Operand):Option (Prop×FuncId×List AV):=
 match evS σ c with
 | (p,.fn f caps)=>some (p/\(ek σ args).1,f,(ek σ args).2++caps)
 | _=>none
theorem jy {o:Oper} {c:Operand} {args:Array Operand} {ats:Array TypeId} {μ:Nat->Option Nat} {S:Nat->Prop} {a:Act} {w:World} (hi:Inv C μ S σ a w)
  (ho:o.op=.call { callee:=.value c,args,argTypes:=ats }) {p:Prop} {f:FuncId} {xs:List AV} (h:av σ c args.toList=some (p,f,xs)) (hp:p) (hc:aI P f) :
  ∃vs:List Value,vs.length=xs.length/\(∀(j:Nat) x,xs[j]? = some x->Rd μ S w (vs.getD j undef) x)/\(execOp a.eval o).run P w=.ok (.enter f vs.toArray) w:=by
 unfold av at h;split at h
 ·rename_i q f' caps hev;simp only[Option.some.injEq,Prod.mk.injEq] at h;obtain ⟨rfl,rfl,rfl⟩:=h;have hv:=hi.evS c (by rw[hev];exact hp.1);rw[hev] at hv;obtain ⟨vals,he,hl,hr⟩:=hv.yS;obtain ⟨fn,hf,hn,hb⟩:=hc;refine ⟨args.toList.map a.eval++vals.toList,by simp[ly,hl],λj x hx=>?_,?_⟩
  ·by_cases hj:j<args.toList.length
   ·rw[List.getElem?_append_left (by rw[ly];exact hj)] at hx;obtain ⟨o',ho',hr'⟩:=hi.ek _ hp.2 j x hx;rw[List.getD_eq_getElem?_getD,List.getElem?_append_left QD,List.getElem?_map,ho'];exact hr'
   ·rw[List.getElem?_append_right (by rw[ly];omega),ly] at hx;have:=hr _ x hx;rw[List.getD_eq_getElem?_getD,List.getElem?_append_right QD];rw[Array.getD_eq_getD_getElem?,←Array.getElem?_toList] at this;rw[List.length_map];exact this
  ·have hb':¬fn.body=none:=by intro e;rw[e] at hb;cases hb
   have hn':¬fn.name = "runtime.NumGoroutine":=by simpa using hn
   have e1:(#[]++args.map a.eval++vals)=(args.toList.map a.eval++vals.toList).toArray:=by
    apply Array.ext';simp
   simp[execOp,ho,resolve,he,Deferred.ofValue,invoke,callFunc,hf,hn',hb']
 ·cases h
theorem mA {o:Oper} {c:Operand} {args:Array Operand} {ats:Array TypeId} (ho:o.op=.call { callee:=.value c,args,argTypes:=ats }) {p:Prop} {f:FuncId} {xs:List AV}
  (h:av σ c args.toList=some (p,f,xs)) (hp:p) (hc:aI P f) (hx:aA xs=[]) {r:AV} (hr:refs r=[]) (hf:ae P f xs [] λr' _=>r'=r):eS P C o σ (σ.put o.dst r):=by
 intro a w K Q ⟨μ,S,hi⟩ hK;obtain ⟨vs,h1,h2,h3⟩:=jy hi ho h hp hc;unfold Oper.wp;rw[h3];refine (hf S (λ_=>none) w vs h1 (λj x hj=>(h2 j x hj).free (Rd.free.refsL_nil hx hj)) ⟨λid b h=>by simp[aa] at h,λid g h=>Qm,λid id' g h=>Qm,hi.gok.nil⟩ (λb hb=>(hi.sb b hb).1)).mono ?_;rintro e w' ⟨v,r',H',μ',S',rfl,rfl,k1,k2,k3,k4,k5⟩;have hfr:Frm (λ_=>False) w w':=⟨k3.os,k3.tape,k3.output,k3.size,λb hb _=>k3.block b hb WH⟩;have hi':=hi.called hfr (S':=S') (λb hb=>⟨(k5 b hb).1,by
  rcases (k5 b hb).2 with h | ⟨id,h⟩ | h
  ·exact .inl h
  ·cases h
  ·exact .inr h⟩)
 exact hK _ _ ⟨μ,_,hi'.put o.dst ((k1.mono (aJ.refl _ _) (λ_ h=>.inr h) (λ_ _ h=>h) (λ_ _ _=>rfl)).free hr)⟩
mutual
def view (h:List (Nat×Blk)):AV->Option (Prop×AV)
 | .osl id s off len=>
  match aa h id with
  | some (.cells _ s' rows)=>if s=s' then some (off+len≤rows.length/\(rows.all λrow=>row.all AV.aX)=true,.sl ((rows.drop off).take len)) else none
  | _=>none
 | .ptr id s row off=>
  match aa h id with
  | some (.cells _ s' rows)=>if s=s' then some (row<rows.length/\((rows.getD row []).all AV.aX)=true,.rp (rows.getD row []) off) else none
  | _=>none
 | .mp id=>
  match aa h id with
  | some (.map kvs)=>some (True,.rm kvs)
  | _=>none
 | .fn f caps=>(fg h caps).map λr=>(r.1,.fn f r.2)
 | .agg cells=>(fg h cells).map λr=>(r.1,.agg r.2)
 | .any=>none
 | .tup _=>none
 | .cnd ..=>none
 | .exs ..=>none
 | x=>some (True,x)
def fg (h:List (Nat×Blk)):List AV->Option (Prop×List AV)
 | []=>some (True,[])
 | x::r=>
  match view h x,fg h r with
  | some (p,y),some (q,l)=>some (p/\q,y::l)
  | _,_=>none
end
theorem AO {l:List (List AV)} {i:Nat} (h:i<l.length):l[i]? = some (l.getD i []):=by
 rw[List.getD_eq_getElem?_getD,List.getElem?_eq_getElem h];rfl
mutual
theorem Ad {μ:Nat->Option Nat} {S:Nat->Prop} {a:Act} {w:World} (hi:Inv C μ S σ a w):∀(x:AV) {p:Prop} {y:AV} {v:Value},view σ.hp x=some (p,y)->p->Rd μ S w v x ->
  RdP (λb=>S b\/∃id,μ id=some b) w v y
 | .osl id s off len,p,y,v,h,hp,hv=>by
  simp only[view] at h;split at h
  ·rename_i e s' rows hb;split at h
   ·rename_i hs;subst hs;simp only[Option.some.injEq,Prod.mk.injEq] at h;obtain ⟨rfl,rfl⟩:=h;obtain ⟨hle,hpure⟩:=hp;obtain ⟨A,cap,rfl,hc,hor⟩:=hv.bI;have hl:((rows.drop off).take len).length=len:=by simp;omega
    rcases hor with ⟨rfl,h2⟩ | ⟨g,e',n,h1,rfl,h3,h4⟩
    ·exact .sl A 0 cap _ s 0 0 (λ_ _=>undef) hl hc (λrow h=>by simp at h) (λh=>by omega) (λi j h=>by omega) (λi row h=>by simp at h)
    ·rcases hi.hp id _ hb with ⟨_,k2⟩ | ⟨g',c,k1,k2,k3,k4,k5⟩
     ·rw[k2] at h1;cases h1
     ·rw[k1] at h1;injection h1 with h1;subst h1
      refine .sl _ len cap _ s g' (off*s) (λi j=>c.getD ((off+i)*s+j) undef) hl hc (λrow h=>k4 row (List.mem_of_mem_drop (List.mem_of_mem_take h))) (λ_=>⟨rfl,.inr ⟨id,k1⟩⟩) (λi j hi' hj=>?_) (λi row h j x hx=>?_)
      ·have hlt:(off+i)*s+s≤rows.length*s:=by
        have:=Nat.mul_le_mul_right s (show off+i+1≤rows.length by omega)
        rwa [Nat.succ_mul] at this
       rw[show off*s+(i*s+j)=(off+i)*s+j from by rw[Nat.add_mul];omega,cell_of k2,Array.getD_eq_getD_getElem?,Array.getElem?_eq_getElem z8];rfl
      ·rw[List.getElem?_take] at h;split at h
       ·rw[List.getElem?_drop] at h;exact ((k5 _ row h j x hx).toP (List.all_eq_true.1 (List.all_eq_true.1 hpure row (List.mem_of_getElem? h)) x (List.mem_of_getElem? hx))).mono (aJ.refl _ _) (λ_ h=>.inl h)
       ·cases h
   ·cases h
  ·cases h
 | .ptr id s row off,p,y,v,h,hp,hv=>by
  simp only[view] at h;split at h
  ·rename_i e s' rows hb;split at h
   ·rename_i hs;subst hs;simp only[Option.some.injEq,Prod.mk.injEq] at h;obtain ⟨rfl,rfl⟩:=h;obtain ⟨hrow,hpure⟩:=hp;obtain ⟨g,hg,rfl⟩:=hv.hZ
    rcases hi.hp id _ hb with ⟨rfl,_⟩ | ⟨g',c,k1,k2,k3,k4,k5⟩
    ·simp at hrow
    ·rw[k1] at hg;injection hg with hg;subst hg
     have hr:=AO hrow;have hlen:=k4 _ (List.mem_of_getElem? hr);have hlt:=gV (size:=s) hr;refine .rp g' (row*s) off _ (λj=>c.getD (row*s+j) undef) (.inr ⟨id,k1⟩) (λj hj=>?_) (λj x hx=>?_)
     ·rw[cell_of k2,Array.getD_eq_getD_getElem?,Array.getElem?_eq_getElem z8];rfl
     ·exact ((k5 _ _ hr j x hx).toP (List.all_eq_true.1 hpure x (List.mem_of_getElem? hx))).mono (aJ.refl _ _) (λ_ h=>.inl h)
   ·cases h
  ·cases h
 | .mp id,p,y,v,h,hp,hv=>by
  simp only[view] at h;split at h
  ·rename_i kvs hb;simp only[Option.some.injEq,Prod.mk.injEq] at h;obtain ⟨_,rfl⟩:=h;obtain ⟨g,hg,rfl⟩:=hv.rB;obtain ⟨g',es,clk,vals,k1,k2,k3,k4⟩:=hi.hp id _ hb;rw[k1] at hg;injection hg with hg;subst hg
   exact .rm g' es clk kvs vals (.inr ⟨id,k1⟩) k2 k3 (λq hq=>(k4 q hq).mono (aJ.refl _ _) (λ_ h=>.inl h))
  ·cases h
 | .fn f caps,p,y,v,h,hp,hv=>by
  simp only[view] at h;cases e:fg σ.hp caps with
  | none=>rw[e] at h;cases h
  | some q=>
   obtain ⟨q1,l⟩:=q;simp only[e,Option.map_some,Option.some.injEq,Prod.mk.injEq] at h;obtain ⟨rfl,rfl⟩:=h;obtain ⟨vals,rfl,hl,hr⟩:=hv.yS;obtain ⟨h1,h2⟩:=jg hi caps e hp (λj=>vals.getD j undef) hr;exact .fn f vals l (by rw[hl,h1]) h2
 | .agg cells,p,y,v,h,hp,hv=>by
  simp only[view] at h;cases e:fg σ.hp cells with
  | none=>rw[e] at h;cases h
  | some q=>
   obtain ⟨q1,l⟩:=q;simp only[e,Option.map_some,Option.some.injEq,Prod.mk.injEq] at h;obtain ⟨rfl,rfl⟩:=h;obtain ⟨cs,rfl,hl,hr⟩:=hv.mi;obtain ⟨h1,h2⟩:=jg hi cells e hp (λj=>cs.getD j undef) hr;exact .agg cs l (by rw[hl,h1]) h2
 | .any,p,y,v,h,_,_=>by simp[view] at h
 | .tup _,p,y,v,h,_,_=>by simp[view] at h
 | .cnd ..,p,y,v,h,_,_=>by simp[view] at h
 | .exs ..,p,y,v,h,_,_=>by simp[view] at h
 | .int k n,p,y,v,h,_,hv=>by simp only[view,Option.some.injEq,Prod.mk.injEq] at h;obtain ⟨_,rfl⟩:=h;exact (hv.toP rfl).mono (aJ.refl _ _) (λ_ h=>.inl h)
 | .bool b,p,y,v,h,_,hv=>by simp only[view,Option.some.injEq,Prod.mk.injEq] at h;obtain ⟨_,rfl⟩:=h;exact (hv.toP rfl).mono (aJ.refl _ _) (λ_ h=>.inl h)
 | .str s,p,y,v,h,_,hv=>by simp only[view,Option.some.injEq,Prod.mk.injEq] at h;obtain ⟨_,rfl⟩:=h;exact (hv.toP rfl).mono (aJ.refl _ _) (λ_ h=>.inl h)
 | .nilp,p,y,v,h,_,hv=>by simp only[view,Option.some.injEq,Prod.mk.injEq] at h;obtain ⟨_,rfl⟩:=h;exact (hv.toP rfl).mono (aJ.refl _ _) (λ_ h=>.inl h)
 | .nili,p,y,v,h,_,hv=>by simp only[view,Option.some.injEq,Prod.mk.injEq] at h;obtain ⟨_,rfl⟩:=h;exact (hv.toP rfl).mono (aJ.refl _ _) (λ_ h=>.inl h)
 | .ifc,p,y,v,h,_,hv=>by simp only[view,Option.some.injEq,Prod.mk.injEq] at h;obtain ⟨_,rfl⟩:=h;exact (hv.toP rfl).mono (aJ.refl _ _) (λ_ h=>.inl h)
 | .nils,p,y,v,h,_,hv=>by simp only[view,Option.some.injEq,Prod.mk.injEq] at h;obtain ⟨_,rfl⟩:=h;exact (hv.toP rfl).mono (aJ.refl _ _) (λ_ h=>.inl h)
 | .nilm,p,y,v,h,_,hv=>by simp only[view,Option.some.injEq,Prod.mk.injEq] at h;obtain ⟨_,rfl⟩:=h;exact (hv.toP rfl).mono (aJ.refl _ _) (λ_ h=>.inl h)
 | .sl rows,p,y,v,h,_,hv=>by simp only[view,Option.some.injEq,Prod.mk.injEq] at h;obtain ⟨_,rfl⟩:=h;exact (hv.toP rfl).mono (aJ.refl _ _) (λ_ h=>.inl h)
 | .rp c o,p,y,v,h,_,hv=>by simp only[view,Option.some.injEq,Prod.mk.injEq] at h;obtain ⟨_,rfl⟩:=h;exact (hv.toP rfl).mono (aJ.refl _ _) (λ_ h=>.inl h)
 | .rm kvs,p,y,v,h,_,hv=>by simp only[view,Option.some.injEq,Prod.mk.injEq] at h;obtain ⟨_,rfl⟩:=h;exact (hv.toP rfl).mono (aJ.refl _ _) (λ_ h=>.inl h)
theorem jg {μ:Nat->Option Nat} {S:Nat->Prop} {a:Act} {w:World} (hi:Inv C μ S σ a w):∀(l:List AV) {p:Prop} {l':List AV},fg σ.hp l=some (p,l')->p->∀(f:Nat->Value),
  (∀(j:Nat) x,l[j]? = some x->Rd μ S w (f j) x)->l.length=l'.length/\∀(j:Nat) x,l'[j]? = some x->RdP (λb=>S b\/∃id,μ id=some b) w (f j) x
 | [],p,l',h,_,f,_=>by
  simp only[fg,Option.some.injEq,Prod.mk.injEq] at h;obtain ⟨_,rfl⟩:=h;exact ⟨rfl,λj x hx=>by simp at hx⟩
 | x::r,p,l',h,hp,f,hf=>by
  simp only[fg] at h;split at h
  ·rename_i p1 y q l hx hr;simp only[Option.some.injEq,Prod.mk.injEq] at h;obtain ⟨rfl,rfl⟩:=h;have h1:=Ad hi x hx hp.1 (hf 0 x rfl);obtain ⟨h2,h3⟩:=jg hi r hr hp.2 (λj=>f (j+1)) (λj z hz=>hf (j+1) z Qx);refine ⟨by simp[h2],λj z hz=>?_⟩;cases j with
   | zero=>simp only[List.getElem?_cons_zero,Option.some.injEq] at hz;subst hz;exact h1
   | succ j=>exact h3 j z Qx
  ·cases h
end
theorem ug {o:Oper} {c:Operand} {args:Array Operand} {ats:Array TypeId} (ho:o.op=.call { callee:=.value c,args,argTypes:=ats }) {p q:Prop} {f:FuncId} {xs ys:List AV}
  (h:av σ c args.toList=some (p,f,xs)) (hp:p) (hv:fg σ.hp xs=some (q,ys)) (hq:q) (hc:aI P f) {r:AV} (hr:r.scalar=true) (hf:ae P f ys [] λr' _=>r'=r) :
  eS P C o σ (σ.put o.dst r):=by
 intro a w K Q ⟨μ,S,hi⟩ hK;obtain ⟨vs,h1,h2,h3⟩:=jy hi ho h hp hc;obtain ⟨g1,g2⟩:=jg hi xs hv hq (λj=>vs.getD j undef) h2;unfold Oper.wp;rw[h3];refine (hf (λb=>S b\/∃id,μ id=some b) (λ_=>none) w vs (by rw[h1,g1]) (λj x hj=>.pure (g2 j x hj)) ⟨λid b h=>by simp[aa] at h,λid g h=>Qm,λid id' g h=>Qm,hi.gok.nil⟩ (λb hb=>by
  rcases hb with hb | ⟨id,hb⟩
  ·exact (hi.sb b hb).1
  ·exact (hi.dom id b hb).2.2.2)).mono ?_
 rintro e w' ⟨v,r',H',μ',S',rfl,rfl,k1,k2,k3,k4,k5⟩;have hfr:Frm (λ_=>False) w w':=⟨k3.os,k3.tape,k3.output,k3.size,λb hb _=>k3.block b hb WH⟩;have hi':=hi.called hfr (S':=λ_=>False) (λb hb=>hb.elim);exact hK _ _ ⟨μ,_,hi'.put o.dst (k1.scalar hr)⟩
end
end Go.Eng
namespace Go.Eng
def Gb:TypeId->KD
 | 2=>(.int .i64)
 | 3=>(.int .i64)
 | 4=>.bool
 | 5=>(.int .u8)
 | 6=>(.int .u8)
 | 7=>.struct
 | 8=>.struct
 | 9=>.str
 | 10=>.str
 | 11=>.str
 | 12=>(.int .u64)
 | 13=>.struct
 | 14=>.struct
 | 15=>(.ptr 281)
 | 16=>(.ptr 284)
 | 17=>(.ptr 293)
 | 18=>.struct
 | 19=>.struct
 | 21=>(.int .i32)
 | 22=>(.sl 3)
 | 23=>(.sl 26)
 | 24=>(.sl 5)
 | 25=>.struct
 | 26=>.struct
 | 27=>(.sl 62)
 | 28=>(.sl 120)
 | 29=>.struct
 | 30=>.struct
 | 31=>(.sl 40)
 | 32=>.struct
 | 33=>.struct
 | 36=>(.sl 67)
 | 37=>(.sl 116)
 | 38=>(.sl 76)
 | 39=>.struct
 | 40=>.struct
 | 42=>(.int .i64)
 | 43=>.struct
 | 44=>.struct
 | 52=>(.sl 9)
 | 55=>(.map 3 62)
 | 56=>(.map 3 62)
 | 60=>(.sl 101)
 | 61=>.struct
 | 62=>.struct
 | 66=>.struct
 | 67=>.struct
 | 75=>.struct
 | 76=>.struct
 | 77=>(.ptr 80)
 | 79=>.struct
 | 80=>.struct
 | 82=>(.ptr 26)
 | 87=>.struct
 | 88=>.struct
 | 95=>(.ptr 97)
 | 96=>.struct
 | 97=>.struct
 | 100=>.struct
 | 101=>.struct
 | 115=>.struct
 | 116=>.struct
 | 119=>.struct
 | 120=>.struct
 | 123=>(.ptr 62)
 | 136=>(.ptr 88)
 | 141=>(.sl 145)
 | 144=>.struct
 | 145=>.struct
 | 167=>(.ptr 169)
 | 168=>.struct
 | 169=>.struct
 | 172=>(.ptr 116)
 | 184=>(.sl 88)
 | 200=>.struct
 | 201=>.struct
 | 204=>(.int .u64)
 | 220=>(.ptr 224)
 | 221=>(.map 3 3)
 | 222=>(.map 3 4)
 | 223=>.struct
 | 224=>.struct
 | 232=>(.int .i64)
 | 239=>(.int .u32)
 | 241=>(.int .u64)
 | 256=>(.int .u64)
 | 260=>(.ptr 3)
 | 267=>(.ptr 256)
 | 272=>.struct
 | 273=>.struct
 | 280=>.struct
 | 281=>.struct
 | 286=>(.int .u8)
 | 287=>(.int .u8)
 | 289=>(.ptr 5)
 | 290=>(.int .i32)
 | 291=>(.int .i32)
 | _=>.other
def zU:TypeId->Nat
 | 2=>1
 | 3=>1
 | 4=>1
 | 5=>1
 | 6=>1
 | 7=>4
 | 8=>4
 | 9=>1
 | 10=>1
 | 11=>1
 | 12=>1
 | 13=>2
 | 14=>2
 | 15=>1
 | 16=>1
 | 17=>1
 | 18=>1
 | 19=>1
 | 21=>1
 | 22=>1
 | 23=>1
 | 24=>1
 | 25=>6
 | 26=>6
 | 27=>1
 | 28=>1
 | 29=>3
 | 30=>3
 | 31=>1
 | 32=>4
 | 33=>4
 | 36=>1
 | 37=>1
 | 38=>1
 | 39=>10
 | 40=>10
 | 42=>1
 | 43=>4
 | 44=>4
 | 52=>1
 | 55=>1
 | 56=>1
 | 60=>1
 | 61=>5
 | 62=>5
 | 66=>8
 | 67=>8
 | 75=>2
 | 76=>2
 | 77=>1
 | 79=>13
 | 80=>13
 | 82=>1
 | 87=>7
 | 88=>7
 | 95=>1
 | 96=>13
 | 97=>13
 | 100=>2
 | 101=>2
 | 115=>9
 | 116=>9
 | 119=>8
 | 120=>8
 | 123=>1
 | 136=>1
 | 141=>1
 | 144=>2
 | 145=>2
 | 167=>1
 | 168=>9
 | 169=>9
 | 172=>1
 | 184=>1
 | 200=>4
 | 201=>4
 | 204=>1
 | 220=>1
 | 221=>1
 | 222=>1
 | 223=>6
 | 224=>6
 | 232=>1
 | 239=>1
 | 241=>1
 | 256=>1
 | 260=>1
 | 267=>1
 | 272=>2
 | 273=>2
 | 280=>4
 | 281=>4
 | 286=>1
 | 287=>1
 | 289=>1
 | 290=>1
 | 291=>1
 | _=>0
def Iv:TypeId->Nat
 | 2=>8
 | 3=>8
 | 4=>1
 | 5=>1
 | 6=>1
 | 7=>24
 | 8=>24
 | 9=>16
 | 10=>16
 | 11=>16
 | 12=>8
 | 13=>24
 | 14=>24
 | 15=>8
 | 16=>8
 | 17=>8
 | 18=>8
 | 19=>8
 | 21=>4
 | 22=>24
 | 23=>24
 | 24=>24
 | 25=>80
 | 26=>80
 | 27=>24
 | 28=>24
 | 29=>56
 | 30=>56
 | 31=>24
 | 32=>80
 | 33=>80
 | 36=>24
 | 37=>24
 | 38=>24
 | 39=>144
 | 40=>144
 | 42=>8
 | 43=>48
 | 44=>48
 | 52=>24
 | 55=>8
 | 56=>8
 | 60=>24
 | 61=>72
 | 62=>72
 | 66=>96
 | 67=>96
 | 75=>24
 | 76=>24
 | 77=>8
 | 79=>200
 | 80=>200
 | 82=>8
 | 87=>88
 | 88=>88
 | 95=>8
 | 96=>200
 | 97=>200
 | 100=>24
 | 101=>24
 | 115=>104
 | 116=>104
 | 119=>96
 | 120=>96
 | 123=>8
 | 136=>8
 | 141=>24
 | 144=>16
 | 145=>16
 | 167=>8
 | 168=>120
 | 169=>120
 | 172=>8
 | 184=>24
 | 200=>64
 | 201=>64
 | 204=>8
 | 220=>8
 | 221=>8
 | 222=>8
 | 223=>64
 | 224=>64
 | 232=>8
 | 239=>4
 | 241=>8
 | 256=>8
 | 260=>8
 | 267=>8
 | 272=>2
 | 273=>2
 | 280=>40
 | 281=>40
 | 286=>1
 | 287=>1
 | 289=>8
 | 290=>4
 | 291=>4
 | _=>0
def Iw:TypeId->List AV
 | 2=>[.int .i64 0]
 | 3=>[.int .i64 0]
 | 4=>[.bool false]
 | 5=>[.int .u8 0]
 | 6=>[.int .u8 0]
 | 7=>[.int .i64 0,.int .i64 0,.bool false,.int .u8 0]
 | 8=>[.int .i64 0,.int .i64 0,.bool false,.int .u8 0]
 | 9=>[.str []]
 | 10=>[.str []]
 | 11=>[.str []]
 | 12=>[.int .u64 0]
 | 13=>[.str [],.int .u64 0]
 | 14=>[.str [],.int .u64 0]
 | 15=>[.nilp]
 | 16=>[.nilp]
 | 17=>[.nilp]
 | 18=>[.nilp]
 | 19=>[.nilp]
 | 21=>[.int .i32 0]
 | 22=>[.nils]
 | 23=>[.nils]
 | 24=>[.nils]
 | 25=>[.int .i64 0,.int .i64 0,.int .i64 0,.str [],.str [],.nils]
 | 26=>[.int .i64 0,.int .i64 0,.int .i64 0,.str [],.str [],.nils]
 | 27=>[.nils]
 | 28=>[.nils]
 | 29=>[.nils,.int .i64 0,.nils]
 | 30=>[.nils,.int .i64 0,.nils]
 | 31=>[.nils]
 | 32=>[.nils,.int .i64 0,.nils,.nils]
 | 33=>[.nils,.int .i64 0,.nils,.nils]
 | 36=>[.nils]
 | 37=>[.nils]
 | 38=>[.nils]
 | 39=>[.int .i64 0,.bool false,.int .i64 0,.nils,.nils,.nils,.nils,.int .i64 0,.int .i64 0,.int .i64 0]
 | 40=>[.int .i64 0,.bool false,.int .i64 0,.nils,.nils,.nils,.nils,.int .i64 0,.int .i64 0,.int .i64 0]
 | 42=>[.int .i64 0]
 | 43=>[.int .i64 0,.int .i64 0,.int .i64 0,.nils]
 | 44=>[.int .i64 0,.int .i64 0,.int .i64 0,.nils]
 | 52=>[.nils]
 | 55=>[.nilm]
 | 56=>[.nilm]
 | 60=>[.nils]
 | 61=>[.int .i64 0,.bool false,.nils,.nils,.int .i64 0]
 | 62=>[.int .i64 0,.bool false,.nils,.nils,.int .i64 0]
 | 66=>[.int .i64 0,.bool false,.nils,.nils,.int .i64 0,.bool false,.int .i64 0,.int .i64 0]
 | 67=>[.int .i64 0,.bool false,.nils,.nils,.int .i64 0,.bool false,.int .i64 0,.int .i64 0]
 | 75=>[.str [],.int .i64 0]
 | 76=>[.str [],.int .i64 0]
 | 77=>[.nilp]
 | 79=>[.int .i64 0,.bool false,.int .i64 0,.nils,.nils,.nils,.nils,.int .i64 0,.int .i64 0,.int .i64 0,.nils,.int .i64 0,.nils]
 | 80=>[.int .i64 0,.bool false,.int .i64 0,.nils,.nils,.nils,.nils,.int .i64 0,.int .i64 0,.int .i64 0,.nils,.int .i64 0,.nils]
 | 82=>[.nilp]
 | 87=>[.int .i64 0,.int .i64 0,.int .i64 0,.str [],.int .i64 0,.str [],.nils]
 | 88=>[.int .i64 0,.int .i64 0,.int .i64 0,.str [],.int .i64 0,.str [],.nils]
 | 95=>[.nilp]
 | 96=>[.int .i64 0,.bool false,.int .i64 0,.nils,.nils,.nils,.nils,.int .i64 0,.int .i64 0,.int .i64 0,.nils,.int .i64 0,.nils]
 | 97=>[.int .i64 0,.bool false,.int .i64 0,.nils,.nils,.nils,.nils,.int .i64 0,.int .i64 0,.int .i64 0,.nils,.int .i64 0,.nils]
 | 100=>[.str [],.int .i64 0]
 | 101=>[.str [],.int .i64 0]
 | 115=>[.int .i64 0,.int .i64 0,.int .i64 0,.str [],.int .i64 0,.str [],.nils,.int .i64 0,.int .i64 0]
 | 116=>[.int .i64 0,.int .i64 0,.int .i64 0,.str [],.int .i64 0,.str [],.nils,.int .i64 0,.int .i64 0]
 | 119=>[.int .i64 0,.int .i64 0,.int .i64 0,.int .i64 0,.str [],.int .i64 0,.str [],.nils]
 | 120=>[.int .i64 0,.int .i64 0,.int .i64 0,.int .i64 0,.str [],.int .i64 0,.str [],.nils]
 | 123=>[.nilp]
 | 136=>[.nilp]
 | 141=>[.nils]
 | 144=>[.int .i64 0,.int .i64 0]
 | 145=>[.int .i64 0,.int .i64 0]
 | 167=>[.nilp]
 | 168=>[.nils,.int .i64 0,.int .i64 0,.int .i64 0,.str [],.int .i64 0,.str [],.nils,.int .i64 0]
 | 169=>[.nils,.int .i64 0,.int .i64 0,.int .i64 0,.str [],.int .i64 0,.str [],.nils,.int .i64 0]
 | 172=>[.nilp]
 | 184=>[.nils]
 | 200=>[.nils,.nils,.nilm,.int .i64 0]
 | 201=>[.nils,.nils,.nilm,.int .i64 0]
 | 204=>[.int .u64 0]
 | 220=>[.nilp]
 | 221=>[.nilm]
 | 222=>[.nilm]
 | 223=>[.nils,.int .i64 0,.int .i64 0,.nilm,.nilm,.nilm]
 | 224=>[.nils,.int .i64 0,.int .i64 0,.nilm,.nilm,.nilm]
 | 232=>[.int .i64 0]
 | 239=>[.int .u32 0]
 | 241=>[.int .u64 0]
 | 256=>[.int .u64 0]
 | 260=>[.nilp]
 | 267=>[.nilp]
 | 272=>[.int .u8 0,.int .u8 0]
 | 273=>[.int .u8 0,.int .u8 0]
 | 280=>[.nilp,.nilp,.nilp,.str []]
 | 281=>[.nilp,.nilp,.nilp,.str []]
 | 286=>[.int .u8 0]
 | 287=>[.int .u8 0]
 | 289=>[.nilp]
 | 290=>[.int .i32 0]
 | 291=>[.int .i32 0]
 | _=>[]
def tFl:TypeId->List (TypeId×Nat)
 | 7=>[(2,0),(3,1),(4,2),(6,3)]
 | 8=>[(2,0),(3,1),(4,2),(6,3)]
 | 13=>[(9,0),(12,1)]
 | 14=>[(9,0),(12,1)]
 | 18=>[(17,0)]
 | 19=>[(17,0)]
 | 25=>[(3,0),(3,1),(3,2),(9,3),(9,4),(24,5)]
 | 26=>[(3,0),(3,1),(3,2),(9,3),(9,4),(24,5)]
 | 29=>[(27,0),(3,1),(28,2)]
 | 30=>[(27,0),(3,1),(28,2)]
 | 32=>[(30,0),(31,3)]
 | 33=>[(30,0),(31,3)]
 | 39=>[(3,0),(4,1),(3,2),(36,3),(37,4),(37,5),(38,6),(3,7),(3,8),(3,9)]
 | 40=>[(3,0),(4,1),(3,2),(36,3),(37,4),(37,5),(38,6),(3,7),(3,8),(3,9)]
 | 43=>[(42,0),(3,1),(3,2),(24,3)]
 | 44=>[(42,0),(3,1),(3,2),(24,3)]
 | 61=>[(3,0),(4,1),(24,2),(60,3),(3,4)]
 | 62=>[(3,0),(4,1),(24,2),(60,3),(3,4)]
 | 66=>[(62,0),(4,5),(3,6),(3,7)]
 | 67=>[(62,0),(4,5),(3,6),(3,7)]
 | 75=>[(9,0),(3,1)]
 | 76=>[(9,0),(3,1)]
 | 79=>[(40,0),(30,10)]
 | 80=>[(40,0),(30,10)]
 | 87=>[(3,0),(3,1),(3,2),(9,3),(3,4),(9,5),(24,6)]
 | 88=>[(3,0),(3,1),(3,2),(9,3),(3,4),(9,5),(24,6)]
 | 96=>[(40,0),(30,10)]
 | 97=>[(40,0),(30,10)]
 | 100=>[(9,0),(3,1)]
 | 101=>[(9,0),(3,1)]
 | 115=>[(88,0),(3,7),(3,8)]
 | 116=>[(88,0),(3,7),(3,8)]
 | 119=>[(3,0),(88,1)]
 | 120=>[(3,0),(88,1)]
 | 144=>[(42,0),(3,1)]
 | 145=>[(42,0),(3,1)]
 | 168=>[(27,0),(88,1),(3,8)]
 | 169=>[(27,0),(88,1),(3,8)]
 | 200=>[(141,0),(184,1),(56,2),(3,3)]
 | 201=>[(141,0),(184,1),(56,2),(3,3)]
 | 223=>[(27,0),(3,1),(3,2),(221,3),(222,4),(222,5)]
 | 224=>[(27,0),(3,1),(3,2),(221,3),(222,4),(222,5)]
 | 272=>[(5,0),(5,1)]
 | 273=>[(5,0),(5,1)]
 | 280=>[(17,0),(17,1),(17,2),(9,3)]
 | 281=>[(17,0),(17,1),(17,2),(9,3)]
 | _=>[]
def Ib (t:TypeId) (j:Nat):Option (TypeId×Nat):=(tFl t)[j]?
def tab:Tab:=⟨Gb,zU,Iv,Iw,Ib⟩
@[go_sem] theorem tu2:tab.und 2=(.int .i64):=rfl
@[go_sem] theorem ts2:tab.siz 2=1:=rfl
@[go_sem] theorem tz2:tab.zer 2=[.int .i64 0]:=rfl
@[go_sem] theorem tu3:tab.und 3=(.int .i64):=rfl
@[go_sem] theorem ts3:tab.siz 3=1:=rfl
@[go_sem] theorem tb3:tab.byt 3=8:=rfl
@[go_sem] theorem tz3:tab.zer 3=[.int .i64 0]:=rfl
@[go_sem] theorem tu4:tab.und 4=.bool:=rfl
@[go_sem] theorem ts4:tab.siz 4=1:=rfl
@[go_sem] theorem tz4:tab.zer 4=[.bool false]:=rfl
@[go_sem] theorem tu5:tab.und 5=(.int .u8):=rfl
@[go_sem] theorem ts5:tab.siz 5=1:=rfl
@[go_sem] theorem tb5:tab.byt 5=1:=rfl
@[go_sem] theorem tz5:tab.zer 5=[.int .u8 0]:=rfl
@[go_sem] theorem tu6:tab.und 6=(.int .u8):=rfl
@[go_sem] theorem ts6:tab.siz 6=1:=rfl
@[go_sem] theorem tz6:tab.zer 6=[.int .u8 0]:=rfl
@[go_sem] theorem tu7:tab.und 7=.struct:=rfl
@[go_sem] theorem ts7:tab.siz 7=4:=rfl
@[go_sem] theorem tz7:tab.zer 7=[.int .i64 0,.int .i64 0,.bool false,.int .u8 0]:=rfl
@[go_sem] theorem Hf:tab.fld 7 0=some (2,0):=rfl
@[go_sem] theorem Hg:tab.fld 7 1=some (3,1):=rfl
@[go_sem] theorem Hh:tab.fld 7 2=some (4,2):=rfl
@[go_sem] theorem Hi:tab.fld 7 3=some (6,3):=rfl
@[go_sem] theorem tu8:tab.und 8=.struct:=rfl
@[go_sem] theorem ts8:tab.siz 8=4:=rfl
@[go_sem] theorem tz8:tab.zer 8=[.int .i64 0,.int .i64 0,.bool false,.int .u8 0]:=rfl
@[go_sem] theorem Hj:tab.fld 8 0=some (2,0):=rfl
@[go_sem] theorem Hk:tab.fld 8 1=some (3,1):=rfl
@[go_sem] theorem Hl:tab.fld 8 2=some (4,2):=rfl
@[go_sem] theorem Hm:tab.fld 8 3=some (6,3):=rfl
@[go_sem] theorem tu9:tab.und 9=.str:=rfl
@[go_sem] theorem ts9:tab.siz 9=1:=rfl
@[go_sem] theorem tb9:tab.byt 9=16:=rfl
@[go_sem] theorem tz9:tab.zer 9=[.str []]:=rfl
@[go_sem] theorem Ks:tab.und 21=(.int .i32):=rfl
@[go_sem] theorem J1:tab.siz 21=1:=rfl
@[go_sem] theorem KX:tab.zer 21=[.int .i32 0]:=rfl
@[go_sem] theorem Kt:tab.und 22=(.sl 3):=rfl
@[go_sem] theorem J2:tab.siz 22=1:=rfl
@[go_sem] theorem KY:tab.zer 22=[.nils]:=rfl
@[go_sem] theorem Ku:tab.und 23=(.sl 26):=rfl
@[go_sem] theorem J3:tab.siz 23=1:=rfl
@[go_sem] theorem KZ:tab.zer 23=[.nils]:=rfl
@[go_sem] theorem Kv:tab.und 24=(.sl 5):=rfl
@[go_sem] theorem J4:tab.siz 24=1:=rfl
@[go_sem] theorem K0:tab.zer 24=[.nils]:=rfl
@[go_sem] theorem Kw:tab.und 26=.struct:=rfl
@[go_sem] theorem J5:tab.siz 26=6:=rfl
@[go_sem] theorem JV:tab.byt 26=80:=rfl
@[go_sem] theorem K1:tab.zer 26=[.int .i64 0,.int .i64 0,.int .i64 0,.str [],.str [],.nils]:=rfl
@[go_sem] theorem Gc:tab.fld 26 0=some (3,0):=rfl
@[go_sem] theorem Gd:tab.fld 26 1=some (3,1):=rfl
@[go_sem] theorem Ge:tab.fld 26 2=some (3,2):=rfl
@[go_sem] theorem Gf:tab.fld 26 3=some (9,3):=rfl
@[go_sem] theorem Gg:tab.fld 26 4=some (9,4):=rfl
@[go_sem] theorem Gh:tab.fld 26 5=some (24,5):=rfl
@[go_sem] theorem Kx:tab.und 27=(.sl 62):=rfl
@[go_sem] theorem J6:tab.siz 27=1:=rfl
@[go_sem] theorem K3:tab.zer 27=[.nils]:=rfl
@[go_sem] theorem Ky:tab.und 28=(.sl 120):=rfl
@[go_sem] theorem J7:tab.siz 28=1:=rfl
@[go_sem] theorem K4:tab.zer 28=[.nils]:=rfl
@[go_sem] theorem Kz:tab.und 30=.struct:=rfl
@[go_sem] theorem J8:tab.siz 30=3:=rfl
@[go_sem] theorem K5:tab.zer 30=[.nils,.int .i64 0,.nils]:=rfl
@[go_sem] theorem Gi:tab.fld 30 0=some (27,0):=rfl
@[go_sem] theorem Gj:tab.fld 30 1=some (3,1):=rfl
@[go_sem] theorem Gk:tab.fld 30 2=some (28,2):=rfl
@[go_sem] theorem KB:tab.und 31=(.sl 40):=rfl
@[go_sem] theorem J9:tab.siz 31=1:=rfl
@[go_sem] theorem K6:tab.zer 31=[.nils]:=rfl
@[go_sem] theorem KC:tab.und 33=.struct:=rfl
@[go_sem] theorem J_:tab.siz 33=4:=rfl
@[go_sem] theorem K7:tab.zer 33=[.nils,.int .i64 0,.nils,.nils]:=rfl
@[go_sem] theorem Gl:tab.fld 33 0=some (30,0):=rfl
@[go_sem] theorem Gm:tab.fld 33 1=some (31,3):=rfl
@[go_sem] theorem KE:tab.und 36=(.sl 67):=rfl
@[go_sem] theorem J':tab.siz 36=1:=rfl
@[go_sem] theorem K8:tab.zer 36=[.nils]:=rfl
@[go_sem] theorem KF:tab.und 37=(.sl 116):=rfl
@[go_sem] theorem Ka:tab.siz 37=1:=rfl
@[go_sem] theorem K9:tab.zer 37=[.nils]:=rfl
@[go_sem] theorem KG:tab.und 38=(.sl 76):=rfl
@[go_sem] theorem Kb:tab.siz 38=1:=rfl
@[go_sem] theorem K_:tab.zer 38=[.nils]:=rfl
@[go_sem] theorem KH:tab.und 40=.struct:=rfl
@[go_sem] theorem Kc:tab.siz 40=10:=rfl
@[go_sem] theorem JW:tab.byt 40=144:=rfl
@[go_sem] theorem K':tab.zer 40=[.int .i64 0,.bool false,.int .i64 0,.nils,.nils,.nils,.nils,.int .i64 0,.int .i64 0,.int .i64 0]:=rfl
@[go_sem] theorem Gn:tab.fld 40 0=some (3,0):=rfl
@[go_sem] theorem Gp:tab.fld 40 1=some (4,1):=rfl
@[go_sem] theorem Gq:tab.fld 40 2=some (3,2):=rfl
@[go_sem] theorem Gr:tab.fld 40 3=some (36,3):=rfl
@[go_sem] theorem Gs:tab.fld 40 4=some (37,4):=rfl
@[go_sem] theorem Gt:tab.fld 40 5=some (37,5):=rfl
@[go_sem] theorem Gu:tab.fld 40 6=some (38,6):=rfl
@[go_sem] theorem Gv:tab.fld 40 7=some (3,7):=rfl
@[go_sem] theorem Gw:tab.fld 40 8=some (3,8):=rfl
@[go_sem] theorem Gx:tab.fld 40 9=some (3,9):=rfl
@[go_sem] theorem KI:tab.und 42=(.int .i64):=rfl
@[go_sem] theorem Kd:tab.siz 42=1:=rfl
@[go_sem] theorem Lb:tab.zer 42=[.int .i64 0]:=rfl
@[go_sem] theorem KJ:tab.und 44=.struct:=rfl
@[go_sem] theorem Ke:tab.siz 44=4:=rfl
@[go_sem] theorem Lc:tab.zer 44=[.int .i64 0,.int .i64 0,.int .i64 0,.nils]:=rfl
@[go_sem] theorem Gy:tab.fld 44 0=some (42,0):=rfl
@[go_sem] theorem Gz:tab.fld 44 1=some (3,1):=rfl
@[go_sem] theorem GA:tab.fld 44 2=some (3,2):=rfl
@[go_sem] theorem GB:tab.fld 44 3=some (24,3):=rfl
@[go_sem] theorem KK:tab.und 52=(.sl 9):=rfl
@[go_sem] theorem Kf:tab.siz 52=1:=rfl
@[go_sem] theorem Ld:tab.zer 52=[.nils]:=rfl
@[go_sem] theorem KL:tab.und 56=(.map 3 62):=rfl
@[go_sem] theorem Kg:tab.siz 56=1:=rfl
@[go_sem] theorem Lf:tab.zer 56=[.nilm]:=rfl
@[go_sem] theorem KM:tab.und 60=(.sl 101):=rfl
@[go_sem] theorem Kh:tab.siz 60=1:=rfl
@[go_sem] theorem Lg:tab.zer 60=[.nils]:=rfl
@[go_sem] theorem KN:tab.und 62=.struct:=rfl
@[go_sem] theorem Ki:tab.siz 62=5:=rfl
@[go_sem] theorem JX:tab.byt 62=72:=rfl
@[go_sem] theorem Lh:tab.zer 62=[.int .i64 0,.bool false,.nils,.nils,.int .i64 0]:=rfl
@[go_sem] theorem GC:tab.fld 62 0=some (3,0):=rfl
@[go_sem] theorem GD:tab.fld 62 1=some (4,1):=rfl
@[go_sem] theorem GF:tab.fld 62 2=some (24,2):=rfl
@[go_sem] theorem GG:tab.fld 62 3=some (60,3):=rfl
@[go_sem] theorem GH:tab.fld 62 4=some (3,4):=rfl
@[go_sem] theorem KO:tab.und 67=.struct:=rfl
@[go_sem] theorem Kj:tab.siz 67=8:=rfl
@[go_sem] theorem JY:tab.byt 67=96:=rfl
@[go_sem] theorem Li:tab.zer 67=[.int .i64 0,.bool false,.nils,.nils,.int .i64 0,.bool false,.int .i64 0,.int .i64 0]:=rfl
@[go_sem] theorem GI:tab.fld 67 0=some (62,0):=rfl
@[go_sem] theorem GJ:tab.fld 67 1=some (4,5):=rfl
@[go_sem] theorem GK:tab.fld 67 2=some (3,6):=rfl
@[go_sem] theorem GL:tab.fld 67 3=some (3,7):=rfl
@[go_sem] theorem KP:tab.und 76=.struct:=rfl
@[go_sem] theorem Kk:tab.siz 76=2:=rfl
@[go_sem] theorem JZ:tab.byt 76=24:=rfl
@[go_sem] theorem Lj:tab.zer 76=[.str [],.int .i64 0]:=rfl
@[go_sem] theorem GM:tab.fld 76 0=some (9,0):=rfl
@[go_sem] theorem GN:tab.fld 76 1=some (3,1):=rfl
@[go_sem] theorem KQ:tab.und 77=(.ptr 80):=rfl
@[go_sem] theorem Kl:tab.siz 77=1:=rfl
@[go_sem] theorem Lk:tab.zer 77=[.nilp]:=rfl
@[go_sem] theorem KR:tab.und 80=.struct:=rfl
@[go_sem] theorem Km:tab.siz 80=13:=rfl
@[go_sem] theorem Ll:tab.zer 80=[.int .i64 0,.bool false,.int .i64 0,.nils,.nils,.nils,.nils,.int .i64 0,.int .i64 0,.int .i64 0,.nils,.int .i64 0,.nils]:=rfl
@[go_sem] theorem GO:tab.fld 80 0=some (40,0):=rfl
@[go_sem] theorem GP:tab.fld 80 1=some (30,10):=rfl
@[go_sem] theorem KS:tab.und 82=(.ptr 26):=rfl
@[go_sem] theorem Kn:tab.siz 82=1:=rfl
@[go_sem] theorem Lm:tab.zer 82=[.nilp]:=rfl
@[go_sem] theorem KT:tab.und 88=.struct:=rfl
@[go_sem] theorem Ko:tab.siz 88=7:=rfl
@[go_sem] theorem J0:tab.byt 88=88:=rfl
@[go_sem] theorem Ln:tab.zer 88=[.int .i64 0,.int .i64 0,.int .i64 0,.str [],.int .i64 0,.str [],.nils]:=rfl
@[go_sem] theorem GQ:tab.fld 88 0=some (3,0):=rfl
@[go_sem] theorem GR:tab.fld 88 1=some (3,1):=rfl
@[go_sem] theorem GS:tab.fld 88 2=some (3,2):=rfl
@[go_sem] theorem GU:tab.fld 88 3=some (9,3):=rfl
@[go_sem] theorem GV:tab.fld 88 4=some (3,4):=rfl
@[go_sem] theorem GW:tab.fld 88 5=some (9,5):=rfl
@[go_sem] theorem GX:tab.fld 88 6=some (24,6):=rfl
@[go_sem] theorem KU:tab.und 95=(.ptr 97):=rfl
@[go_sem] theorem Kq:tab.siz 95=1:=rfl
@[go_sem] theorem Lo:tab.zer 95=[.nilp]:=rfl
@[go_sem] theorem KV:tab.und 97=.struct:=rfl
@[go_sem] theorem Kr:tab.siz 97=13:=rfl
@[go_sem] theorem Lp:tab.zer 97=[.int .i64 0,.bool false,.int .i64 0,.nils,.nils,.nils,.nils,.int .i64 0,.int .i64 0,.int .i64 0,.nils,.int .i64 0,.nils]:=rfl
@[go_sem] theorem GY:tab.fld 97 0=some (40,0):=rfl
@[go_sem] theorem GZ:tab.fld 97 1=some (30,10):=rfl
@[go_sem] theorem I9:tab.und 101=.struct:=rfl
@[go_sem] theorem IJ:tab.siz 101=2:=rfl
@[go_sem] theorem IF:tab.byt 101=24:=rfl
@[go_sem] theorem Jv:tab.zer 101=[.str [],.int .i64 0]:=rfl
@[go_sem] theorem En:tab.fld 101 0=some (9,0):=rfl
@[go_sem] theorem Eo:tab.fld 101 1=some (3,1):=rfl
@[go_sem] theorem I_:tab.und 116=.struct:=rfl
@[go_sem] theorem IK:tab.siz 116=9:=rfl
@[go_sem] theorem IG:tab.byt 116=104:=rfl
@[go_sem] theorem Jw:tab.zer 116=[.int .i64 0,.int .i64 0,.int .i64 0,.str [],.int .i64 0,.str [],.nils,.int .i64 0,.int .i64 0]:=rfl
@[go_sem] theorem Ep:tab.fld 116 0=some (88,0):=rfl
@[go_sem] theorem Er:tab.fld 116 1=some (3,7):=rfl
@[go_sem] theorem Es:tab.fld 116 2=some (3,8):=rfl
@[go_sem] theorem I':tab.und 120=.struct:=rfl
@[go_sem] theorem IL:tab.siz 120=8:=rfl
@[go_sem] theorem IH:tab.byt 120=96:=rfl
@[go_sem] theorem Jx:tab.zer 120=[.int .i64 0,.int .i64 0,.int .i64 0,.int .i64 0,.str [],.int .i64 0,.str [],.nils]:=rfl
@[go_sem] theorem Et:tab.fld 120 0=some (3,0):=rfl
@[go_sem] theorem Eu:tab.fld 120 1=some (88,1):=rfl
@[go_sem] theorem Ja:tab.und 123=(.ptr 62):=rfl
@[go_sem] theorem IM:tab.siz 123=1:=rfl
@[go_sem] theorem Jy:tab.zer 123=[.nilp]:=rfl
@[go_sem] theorem Jb:tab.und 136=(.ptr 88):=rfl
@[go_sem] theorem IN:tab.siz 136=1:=rfl
@[go_sem] theorem Jz:tab.zer 136=[.nilp]:=rfl
@[go_sem] theorem Jc:tab.und 141=(.sl 145):=rfl
@[go_sem] theorem IP:tab.siz 141=1:=rfl
@[go_sem] theorem JA:tab.zer 141=[.nils]:=rfl
@[go_sem] theorem Jd:tab.und 145=.struct:=rfl
@[go_sem] theorem IQ:tab.siz 145=2:=rfl
@[go_sem] theorem II:tab.byt 145=16:=rfl
@[go_sem] theorem JB:tab.zer 145=[.int .i64 0,.int .i64 0]:=rfl
@[go_sem] theorem Ev:tab.fld 145 0=some (42,0):=rfl
@[go_sem] theorem Ew:tab.fld 145 1=some (3,1):=rfl
@[go_sem] theorem Je:tab.und 167=(.ptr 169):=rfl
@[go_sem] theorem IS:tab.siz 167=1:=rfl
@[go_sem] theorem JC:tab.zer 167=[.nilp]:=rfl
@[go_sem] theorem Jf:tab.und 169=.struct:=rfl
@[go_sem] theorem IT:tab.siz 169=9:=rfl
@[go_sem] theorem JD:tab.zer 169=[.nils,.int .i64 0,.int .i64 0,.int .i64 0,.str [],.int .i64 0,.str [],.nils,.int .i64 0]:=rfl
@[go_sem] theorem Ex:tab.fld 169 0=some (27,0):=rfl
@[go_sem] theorem Ey:tab.fld 169 1=some (88,1):=rfl
@[go_sem] theorem Ez:tab.fld 169 2=some (3,8):=rfl
@[go_sem] theorem Jg:tab.und 172=(.ptr 116):=rfl
@[go_sem] theorem IU:tab.siz 172=1:=rfl
@[go_sem] theorem JE:tab.zer 172=[.nilp]:=rfl
@[go_sem] theorem Jh:tab.und 184=(.sl 88):=rfl
@[go_sem] theorem IV:tab.siz 184=1:=rfl
@[go_sem] theorem JF:tab.zer 184=[.nils]:=rfl
@[go_sem] theorem Ji:tab.und 201=.struct:=rfl
@[go_sem] theorem IW:tab.siz 201=4:=rfl
@[go_sem] theorem JH:tab.zer 201=[.nils,.nils,.nilm,.int .i64 0]:=rfl
@[go_sem] theorem EA:tab.fld 201 0=some (141,0):=rfl
@[go_sem] theorem EB:tab.fld 201 1=some (184,1):=rfl
@[go_sem] theorem EC:tab.fld 201 2=some (56,2):=rfl
@[go_sem] theorem ED:tab.fld 201 3=some (3,3):=rfl
@[go_sem] theorem Jj:tab.und 204=(.int .u64):=rfl
@[go_sem] theorem IX:tab.siz 204=1:=rfl
@[go_sem] theorem JI:tab.zer 204=[.int .u64 0]:=rfl
@[go_sem] theorem Jk:tab.und 220=(.ptr 224):=rfl
@[go_sem] theorem IY:tab.siz 220=1:=rfl
@[go_sem] theorem JJ:tab.zer 220=[.nilp]:=rfl
@[go_sem] theorem Jl:tab.und 221=(.map 3 3):=rfl
@[go_sem] theorem IZ:tab.siz 221=1:=rfl
@[go_sem] theorem JK:tab.zer 221=[.nilm]:=rfl
@[go_sem] theorem Jm:tab.und 222=(.map 3 4):=rfl
@[go_sem] theorem I0:tab.siz 222=1:=rfl
@[go_sem] theorem JL:tab.zer 222=[.nilm]:=rfl
@[go_sem] theorem Jn:tab.und 224=.struct:=rfl
@[go_sem] theorem I1:tab.siz 224=6:=rfl
@[go_sem] theorem JM:tab.zer 224=[.nils,.int .i64 0,.int .i64 0,.nilm,.nilm,.nilm]:=rfl
@[go_sem] theorem EE:tab.fld 224 0=some (27,0):=rfl
@[go_sem] theorem EF:tab.fld 224 1=some (3,1):=rfl
@[go_sem] theorem EG:tab.fld 224 2=some (3,2):=rfl
@[go_sem] theorem EH:tab.fld 224 3=some (221,3):=rfl
@[go_sem] theorem EI:tab.fld 224 4=some (222,4):=rfl
@[go_sem] theorem EJ:tab.fld 224 5=some (222,5):=rfl
@[go_sem] theorem Jo:tab.und 232=(.int .i64):=rfl
@[go_sem] theorem I2:tab.siz 232=1:=rfl
@[go_sem] theorem JN:tab.zer 232=[.int .i64 0]:=rfl
@[go_sem] theorem Jp:tab.und 239=(.int .u32):=rfl
@[go_sem] theorem I3:tab.siz 239=1:=rfl
@[go_sem] theorem JO:tab.zer 239=[.int .u32 0]:=rfl
@[go_sem] theorem Jq:tab.und 241=(.int .u64):=rfl
@[go_sem] theorem I4:tab.siz 241=1:=rfl
@[go_sem] theorem JP:tab.zer 241=[.int .u64 0]:=rfl
@[go_sem] theorem Jr:tab.und 256=(.int .u64):=rfl
@[go_sem] theorem I5:tab.siz 256=1:=rfl
@[go_sem] theorem JQ:tab.zer 256=[.int .u64 0]:=rfl
@[go_sem] theorem Js:tab.und 260=(.ptr 3):=rfl
@[go_sem] theorem I6:tab.siz 260=1:=rfl
@[go_sem] theorem JR:tab.zer 260=[.nilp]:=rfl
@[go_sem] theorem Jt:tab.und 267=(.ptr 256):=rfl
@[go_sem] theorem I7:tab.siz 267=1:=rfl
@[go_sem] theorem JT:tab.zer 267=[.nilp]:=rfl
@[go_sem] theorem Ju:tab.und 273=.struct:=rfl
@[go_sem] theorem I8:tab.siz 273=2:=rfl
@[go_sem] theorem JU:tab.zer 273=[.int .u8 0,.int .u8 0]:=rfl
@[go_sem] theorem EK:tab.fld 273 0=some (5,0):=rfl
@[go_sem] theorem EL:tab.fld 273 1=some (5,1):=rfl
theorem zY:∀t,iP Go.Proofs.Tryz.prog t (Gb t):=by
 intro t;unfold Gb;split
 ·exact Go.Proofs.Tryz.underlying2
 ·exact Go.Proofs.Tryz.underlying3
 ·exact Go.Proofs.Tryz.underlying4
 ·exact Go.Proofs.Tryz.underlying5
 ·exact Go.Proofs.Tryz.underlying6
 ·exact ⟨_,Go.Proofs.Tryz.underlying7,by intro f hf;simp at hf;rcases hf with rfl | rfl | rfl | rfl<;>kernel_rfl⟩
 ·exact ⟨_,Go.Proofs.Tryz.underlying8,by intro f hf;simp at hf;rcases hf with rfl | rfl | rfl | rfl<;>kernel_rfl⟩
 ·exact Go.Proofs.Tryz.underlying9
 ·exact Go.Proofs.Tryz.underlying10
 ·exact Go.Proofs.Tryz.underlying11
 ·exact Go.Proofs.Tryz.underlying12
 ·exact ⟨_,Go.Proofs.Tryz.underlying13,by intro f hf;simp at hf;rcases hf with rfl | rfl<;>kernel_rfl⟩
 ·exact ⟨_,Go.Proofs.Tryz.underlying14,by intro f hf;simp at hf;rcases hf with rfl | rfl<;>kernel_rfl⟩
 ·exact Go.Proofs.Tryz.underlying15
 ·exact Go.Proofs.Tryz.underlying16
 ·exact Go.Proofs.Tryz.underlying17
 ·exact ⟨_,Go.Proofs.Tryz.underlying18,by intro f hf;simp at hf;rcases hf with rfl<;>kernel_rfl⟩
 ·exact ⟨_,Go.Proofs.Tryz.underlying19,by intro f hf;simp at hf;rcases hf with rfl<;>kernel_rfl⟩
 ·exact Go.Proofs.Tryz.underlying21
 ·exact Go.Proofs.Tryz.underlying22
 ·exact Go.Proofs.Tryz.underlying23
 ·exact Go.Proofs.Tryz.underlying24
 ·exact ⟨_,Go.Proofs.Tryz.underlying25,by intro f hf;simp at hf;rcases hf with rfl | rfl | rfl | rfl | rfl | rfl<;>kernel_rfl⟩
 ·exact ⟨_,Go.Proofs.Tryz.underlying26,by intro f hf;simp at hf;rcases hf with rfl | rfl | rfl | rfl | rfl | rfl<;>kernel_rfl⟩
 ·exact Go.Proofs.Tryz.underlying27
 ·exact Go.Proofs.Tryz.underlying28
 ·exact ⟨_,Go.Proofs.Tryz.underlying29,by intro f hf;simp at hf;rcases hf with rfl | rfl | rfl<;>kernel_rfl⟩
 ·exact ⟨_,Go.Proofs.Tryz.underlying30,by intro f hf;simp at hf;rcases hf with rfl | rfl | rfl<;>kernel_rfl⟩
 ·exact Go.Proofs.Tryz.underlying31
 ·exact ⟨_,Go.Proofs.Tryz.underlying32,by intro f hf;simp at hf;rcases hf with rfl | rfl<;>kernel_rfl⟩
 ·exact ⟨_,Go.Proofs.Tryz.underlying33,by intro f hf;simp at hf;rcases hf with rfl | rfl<;>kernel_rfl⟩
 ·exact Go.Proofs.Tryz.underlying36
 ·exact Go.Proofs.Tryz.underlying37
 ·exact Go.Proofs.Tryz.underlying38
 ·exact ⟨_,Go.Proofs.Tryz.underlying39,by intro f hf;simp at hf;rcases hf with rfl | rfl | rfl | rfl | rfl | rfl | rfl | rfl | rfl | rfl<;>kernel_rfl⟩
 ·exact ⟨_,Go.Proofs.Tryz.underlying40,by intro f hf;simp at hf;rcases hf with rfl | rfl | rfl | rfl | rfl | rfl | rfl | rfl | rfl | rfl<;>kernel_rfl⟩
 ·exact Go.Proofs.Tryz.underlying42
 ·exact ⟨_,Go.Proofs.Tryz.underlying43,by intro f hf;simp at hf;rcases hf with rfl | rfl | rfl | rfl<;>kernel_rfl⟩
 ·exact ⟨_,Go.Proofs.Tryz.underlying44,by intro f hf;simp at hf;rcases hf with rfl | rfl | rfl | rfl<;>kernel_rfl⟩
 ·exact Go.Proofs.Tryz.underlying52
 ·exact Go.Proofs.Tryz.underlying55
 ·exact Go.Proofs.Tryz.underlying56
 ·exact Go.Proofs.Tryz.underlying60
 ·exact ⟨_,Go.Proofs.Tryz.underlying61,by intro f hf;simp at hf;rcases hf with rfl | rfl | rfl | rfl | rfl<;>kernel_rfl⟩
 ·exact ⟨_,Go.Proofs.Tryz.underlying62,by intro f hf;simp at hf;rcases hf with rfl | rfl | rfl | rfl | rfl<;>kernel_rfl⟩
 ·exact ⟨_,Go.Proofs.Tryz.underlying66,by intro f hf;simp at hf;rcases hf with rfl | rfl | rfl | rfl<;>kernel_rfl⟩
 ·exact ⟨_,Go.Proofs.Tryz.underlying67,by intro f hf;simp at hf;rcases hf with rfl | rfl | rfl | rfl<;>kernel_rfl⟩
 ·exact ⟨_,Go.Proofs.Tryz.underlying75,by intro f hf;simp at hf;rcases hf with rfl | rfl<;>kernel_rfl⟩
 ·exact ⟨_,Go.Proofs.Tryz.underlying76,by intro f hf;simp at hf;rcases hf with rfl | rfl<;>kernel_rfl⟩
 ·exact Go.Proofs.Tryz.underlying77
 ·exact ⟨_,Go.Proofs.Tryz.underlying79,by intro f hf;simp at hf;rcases hf with rfl | rfl<;>kernel_rfl⟩
 ·exact ⟨_,Go.Proofs.Tryz.underlying80,by intro f hf;simp at hf;rcases hf with rfl | rfl<;>kernel_rfl⟩
 ·exact Go.Proofs.Tryz.underlying82
 ·exact ⟨_,Go.Proofs.Tryz.underlying87,by intro f hf;simp at hf;rcases hf with rfl | rfl | rfl | rfl | rfl | rfl | rfl<;>kernel_rfl⟩
 ·exact ⟨_,Go.Proofs.Tryz.underlying88,by intro f hf;simp at hf;rcases hf with rfl | rfl | rfl | rfl | rfl | rfl | rfl<;>kernel_rfl⟩
 ·exact Go.Proofs.Tryz.underlying95
 ·exact ⟨_,Go.Proofs.Tryz.underlying96,by intro f hf;simp at hf;rcases hf with rfl | rfl<;>kernel_rfl⟩
 ·exact ⟨_,Go.Proofs.Tryz.underlying97,by intro f hf;simp at hf;rcases hf with rfl | rfl<;>kernel_rfl⟩
 ·exact ⟨_,Go.Proofs.Tryz.underlying100,by intro f hf;simp at hf;rcases hf with rfl | rfl<;>kernel_rfl⟩
 ·exact ⟨_,Go.Proofs.Tryz.underlying101,by intro f hf;simp at hf;rcases hf with rfl | rfl<;>kernel_rfl⟩
 ·exact ⟨_,Go.Proofs.Tryz.underlying115,by intro f hf;simp at hf;rcases hf with rfl | rfl | rfl<;>kernel_rfl⟩
 ·exact ⟨_,Go.Proofs.Tryz.underlying116,by intro f hf;simp at hf;rcases hf with rfl | rfl | rfl<;>kernel_rfl⟩
 ·exact ⟨_,Go.Proofs.Tryz.underlying119,by intro f hf;simp at hf;rcases hf with rfl | rfl<;>kernel_rfl⟩
 ·exact ⟨_,Go.Proofs.Tryz.underlying120,by intro f hf;simp at hf;rcases hf with rfl | rfl<;>kernel_rfl⟩
 ·exact Go.Proofs.Tryz.underlying123
 ·exact Go.Proofs.Tryz.underlying136
 ·exact Go.Proofs.Tryz.underlying141
 ·exact ⟨_,Go.Proofs.Tryz.underlying144,by intro f hf;simp at hf;rcases hf with rfl | rfl<;>kernel_rfl⟩
 ·exact ⟨_,Go.Proofs.Tryz.underlying145,by intro f hf;simp at hf;rcases hf with rfl | rfl<;>kernel_rfl⟩
 ·exact Go.Proofs.Tryz.underlying167
 ·exact ⟨_,Go.Proofs.Tryz.underlying168,by intro f hf;simp at hf;rcases hf with rfl | rfl | rfl<;>kernel_rfl⟩
 ·exact ⟨_,Go.Proofs.Tryz.underlying169,by intro f hf;simp at hf;rcases hf with rfl | rfl | rfl<;>kernel_rfl⟩
 ·exact Go.Proofs.Tryz.underlying172
 ·exact Go.Proofs.Tryz.underlying184
 ·exact ⟨_,Go.Proofs.Tryz.underlying200,by intro f hf;simp at hf;rcases hf with rfl | rfl | rfl | rfl<;>kernel_rfl⟩
 ·exact ⟨_,Go.Proofs.Tryz.underlying201,by intro f hf;simp at hf;rcases hf with rfl | rfl | rfl | rfl<;>kernel_rfl⟩
 ·exact Go.Proofs.Tryz.underlying204
 ·exact Go.Proofs.Tryz.underlying220
 ·exact Go.Proofs.Tryz.underlying221
 ·exact Go.Proofs.Tryz.underlying222
 ·exact ⟨_,Go.Proofs.Tryz.underlying223,by intro f hf;simp at hf;rcases hf with rfl | rfl | rfl | rfl | rfl | rfl<;>kernel_rfl⟩
 ·exact ⟨_,Go.Proofs.Tryz.underlying224,by intro f hf;simp at hf;rcases hf with rfl | rfl | rfl | rfl | rfl | rfl<;>kernel_rfl⟩
 ·exact Go.Proofs.Tryz.underlying232
 ·exact Go.Proofs.Tryz.underlying239
 ·exact Go.Proofs.Tryz.underlying241
 ·exact Go.Proofs.Tryz.underlying256
 ·exact Go.Proofs.Tryz.underlying260
 ·exact Go.Proofs.Tryz.underlying267
 ·exact ⟨_,Go.Proofs.Tryz.underlying272,by intro f hf;simp at hf;rcases hf with rfl | rfl<;>kernel_rfl⟩
 ·exact ⟨_,Go.Proofs.Tryz.underlying273,by intro f hf;simp at hf;rcases hf with rfl | rfl<;>kernel_rfl⟩
 ·exact ⟨_,Go.Proofs.Tryz.underlying280,by intro f hf;simp at hf;rcases hf with rfl | rfl | rfl | rfl<;>kernel_rfl⟩
 ·exact ⟨_,Go.Proofs.Tryz.underlying281,by intro f hf;simp at hf;rcases hf with rfl | rfl | rfl | rfl<;>kernel_rfl⟩
 ·exact Go.Proofs.Tryz.underlying286
 ·exact Go.Proofs.Tryz.underlying287
 ·exact Go.Proofs.Tryz.underlying289
 ·exact Go.Proofs.Tryz.underlying290
 ·exact Go.Proofs.Tryz.underlying291
 ·trivial
theorem zX:∀t,zU t≠0->∃i,(Go.Proofs.Tryz.prog).info? t=some i/\i.size=zU t/\i.bytes=Iv t/\∃z,i.zero=some z/\z.cells.toList.map ofValue=Iw t/\z.cells.size=zU t /\
  (Gb t).isA=some (match z with | .agg _=>true | _=>false):=by
 intro t h
 revert h
 unfold zU;split
 ·exact λ_=>⟨Go.Proofs.Tryz.t2,by kernel_rfl,rfl,rfl,_,rfl,rfl,rfl,rfl⟩
 ·exact λ_=>⟨Go.Proofs.Tryz.t3,by kernel_rfl,rfl,rfl,_,rfl,rfl,rfl,rfl⟩
 ·exact λ_=>⟨Go.Proofs.Tryz.t4,by kernel_rfl,rfl,rfl,_,rfl,rfl,rfl,rfl⟩
 ·exact λ_=>⟨Go.Proofs.Tryz.t5,by kernel_rfl,rfl,rfl,_,rfl,rfl,rfl,rfl⟩
 ·exact λ_=>⟨Go.Proofs.Tryz.t6,by kernel_rfl,rfl,rfl,_,rfl,rfl,rfl,rfl⟩
 ·exact λ_=>⟨Go.Proofs.Tryz.t7,by kernel_rfl,rfl,rfl,_,rfl,rfl,rfl,rfl⟩
 ·exact λ_=>⟨Go.Proofs.Tryz.t8,by kernel_rfl,rfl,rfl,_,rfl,rfl,rfl,rfl⟩
 ·exact λ_=>⟨Go.Proofs.Tryz.t9,by kernel_rfl,rfl,rfl,_,rfl,rfl,rfl,rfl⟩
 ·exact λ_=>⟨Go.Proofs.Tryz.t10,by kernel_rfl,rfl,rfl,_,rfl,rfl,rfl,rfl⟩
 ·exact λ_=>⟨Go.Proofs.Tryz.t11,by kernel_rfl,rfl,rfl,_,rfl,rfl,rfl,rfl⟩
 ·exact λ_=>⟨Go.Proofs.Tryz.t12,by kernel_rfl,rfl,rfl,_,rfl,rfl,rfl,rfl⟩
 ·exact λ_=>⟨Go.Proofs.Tryz.t13,by kernel_rfl,rfl,rfl,_,rfl,rfl,rfl,rfl⟩
 ·exact λ_=>⟨Go.Proofs.Tryz.t14,by kernel_rfl,rfl,rfl,_,rfl,rfl,rfl,rfl⟩
 ·exact λ_=>⟨Go.Proofs.Tryz.t15,by kernel_rfl,rfl,rfl,_,rfl,rfl,rfl,rfl⟩
 ·exact λ_=>⟨Go.Proofs.Tryz.t16,by kernel_rfl,rfl,rfl,_,rfl,rfl,rfl,rfl⟩
 ·exact λ_=>⟨Go.Proofs.Tryz.t17,by kernel_rfl,rfl,rfl,_,rfl,rfl,rfl,rfl⟩
 ·exact λ_=>⟨Go.Proofs.Tryz.t18,by kernel_rfl,rfl,rfl,_,rfl,rfl,rfl,rfl⟩
 ·exact λ_=>⟨Go.Proofs.Tryz.t19,by kernel_rfl,rfl,rfl,_,rfl,rfl,rfl,rfl⟩
 ·exact λ_=>⟨Go.Proofs.Tryz.t21,by kernel_rfl,rfl,rfl,_,rfl,rfl,rfl,rfl⟩
 ·exact λ_=>⟨Go.Proofs.Tryz.t22,by kernel_rfl,rfl,rfl,_,rfl,rfl,rfl,rfl⟩
 ·exact λ_=>⟨Go.Proofs.Tryz.t23,by kernel_rfl,rfl,rfl,_,rfl,rfl,rfl,rfl⟩
 ·exact λ_=>⟨Go.Proofs.Tryz.t24,by kernel_rfl,rfl,rfl,_,rfl,rfl,rfl,rfl⟩
 ·exact λ_=>⟨Go.Proofs.Tryz.t25,by kernel_rfl,rfl,rfl,_,rfl,rfl,rfl,rfl⟩
 ·exact λ_=>⟨Go.Proofs.Tryz.t26,by kernel_rfl,rfl,rfl,_,rfl,rfl,rfl,rfl⟩
 ·exact λ_=>⟨Go.Proofs.Tryz.t27,by kernel_rfl,rfl,rfl,_,rfl,rfl,rfl,rfl⟩
 ·exact λ_=>⟨Go.Proofs.Tryz.t28,by kernel_rfl,rfl,rfl,_,rfl,rfl,rfl,rfl⟩
 ·exact λ_=>⟨Go.Proofs.Tryz.t29,by kernel_rfl,rfl,rfl,_,rfl,rfl,rfl,rfl⟩
 ·exact λ_=>⟨Go.Proofs.Tryz.t30,by kernel_rfl,rfl,rfl,_,rfl,rfl,rfl,rfl⟩
 ·exact λ_=>⟨Go.Proofs.Tryz.t31,by kernel_rfl,rfl,rfl,_,rfl,rfl,rfl,rfl⟩
 ·exact λ_=>⟨Go.Proofs.Tryz.t32,by kernel_rfl,rfl,rfl,_,rfl,rfl,rfl,rfl⟩
 ·exact λ_=>⟨Go.Proofs.Tryz.t33,by kernel_rfl,rfl,rfl,_,rfl,rfl,rfl,rfl⟩
 ·exact λ_=>⟨Go.Proofs.Tryz.t36,by kernel_rfl,rfl,rfl,_,rfl,rfl,rfl,rfl⟩
 ·exact λ_=>⟨Go.Proofs.Tryz.t37,by kernel_rfl,rfl,rfl,_,rfl,rfl,rfl,rfl⟩
 ·exact λ_=>⟨Go.Proofs.Tryz.t38,by kernel_rfl,rfl,rfl,_,rfl,rfl,rfl,rfl⟩
 ·exact λ_=>⟨Go.Proofs.Tryz.t39,by kernel_rfl,rfl,rfl,_,rfl,rfl,rfl,rfl⟩
 ·exact λ_=>⟨Go.Proofs.Tryz.t40,by kernel_rfl,rfl,rfl,_,rfl,rfl,rfl,rfl⟩
 ·exact λ_=>⟨Go.Proofs.Tryz.t42,by kernel_rfl,rfl,rfl,_,rfl,rfl,rfl,rfl⟩
 ·exact λ_=>⟨Go.Proofs.Tryz.t43,by kernel_rfl,rfl,rfl,_,rfl,rfl,rfl,rfl⟩
 ·exact λ_=>⟨Go.Proofs.Tryz.t44,by kernel_rfl,rfl,rfl,_,rfl,rfl,rfl,rfl⟩
 ·exact λ_=>⟨Go.Proofs.Tryz.t52,by kernel_rfl,rfl,rfl,_,rfl,rfl,rfl,rfl⟩
 ·exact λ_=>⟨Go.Proofs.Tryz.t55,by kernel_rfl,rfl,rfl,_,rfl,rfl,rfl,rfl⟩
 ·exact λ_=>⟨Go.Proofs.Tryz.t56,by kernel_rfl,rfl,rfl,_,rfl,rfl,rfl,rfl⟩
 ·exact λ_=>⟨Go.Proofs.Tryz.t60,by kernel_rfl,rfl,rfl,_,rfl,rfl,rfl,rfl⟩
 ·exact λ_=>⟨Go.Proofs.Tryz.t61,by kernel_rfl,rfl,rfl,_,rfl,rfl,rfl,rfl⟩
 ·exact λ_=>⟨Go.Proofs.Tryz.t62,by kernel_rfl,rfl,rfl,_,rfl,rfl,rfl,rfl⟩
 ·exact λ_=>⟨Go.Proofs.Tryz.t66,by kernel_rfl,rfl,rfl,_,rfl,rfl,rfl,rfl⟩
 ·exact λ_=>⟨Go.Proofs.Tryz.t67,by kernel_rfl,rfl,rfl,_,rfl,rfl,rfl,rfl⟩
 ·exact λ_=>⟨Go.Proofs.Tryz.t75,by kernel_rfl,rfl,rfl,_,rfl,rfl,rfl,rfl⟩
 ·exact λ_=>⟨Go.Proofs.Tryz.t76,by kernel_rfl,rfl,rfl,_,rfl,rfl,rfl,rfl⟩
 ·exact λ_=>⟨Go.Proofs.Tryz.t77,by kernel_rfl,rfl,rfl,_,rfl,rfl,rfl,rfl⟩
 ·exact λ_=>⟨Go.Proofs.Tryz.t79,by kernel_rfl,rfl,rfl,_,rfl,rfl,rfl,rfl⟩
 ·exact λ_=>⟨Go.Proofs.Tryz.t80,by kernel_rfl,rfl,rfl,_,rfl,rfl,rfl,rfl⟩
 ·exact λ_=>⟨Go.Proofs.Tryz.t82,by kernel_rfl,rfl,rfl,_,rfl,rfl,rfl,rfl⟩
 ·exact λ_=>⟨Go.Proofs.Tryz.t87,by kernel_rfl,rfl,rfl,_,rfl,rfl,rfl,rfl⟩
 ·exact λ_=>⟨Go.Proofs.Tryz.t88,by kernel_rfl,rfl,rfl,_,rfl,rfl,rfl,rfl⟩
 ·exact λ_=>⟨Go.Proofs.Tryz.t95,by kernel_rfl,rfl,rfl,_,rfl,rfl,rfl,rfl⟩
 ·exact λ_=>⟨Go.Proofs.Tryz.t96,by kernel_rfl,rfl,rfl,_,rfl,rfl,rfl,rfl⟩
 ·exact λ_=>⟨Go.Proofs.Tryz.t97,by kernel_rfl,rfl,rfl,_,rfl,rfl,rfl,rfl⟩
 ·exact λ_=>⟨Go.Proofs.Tryz.t100,by kernel_rfl,rfl,rfl,_,rfl,rfl,rfl,rfl⟩
 ·exact λ_=>⟨Go.Proofs.Tryz.t101,by kernel_rfl,rfl,rfl,_,rfl,rfl,rfl,rfl⟩
 ·exact λ_=>⟨Go.Proofs.Tryz.t115,by kernel_rfl,rfl,rfl,_,rfl,rfl,rfl,rfl⟩
 ·exact λ_=>⟨Go.Proofs.Tryz.t116,by kernel_rfl,rfl,rfl,_,rfl,rfl,rfl,rfl⟩
 ·exact λ_=>⟨Go.Proofs.Tryz.t119,by kernel_rfl,rfl,rfl,_,rfl,rfl,rfl,rfl⟩
 ·exact λ_=>⟨Go.Proofs.Tryz.t120,by kernel_rfl,rfl,rfl,_,rfl,rfl,rfl,rfl⟩
 ·exact λ_=>⟨Go.Proofs.Tryz.t123,by kernel_rfl,rfl,rfl,_,rfl,rfl,rfl,rfl⟩
 ·exact λ_=>⟨Go.Proofs.Tryz.t136,by kernel_rfl,rfl,rfl,_,rfl,rfl,rfl,rfl⟩
 ·exact λ_=>⟨Go.Proofs.Tryz.t141,by kernel_rfl,rfl,rfl,_,rfl,rfl,rfl,rfl⟩
 ·exact λ_=>⟨Go.Proofs.Tryz.t144,by kernel_rfl,rfl,rfl,_,rfl,rfl,rfl,rfl⟩
 ·exact λ_=>⟨Go.Proofs.Tryz.t145,by kernel_rfl,rfl,rfl,_,rfl,rfl,rfl,rfl⟩
 ·exact λ_=>⟨Go.Proofs.Tryz.t167,by kernel_rfl,rfl,rfl,_,rfl,rfl,rfl,rfl⟩
 ·exact λ_=>⟨Go.Proofs.Tryz.t168,by kernel_rfl,rfl,rfl,_,rfl,rfl,rfl,rfl⟩
 ·exact λ_=>⟨Go.Proofs.Tryz.t169,by kernel_rfl,rfl,rfl,_,rfl,rfl,rfl,rfl⟩
 ·exact λ_=>⟨Go.Proofs.Tryz.t172,by kernel_rfl,rfl,rfl,_,rfl,rfl,rfl,rfl⟩
 ·exact λ_=>⟨Go.Proofs.Tryz.t184,by kernel_rfl,rfl,rfl,_,rfl,rfl,rfl,rfl⟩
 ·exact λ_=>⟨Go.Proofs.Tryz.t200,by kernel_rfl,rfl,rfl,_,rfl,rfl,rfl,rfl⟩
 ·exact λ_=>⟨Go.Proofs.Tryz.t201,by kernel_rfl,rfl,rfl,_,rfl,rfl,rfl,rfl⟩
 ·exact λ_=>⟨Go.Proofs.Tryz.t204,by kernel_rfl,rfl,rfl,_,rfl,rfl,rfl,rfl⟩
 ·exact λ_=>⟨Go.Proofs.Tryz.t220,by kernel_rfl,rfl,rfl,_,rfl,rfl,rfl,rfl⟩
 ·exact λ_=>⟨Go.Proofs.Tryz.t221,by kernel_rfl,rfl,rfl,_,rfl,rfl,rfl,rfl⟩
 ·exact λ_=>⟨Go.Proofs.Tryz.t222,by kernel_rfl,rfl,rfl,_,rfl,rfl,rfl,rfl⟩
 ·exact λ_=>⟨Go.Proofs.Tryz.t223,by kernel_rfl,rfl,rfl,_,rfl,rfl,rfl,rfl⟩
 ·exact λ_=>⟨Go.Proofs.Tryz.t224,by kernel_rfl,rfl,rfl,_,rfl,rfl,rfl,rfl⟩
 ·exact λ_=>⟨Go.Proofs.Tryz.t232,by kernel_rfl,rfl,rfl,_,rfl,rfl,rfl,rfl⟩
 ·exact λ_=>⟨Go.Proofs.Tryz.t239,by kernel_rfl,rfl,rfl,_,rfl,rfl,rfl,rfl⟩
 ·exact λ_=>⟨Go.Proofs.Tryz.t241,by kernel_rfl,rfl,rfl,_,rfl,rfl,rfl,rfl⟩
 ·exact λ_=>⟨Go.Proofs.Tryz.t256,by kernel_rfl,rfl,rfl,_,rfl,rfl,rfl,rfl⟩
 ·exact λ_=>⟨Go.Proofs.Tryz.t260,by kernel_rfl,rfl,rfl,_,rfl,rfl,rfl,rfl⟩
 ·exact λ_=>⟨Go.Proofs.Tryz.t267,by kernel_rfl,rfl,rfl,_,rfl,rfl,rfl,rfl⟩
 ·exact λ_=>⟨Go.Proofs.Tryz.t272,by kernel_rfl,rfl,rfl,_,rfl,rfl,rfl,rfl⟩
 ·exact λ_=>⟨Go.Proofs.Tryz.t273,by kernel_rfl,rfl,rfl,_,rfl,rfl,rfl,rfl⟩
 ·exact λ_=>⟨Go.Proofs.Tryz.t280,by kernel_rfl,rfl,rfl,_,rfl,rfl,rfl,rfl⟩
 ·exact λ_=>⟨Go.Proofs.Tryz.t281,by kernel_rfl,rfl,rfl,_,rfl,rfl,rfl,rfl⟩
 ·exact λ_=>⟨Go.Proofs.Tryz.t286,by kernel_rfl,rfl,rfl,_,rfl,rfl,rfl,rfl⟩
 ·exact λ_=>⟨Go.Proofs.Tryz.t287,by kernel_rfl,rfl,rfl,_,rfl,rfl,rfl,rfl⟩
 ·exact λ_=>⟨Go.Proofs.Tryz.t289,by kernel_rfl,rfl,rfl,_,rfl,rfl,rfl,rfl⟩
 ·exact λ_=>⟨Go.Proofs.Tryz.t290,by kernel_rfl,rfl,rfl,_,rfl,rfl,rfl,rfl⟩
 ·exact λ_=>⟨Go.Proofs.Tryz.t291,by kernel_rfl,rfl,rfl,_,rfl,rfl,rfl,rfl⟩
 ·exact λh=>absurd rfl h
theorem Cc:∀t,tFl t=[]\/∃F:Array Field,(Go.Proofs.Tryz.prog).underlying t=some (.struct F)/\F.toList.map (λf=>(f.type,f.offset))=tFl t/\∀x,x∈tFl t->zU x.1≠0:=by
 intro t;unfold tFl;split
 ·exact .inr ⟨_,Go.Proofs.Tryz.underlying7,rfl,by decide⟩
 ·exact .inr ⟨_,Go.Proofs.Tryz.underlying8,rfl,by decide⟩
 ·exact .inr ⟨_,Go.Proofs.Tryz.underlying13,rfl,by decide⟩
 ·exact .inr ⟨_,Go.Proofs.Tryz.underlying14,rfl,by decide⟩
 ·exact .inr ⟨_,Go.Proofs.Tryz.underlying18,rfl,by decide⟩
 ·exact .inr ⟨_,Go.Proofs.Tryz.underlying19,rfl,by decide⟩
 ·exact .inr ⟨_,Go.Proofs.Tryz.underlying25,rfl,by decide⟩
 ·exact .inr ⟨_,Go.Proofs.Tryz.underlying26,rfl,by decide⟩
 ·exact .inr ⟨_,Go.Proofs.Tryz.underlying29,rfl,by decide⟩
 ·exact .inr ⟨_,Go.Proofs.Tryz.underlying30,rfl,by decide⟩
 ·exact .inr ⟨_,Go.Proofs.Tryz.underlying32,rfl,by decide⟩
 ·exact .inr ⟨_,Go.Proofs.Tryz.underlying33,rfl,by decide⟩
 ·exact .inr ⟨_,Go.Proofs.Tryz.underlying39,rfl,by decide⟩
 ·exact .inr ⟨_,Go.Proofs.Tryz.underlying40,rfl,by decide⟩
 ·exact .inr ⟨_,Go.Proofs.Tryz.underlying43,rfl,by decide⟩
 ·exact .inr ⟨_,Go.Proofs.Tryz.underlying44,rfl,by decide⟩
 ·exact .inr ⟨_,Go.Proofs.Tryz.underlying61,rfl,by decide⟩
 ·exact .inr ⟨_,Go.Proofs.Tryz.underlying62,rfl,by decide⟩
 ·exact .inr ⟨_,Go.Proofs.Tryz.underlying66,rfl,by decide⟩
 ·exact .inr ⟨_,Go.Proofs.Tryz.underlying67,rfl,by decide⟩
 ·exact .inr ⟨_,Go.Proofs.Tryz.underlying75,rfl,by decide⟩
 ·exact .inr ⟨_,Go.Proofs.Tryz.underlying76,rfl,by decide⟩
 ·exact .inr ⟨_,Go.Proofs.Tryz.underlying79,rfl,by decide⟩
 ·exact .inr ⟨_,Go.Proofs.Tryz.underlying80,rfl,by decide⟩
 ·exact .inr ⟨_,Go.Proofs.Tryz.underlying87,rfl,by decide⟩
 ·exact .inr ⟨_,Go.Proofs.Tryz.underlying88,rfl,by decide⟩
 ·exact .inr ⟨_,Go.Proofs.Tryz.underlying96,rfl,by decide⟩
 ·exact .inr ⟨_,Go.Proofs.Tryz.underlying97,rfl,by decide⟩
 ·exact .inr ⟨_,Go.Proofs.Tryz.underlying100,rfl,by decide⟩
 ·exact .inr ⟨_,Go.Proofs.Tryz.underlying101,rfl,by decide⟩
 ·exact .inr ⟨_,Go.Proofs.Tryz.underlying115,rfl,by decide⟩
 ·exact .inr ⟨_,Go.Proofs.Tryz.underlying116,rfl,by decide⟩
 ·exact .inr ⟨_,Go.Proofs.Tryz.underlying119,rfl,by decide⟩
 ·exact .inr ⟨_,Go.Proofs.Tryz.underlying120,rfl,by decide⟩
 ·exact .inr ⟨_,Go.Proofs.Tryz.underlying144,rfl,by decide⟩
 ·exact .inr ⟨_,Go.Proofs.Tryz.underlying145,rfl,by decide⟩
 ·exact .inr ⟨_,Go.Proofs.Tryz.underlying168,rfl,by decide⟩
 ·exact .inr ⟨_,Go.Proofs.Tryz.underlying169,rfl,by decide⟩
 ·exact .inr ⟨_,Go.Proofs.Tryz.underlying200,rfl,by decide⟩
 ·exact .inr ⟨_,Go.Proofs.Tryz.underlying201,rfl,by decide⟩
 ·exact .inr ⟨_,Go.Proofs.Tryz.underlying223,rfl,by decide⟩
 ·exact .inr ⟨_,Go.Proofs.Tryz.underlying224,rfl,by decide⟩
 ·exact .inr ⟨_,Go.Proofs.Tryz.underlying272,rfl,by decide⟩
 ·exact .inr ⟨_,Go.Proofs.Tryz.underlying273,rfl,by decide⟩
 ·exact .inr ⟨_,Go.Proofs.Tryz.underlying280,rfl,by decide⟩
 ·exact .inr ⟨_,Go.Proofs.Tryz.underlying281,rfl,by decide⟩
 ·exact .inl rfl
theorem zV:∀t j ft off,Ib t j=some (ft,off)->∃F f,(Go.Proofs.Tryz.prog).underlying t=some (.struct F)/\F[j]? = some f/\f.type=ft/\f.offset=off/\zU ft≠0:=by
 intro t j ft off h;unfold Ib at h
 rcases Cc t with e | ⟨F,h1,h2,h3⟩
 ·rw[e] at h;simp at h
 ·have h4:=h3 _ (List.mem_of_getElem? h);rw[←h2,List.getElem?_map,Array.getElem?_toList] at h;cases e:F[j]? with
  | none=>rw[e] at h;cases h
  | some f=>
   rw[e] at h;simp only[Option.map_some,Option.some.injEq,Prod.mk.injEq] at h;exact ⟨F,f,h1,e,h.1,h.2,h4⟩
theorem tK:TabOK Go.Proofs.Tryz.prog tab:=⟨zY,zX,zV⟩
end Go.Eng
namespace Go.Eng
section
variable {P:Program} {T:Tab} {C:Ctx} {σ σ':St} {Ret:St->Prop}
def go (T:Tab):Nat->List It->St->Option (Prop×List It×St)
 | 0,k,σ=>some (True,k,σ)
 | n+1,k,σ=>
  match k with
  | .code (.seq x y)::k=>go T n (.code x::.code y::k) σ
  | .code (.block id c)::k=>go T n (.code c::.blk id::k) σ
  | .code .skip::k=>go T n k σ
  | .blk _::k=>go T n k σ
  | .code (.exit id)::k=>
   match exitTo id k with
   | some k'=>go T n k' σ
   | none=>none
  | .code (.region _ ops false)::k=>go T n (.ops ops ops.toList::k) σ
  | .ops all l::k=>
   match iS T all l σ with
   | some (p,[],σ')=>(go T n k σ').map λr=>(p/\r.1,r.2)
   | some (p,o::l',σ')=>some (p,.ops all (o::l')::k,σ')
   | none=>none
  | k=>some (True,k,σ)
theorem mF (hT:TabOK P T):∀(n:Nat) {k k':List It} {σ σ':St} {p:Prop},go T n k σ=some (p,k',σ')->p->Cw P C Ret k' σ'->Cw P C Ret k σ
 | 0,k,k',σ,σ',p,h,_,hk=>by
  simp only[go,Option.some.injEq,Prod.mk.injEq] at h;obtain ⟨_,rfl,rfl⟩:=h;exact hk
 | n+1,k,k',σ,σ',p,h,hp,hk=>by
  unfold go at h;split at h
  ·exact oF (mF hT n h hp hk)
  ·exact vU (mF hT n h hp hk)
  ·exact Ar (mF hT n h hp hk)
  ·exact CJ (mF hT n h hp hk)
  ·split at h
   ·rename_i k1 he;exact Ap he (mF hT n h hp hk)
   ·cases h
  ·exact ti (mF hT n h hp hk)
  ·rename_i all l k2;split at h
   ·rename_i q σ1 hr;cases e:go T n k2 σ1 with
    | none=>rw[e] at h;cases h
    | some r=>
     obtain ⟨r1,r2,r3⟩:=r;simp only[e,Option.map_some,Option.some.injEq,Prod.mk.injEq] at h;obtain ⟨rfl,rfl,rfl⟩:=h;exact CO hT hr hp.1 (iD (mF hT n e hp.2 hk))
   ·rename_i q o l' σ1 hr;simp only[Option.some.injEq,Prod.mk.injEq] at h;obtain ⟨rfl,rfl,rfl⟩:=h;exact CO hT hr hp hk
   ·cases h
  ·simp only[Option.some.injEq,Prod.mk.injEq] at h;obtain ⟨_,rfl,rfl⟩:=h;exact hk
end
end Go.Eng
