/- The abstract machine, part L: calls by contract. No condition. -/
import Derived.Test.YtldpfleilffanaaEngK
namespace Go.Eng
section
variable {P : Program} {T : Tab} {C : Ctx} {σ σ' : St}

def Callable (P : Program) (f : FuncId) : Prop := ∃ fn, P.funcs[f]? = some fn ∧ (fn.name == "runtime.NumGoroutine") = false ∧ fn.body.isSome = true

mutual
/-- what is known whatever memory holds -/
def AV.scalar : AV → Bool
  | .int .. | .bool _ | .str _ | .nilp | .nili | .nils | .nilm => true
  | .tup vs => scalarL vs
  | .agg vs => scalarL vs
  | _ => false
def scalarL : List AV → Bool
  | [] => true
  | x :: r => x.scalar && scalarL r
end

theorem scalarL_mem {x : AV} : ∀ {l : List AV} {j : Nat}, scalarL l = true → l[j]? = some x → x.scalar = true
  | [], j, _, h => by simp at h
  | y :: r, j, hl, h => by
    simp only [scalarL, Bool.and_eq_true] at hl
    cases j with
    | zero => simp only [List.getElem?_cons_zero, Option.some.injEq] at h; subst h; exact hl.1
    | succ j => exact scalarL_mem hl.2 (by simpa using h)

theorem RdP.scalar {S S' : Nat → Prop} {w w' : World} {v : Value} {x : AV} (h : RdP S w v x) (hx : x.scalar = true) : RdP S' w' v x := by
  induction h with
  | int k n => exact .int k n
  | bool b => exact .bool b
  | str s l h => exact .str s l h
  | nilp => exact .nilp
  | nili => exact .nili
  | nils => exact .nils
  | nilm => exact .nilm
  | agg cs cells hl hr ih => exact .agg cs cells hl (fun j x hj => ih j x hj (scalarL_mem (by simpa [AV.scalar] using hx) hj))
  | sl => cases hx
  | rp => cases hx
  | rm => cases hx
  | fn => cases hx

theorem Rd.scalar {μ μ' : Nat → Option Nat} {S S' : Nat → Prop} {w w' : World} {v : Value} {x : AV} (h : Rd μ S w v x) (hx : x.scalar = true) : Rd μ' S' w' v x := by
  induction h with
  | any => cases hx
  | pure h => exact .pure (h.scalar hx)
  | agg cs cells hl hr ih => exact .agg cs cells hl (fun j x hj => ih j x hj (scalarL_mem (by simpa [AV.scalar] using hx) hj))
  | tup cs cells hl hr ih => exact .tup cs cells hl (fun j x hj => ih j x hj (scalarL_mem (by simpa [AV.scalar] using hx) hj))
  | fn => cases hx
  | ptr => cases hx
  | osl => cases hx
  | mp => cases hx
  | cndT => cases hx
  | cndF => cases hx

/-- What holds no number reads the same wherever things are held. -/
theorem Rd.free {μ μ' : Nat → Option Nat} {S : Nat → Prop} {w : World} {v : Value} {x : AV} (h : Rd μ S w v x) (hx : refs x = []) : Rd μ' S w v x := by
  induction h with
  | any v => exact .any v
  | pure h => exact .pure h
  | agg cs cells hl hr ih => exact .agg cs cells hl (fun j x hj => ih j x hj (refsL_nil (by simpa [refs] using hx) hj))
  | tup cs cells hl hr ih => exact .tup cs cells hl (fun j x hj => ih j x hj (refsL_nil (by simpa [refs] using hx) hj))
  | fn f vals caps hl hr ih => exact .fn f vals caps hl (fun j x hj => ih j x hj (refsL_nil (by simpa [refs] using hx) hj))
  | ptr => simp [refs] at hx
  | osl => simp [refs] at hx
  | mp => simp [refs] at hx
  | cndT v x h ih => exact .cndT v x (ih (by simpa [refs] using hx))
  | cndF x => exact .cndF x
where
  refsL_nil {x : AV} : ∀ {l : List AV} {j : Nat}, refsL l = [] → l[j]? = some x → refs x = []
    | [], j, _, h => by simp at h
    | y :: r, j, hl, h => by
      simp only [refsL, List.append_eq_nil_iff] at hl
      cases j with
      | zero => simp only [List.getElem?_cons_zero, Option.some.injEq] at h; subst h; exact hl.1
      | succ j => exact refsL_nil hl.2 (by simpa using h)

/-- The world behind a call that holds nothing of ours: more blocks. -/
theorem Inv.called {μ : Nat → Option Nat} {S S' : Nat → Prop} {a : Act} {w w' : World} (hi : Inv C μ S σ a w) (hf : Frm (fun _ => False) w w')
    (hS : ∀ b, S' b → b < w'.heap.size ∧ (S b ∨ w.heap.size ≤ b)) : Inv C μ (fun b => S b ∨ S' b) σ a w' := by
  have hb : ∀ b, b < w.heap.size → w'.heap[b]? = w.heap[b]? := fun b h => hf.block b h (fun h => h)
  have hw : SameOn S w w' := fun b h => hb b (hi.sb b h).1
  have hz : ∀ i g, μ i = some g → rowSize w' g = rowSize w g := fun i g h => rowSize_same (hb g (hi.dom i g h).2.2.2)
  refine ⟨hi.size, hi.defers, fun t x hx => (hi.tm t x hx).mono hw (fun _ h => .inl h) (fun _ _ h => h) hz, fun i b h => (hi.hp i b h).mono hw (fun _ h => .inl h) (fun _ _ h => h) hz (fun h => h) (fun g h => hb g (hi.dom i g h).2.2.2), fun i g h => ?_, hi.inj, hi.frm.step (fun _ => False) hf (fun _ h => h.elim), fun b h => ?_⟩
  · obtain ⟨h1, h2, h3, h4⟩ := hi.dom i g h
    refine ⟨h1, h2, ?_, Nat.lt_of_lt_of_le h4 hf.size⟩
    rintro (h | h)
    · exact h3 h
    · rcases (hS g h).2 with h | h
      · exact h3 h
      · omega
  · rcases h with h | h
    · exact ⟨Nat.lt_of_lt_of_le (hi.sb b h).1 hf.size, (hi.sb b h).2⟩
    · refine ⟨(hS b h).1, ?_⟩
      rcases (hS b h).2 with h | h
      · exact (hi.sb b h).2
      · have := hi.frm.size
        exact .inr (.inr (by omega))

/-- the callee of a call, and what it is handed -/
def callArgs (σ : St) (c : Operand) (args : List Operand) : Option (Prop × FuncId × List AV) :=
  match evS σ c with
  | (p, .fn f caps) => some (p ∧ (evSL σ args).1, f, (evSL σ args).2 ++ caps)
  | _ => none

/-- a call of a function, as the model carries it out -/
theorem exec_call {o : Oper} {c : Operand} {args : Array Operand} {ats : Array TypeId} {μ : Nat → Option Nat} {S : Nat → Prop} {a : Act} {w : World} (hi : Inv C μ S σ a w)
    (ho : o.op = .call { callee := .value c, args, argTypes := ats }) {p : Prop} {f : FuncId} {xs : List AV} (h : callArgs σ c args.toList = some (p, f, xs)) (hp : p) (hc : Callable P f) :
    ∃ vs : List Value, vs.length = xs.length ∧ (∀ (j : Nat) x, xs[j]? = some x → Rd μ S w (vs.getD j undef) x) ∧ (execOp a.eval o).run P w = .ok (.enter f vs.toArray) w := by
  unfold callArgs at h
  split at h
  · rename_i q f' caps hev
    simp only [Option.some.injEq, Prod.mk.injEq] at h
    obtain ⟨rfl, rfl, rfl⟩ := h
    have hv := hi.evS c (by rw [hev]; exact hp.1)
    rw [hev] at hv
    obtain ⟨vals, he, hl, hr⟩ := hv.inv_fn
    obtain ⟨fn, hf, hn, hb⟩ := hc
    refine ⟨args.toList.map a.eval ++ vals.toList, by simp [evSL_len, hl], fun j x hx => ?_, ?_⟩
    · by_cases hj : j < args.toList.length
      · rw [List.getElem?_append_left (by rw [evSL_len]; exact hj)] at hx
        obtain ⟨o', ho', hr'⟩ := hi.evSL _ hp.2 j x hx
        rw [List.getD_eq_getElem?_getD, List.getElem?_append_left (by simpa using hj), List.getElem?_map, ho']
        exact hr'
      · rw [List.getElem?_append_right (by rw [evSL_len]; omega), evSL_len] at hx
        have := hr _ x hx
        rw [List.getD_eq_getElem?_getD, List.getElem?_append_right (by simpa using hj)]
        rw [Array.getD_eq_getD_getElem?, ← Array.getElem?_toList] at this
        rw [List.length_map]
        exact this
    · have hb' : ¬ fn.body = none := by intro e; rw [e] at hb; cases hb
      have hn' : ¬ fn.name = "runtime.NumGoroutine" := by simpa using hn
      have e1 : (#[] ++ args.map a.eval ++ vals) = (args.toList.map a.eval ++ vals.toList).toArray := by
        apply Array.ext'; simp
      simp [execOp, ho, resolve, he, Deferred.ofValue, invoke, callFunc, hf, hn', hb']
  · cases h

/-- A CALL WHOSE ARGUMENTS HOLD NOTHING OF OURS. -/
theorem trip_call {o : Oper} {c : Operand} {args : Array Operand} {ats : Array TypeId} (ho : o.op = .call { callee := .value c, args, argTypes := ats }) {p : Prop} {f : FuncId} {xs : List AV}
    (h : callArgs σ c args.toList = some (p, f, xs)) (hp : p) (hc : Callable P f) (hx : refsL xs = []) {r : AV} (hr : refs r = []) (hf : FnOK P f xs [] fun r' _ => r' = r) : Trip P C o σ (σ.put o.dst r) := by
  intro a w K Q ⟨μ, S, hi⟩ hK
  obtain ⟨vs, h1, h2, h3⟩ := exec_call hi ho h hp hc
  unfold Oper.wp
  rw [h3]
  refine (hf S (fun _ => none) w vs h1 (fun j x hj => (h2 j x hj).free (Rd.free.refsL_nil hx hj)) ⟨fun id b h => by simp [hget] at h, fun id g h => (by cases h), fun id id' g h => (by cases h)⟩ (fun b hb => (hi.sb b hb).1)).mono ?_
  rintro e w' ⟨v, r', H', μ', S', rfl, rfl, k1, k2, k3, k4, k5⟩
  have hfr : Frm (fun _ => False) w w' := ⟨k3.os, k3.tape, k3.output, k3.size, fun b hb _ => k3.block b hb (by rintro ⟨id, h⟩; cases h)⟩
  have hi' := hi.called hfr (S' := S') (fun b hb => ⟨(k5 b hb).1, by
    rcases (k5 b hb).2 with h | ⟨id, h⟩ | h
    · exact .inl h
    · cases h
    · exact .inr h⟩)
  exact hK _ _ ⟨μ, _, hi'.put o.dst ((k1.mono (SameOn.refl _ _) (fun _ h => .inr h) (fun _ _ h => h) (fun _ _ _ => rfl)).free hr)⟩

mutual
/-- what is held, as one reads it -/
def view (h : List (Nat × Blk)) : AV → Option (Prop × AV)
  | .osl id s off len =>
    match hget h id with
    | some (.cells _ s' rows) => if s = s' then some (off + len ≤ rows.length ∧ (rows.all fun row => row.all AV.pureB) = true, .sl ((rows.drop off).take len)) else none
    | _ => none
  | .ptr id s row off =>
    match hget h id with
    | some (.cells _ s' rows) => if s = s' then some (row < rows.length ∧ ((rows.getD row []).all AV.pureB) = true, .rp (rows.getD row []) off) else none
    | _ => none
  | .mp id =>
    match hget h id with
    | some (.map kvs) => some (True, .rm kvs)
    | _ => none
  | .fn f caps => (viewL h caps).map fun r => (r.1, .fn f r.2)
  | .agg cells => (viewL h cells).map fun r => (r.1, .agg r.2)
  | .any => none
  | .tup _ => none
  | .cnd .. => none
  | x => some (True, x)
def viewL (h : List (Nat × Blk)) : List AV → Option (Prop × List AV)
  | [] => some (True, [])
  | x :: r =>
    match view h x, viewL h r with
    | some (p, y), some (q, l) => some (p ∧ q, y :: l)
    | _, _ => none
end

theorem row_get {l : List (List AV)} {i : Nat} (h : i < l.length) : l[i]? = some (l.getD i []) := by
  rw [List.getD_eq_getElem?_getD, List.getElem?_eq_getElem h]; rfl

mutual
theorem view_sound {μ : Nat → Option Nat} {S : Nat → Prop} {a : Act} {w : World} (hi : Inv C μ S σ a w) : ∀ (x : AV) {p : Prop} {y : AV} {v : Value}, view σ.hp x = some (p, y) → p → Rd μ S w v x →
    RdP (fun b => S b ∨ ∃ id, μ id = some b) w v y
  | .osl id s off len, p, y, v, h, hp, hv => by
    simp only [view] at h
    split at h
    · rename_i e s' rows hb
      split at h
      · rename_i hs
        subst hs
        simp only [Option.some.injEq, Prod.mk.injEq] at h
        obtain ⟨rfl, rfl⟩ := h
        obtain ⟨hle, hpure⟩ := hp
        obtain ⟨A, cap, rfl, hc, hor⟩ := hv.inv_osl
        have hl : ((rows.drop off).take len).length = len := by simp; omega
        rcases hor with ⟨rfl, h2⟩ | ⟨g, e', n, h1, rfl, h3, h4⟩
        · exact .sl A 0 cap _ s 0 0 (fun _ _ => undef) hl hc (fun row h => by simp at h) (fun h => by omega) (fun i j h => by omega) (fun i row h => by simp at h)
        · rcases hi.hp id _ hb with ⟨_, k2⟩ | ⟨g', c, k1, k2, k3, k4, k5⟩
          · rw [k2] at h1; cases h1
          · rw [k1] at h1; injection h1 with h1; subst h1
            refine .sl _ len cap _ s g' (off * s) (fun i j => c.getD ((off + i) * s + j) undef) hl hc (fun row h => k4 row (List.mem_of_mem_drop (List.mem_of_mem_take h))) (fun _ => ⟨rfl, .inr ⟨id, k1⟩⟩) (fun i j hi' hj => ?_) (fun i row h j x hx => ?_)
            · have hlt : (off + i) * s + s ≤ rows.length * s := by
                have := Nat.mul_le_mul_right s (show off + i + 1 ≤ rows.length by omega)
                rwa [Nat.succ_mul] at this
              rw [show off * s + (i * s + j) = (off + i) * s + j from by rw [Nat.add_mul]; omega, cell_of k2, Array.getD_eq_getD_getElem?, Array.getElem?_eq_getElem (by omega)]
              rfl
            · rw [List.getElem?_take] at h
              split at h
              · rw [List.getElem?_drop] at h
                exact ((k5 _ row h j x hx).toP (List.all_eq_true.1 (List.all_eq_true.1 hpure row (List.mem_of_getElem? h)) x (List.mem_of_getElem? hx))).mono (SameOn.refl _ _) (fun _ h => .inl h)
              · cases h
      · cases h
    · cases h
  | .ptr id s row off, p, y, v, h, hp, hv => by
    simp only [view] at h
    split at h
    · rename_i e s' rows hb
      split at h
      · rename_i hs
        subst hs
        simp only [Option.some.injEq, Prod.mk.injEq] at h
        obtain ⟨rfl, rfl⟩ := h
        obtain ⟨hrow, hpure⟩ := hp
        obtain ⟨g, hg, rfl⟩ := hv.inv_ptr
        rcases hi.hp id _ hb with ⟨rfl, _⟩ | ⟨g', c, k1, k2, k3, k4, k5⟩
        · simp at hrow
        · rw [k1] at hg; injection hg with hg; subst hg
          have hr := row_get hrow
          have hlen := k4 _ (List.mem_of_getElem? hr)
          have hlt := row_lt (size := s) hr
          refine .rp g' (row * s) off _ (fun j => c.getD (row * s + j) undef) (.inr ⟨id, k1⟩) (fun j hj => ?_) (fun j x hx => ?_)
          · rw [cell_of k2, Array.getD_eq_getD_getElem?, Array.getElem?_eq_getElem (by omega)]; rfl
          · exact ((k5 _ _ hr j x hx).toP (List.all_eq_true.1 hpure x (List.mem_of_getElem? hx))).mono (SameOn.refl _ _) (fun _ h => .inl h)
      · cases h
    · cases h
  | .mp id, p, y, v, h, hp, hv => by
    simp only [view] at h
    split at h
    · rename_i kvs hb
      simp only [Option.some.injEq, Prod.mk.injEq] at h
      obtain ⟨_, rfl⟩ := h
      obtain ⟨g, hg, rfl⟩ := hv.inv_mp
      obtain ⟨g', es, clk, vals, k1, k2, k3, k4⟩ := hi.hp id _ hb
      rw [k1] at hg; injection hg with hg; subst hg
      exact .rm g' es clk kvs vals (.inr ⟨id, k1⟩) k2 k3 (fun q hq => (k4 q hq).mono (SameOn.refl _ _) (fun _ h => .inl h))
    · cases h
  | .fn f caps, p, y, v, h, hp, hv => by
    simp only [view] at h
    cases e : viewL σ.hp caps with
    | none => rw [e] at h; cases h
    | some q =>
      obtain ⟨q1, l⟩ := q
      simp only [e, Option.map_some, Option.some.injEq, Prod.mk.injEq] at h
      obtain ⟨rfl, rfl⟩ := h
      obtain ⟨vals, rfl, hl, hr⟩ := hv.inv_fn
      obtain ⟨h1, h2⟩ := viewL_sound hi caps e hp (fun j => vals.getD j undef) hr
      exact .fn f vals l (by rw [hl, h1]) h2
  | .agg cells, p, y, v, h, hp, hv => by
    simp only [view] at h
    cases e : viewL σ.hp cells with
    | none => rw [e] at h; cases h
    | some q =>
      obtain ⟨q1, l⟩ := q
      simp only [e, Option.map_some, Option.some.injEq, Prod.mk.injEq] at h
      obtain ⟨rfl, rfl⟩ := h
      obtain ⟨cs, rfl, hl, hr⟩ := hv.inv_agg
      obtain ⟨h1, h2⟩ := viewL_sound hi cells e hp (fun j => cs.getD j undef) hr
      exact .agg cs l (by rw [hl, h1]) h2
  | .any, p, y, v, h, _, _ => by simp [view] at h
  | .tup _, p, y, v, h, _, _ => by simp [view] at h
  | .cnd .., p, y, v, h, _, _ => by simp [view] at h
  | .int k n, p, y, v, h, _, hv => by simp only [view, Option.some.injEq, Prod.mk.injEq] at h; obtain ⟨_, rfl⟩ := h; exact (hv.toP rfl).mono (SameOn.refl _ _) (fun _ h => .inl h)
  | .bool b, p, y, v, h, _, hv => by simp only [view, Option.some.injEq, Prod.mk.injEq] at h; obtain ⟨_, rfl⟩ := h; exact (hv.toP rfl).mono (SameOn.refl _ _) (fun _ h => .inl h)
  | .str s, p, y, v, h, _, hv => by simp only [view, Option.some.injEq, Prod.mk.injEq] at h; obtain ⟨_, rfl⟩ := h; exact (hv.toP rfl).mono (SameOn.refl _ _) (fun _ h => .inl h)
  | .nilp, p, y, v, h, _, hv => by simp only [view, Option.some.injEq, Prod.mk.injEq] at h; obtain ⟨_, rfl⟩ := h; exact (hv.toP rfl).mono (SameOn.refl _ _) (fun _ h => .inl h)
  | .nili, p, y, v, h, _, hv => by simp only [view, Option.some.injEq, Prod.mk.injEq] at h; obtain ⟨_, rfl⟩ := h; exact (hv.toP rfl).mono (SameOn.refl _ _) (fun _ h => .inl h)
  | .nils, p, y, v, h, _, hv => by simp only [view, Option.some.injEq, Prod.mk.injEq] at h; obtain ⟨_, rfl⟩ := h; exact (hv.toP rfl).mono (SameOn.refl _ _) (fun _ h => .inl h)
  | .nilm, p, y, v, h, _, hv => by simp only [view, Option.some.injEq, Prod.mk.injEq] at h; obtain ⟨_, rfl⟩ := h; exact (hv.toP rfl).mono (SameOn.refl _ _) (fun _ h => .inl h)
  | .sl rows, p, y, v, h, _, hv => by simp only [view, Option.some.injEq, Prod.mk.injEq] at h; obtain ⟨_, rfl⟩ := h; exact (hv.toP rfl).mono (SameOn.refl _ _) (fun _ h => .inl h)
  | .rp c o, p, y, v, h, _, hv => by simp only [view, Option.some.injEq, Prod.mk.injEq] at h; obtain ⟨_, rfl⟩ := h; exact (hv.toP rfl).mono (SameOn.refl _ _) (fun _ h => .inl h)
  | .rm kvs, p, y, v, h, _, hv => by simp only [view, Option.some.injEq, Prod.mk.injEq] at h; obtain ⟨_, rfl⟩ := h; exact (hv.toP rfl).mono (SameOn.refl _ _) (fun _ h => .inl h)
theorem viewL_sound {μ : Nat → Option Nat} {S : Nat → Prop} {a : Act} {w : World} (hi : Inv C μ S σ a w) : ∀ (l : List AV) {p : Prop} {l' : List AV}, viewL σ.hp l = some (p, l') → p → ∀ (f : Nat → Value),
    (∀ (j : Nat) x, l[j]? = some x → Rd μ S w (f j) x) → l.length = l'.length ∧ ∀ (j : Nat) x, l'[j]? = some x → RdP (fun b => S b ∨ ∃ id, μ id = some b) w (f j) x
  | [], p, l', h, _, f, _ => by
    simp only [viewL, Option.some.injEq, Prod.mk.injEq] at h
    obtain ⟨_, rfl⟩ := h
    exact ⟨rfl, fun j x hx => by simp at hx⟩
  | x :: r, p, l', h, hp, f, hf => by
    simp only [viewL] at h
    split at h
    · rename_i p1 y q l hx hr
      simp only [Option.some.injEq, Prod.mk.injEq] at h
      obtain ⟨rfl, rfl⟩ := h
      have h1 := view_sound hi x hx hp.1 (hf 0 x rfl)
      obtain ⟨h2, h3⟩ := viewL_sound hi r hr hp.2 (fun j => f (j + 1)) (fun j z hz => hf (j + 1) z (by simpa using hz))
      refine ⟨by simp [h2], fun j z hz => ?_⟩
      cases j with
      | zero => simp only [List.getElem?_cons_zero, Option.some.injEq] at hz; subst hz; exact h1
      | succ j => exact h3 j z (by simpa using hz)
    · cases h
end

/-- A CALL THAT READS WHAT IS HELD, AND HANDS BACK NUMBERS AND TEXTS ALONE. -/
theorem trip_view {o : Oper} {c : Operand} {args : Array Operand} {ats : Array TypeId} (ho : o.op = .call { callee := .value c, args, argTypes := ats }) {p q : Prop} {f : FuncId} {xs ys : List AV}
    (h : callArgs σ c args.toList = some (p, f, xs)) (hp : p) (hv : viewL σ.hp xs = some (q, ys)) (hq : q) (hc : Callable P f) {r : AV} (hr : r.scalar = true) (hf : FnOK P f ys [] fun r' _ => r' = r) :
    Trip P C o σ (σ.put o.dst r) := by
  intro a w K Q ⟨μ, S, hi⟩ hK
  obtain ⟨vs, h1, h2, h3⟩ := exec_call hi ho h hp hc
  obtain ⟨g1, g2⟩ := viewL_sound hi xs hv hq (fun j => vs.getD j undef) h2
  unfold Oper.wp
  rw [h3]
  refine (hf (fun b => S b ∨ ∃ id, μ id = some b) (fun _ => none) w vs (by rw [h1, g1]) (fun j x hj => .pure (g2 j x hj)) ⟨fun id b h => by simp [hget] at h, fun id g h => (by cases h), fun id id' g h => (by cases h)⟩ (fun b hb => by
    rcases hb with hb | ⟨id, hb⟩
    · exact (hi.sb b hb).1
    · exact (hi.dom id b hb).2.2.2)).mono ?_
  rintro e w' ⟨v, r', H', μ', S', rfl, rfl, k1, k2, k3, k4, k5⟩
  have hfr : Frm (fun _ => False) w w' := ⟨k3.os, k3.tape, k3.output, k3.size, fun b hb _ => k3.block b hb (by rintro ⟨id, h⟩; cases h)⟩
  have hi' := hi.called hfr (S' := fun _ => False) (fun b hb => hb.elim)
  exact hK _ _ ⟨μ, _, hi'.put o.dst (k1.scalar hr)⟩

end
end Go.Eng
