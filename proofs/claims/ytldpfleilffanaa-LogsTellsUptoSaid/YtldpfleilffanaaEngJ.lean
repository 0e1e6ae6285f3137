/- The abstract machine, part J: one operation, lists of operations. No condition. -/
import Derived.Test.YtldpfleilffanaaEngY
namespace Go.Eng
section
variable {P : Program} {T : Tab} {C : Ctx} {σ σ' : St}

def upTo (p q : Prop) : Prop := p ∧ q

/-- WHAT AN OPERATION DOES (no call of a function), under which condition. -/
def stepOp (T : Tab) (σ : St) (d : Option Tmp) (op : Op) : Option (Prop × St) :=
  match op, d with
  | .build t parts, d => (buildAV T σ t parts.toList).map fun r => (r.1, σ.put d r.2)
  | .alloc t, some d =>
    some (T.siz t ≠ 0 ∧ (T.zer t).length = T.siz t ∧ (σ.room d).1,
      (⟨(σ.room d).2.tm, (d, .cells t (T.siz t) [T.zer t]) :: (σ.room d).2.hp⟩ : St).put (some d) (.ptr d (T.siz t) 0 0))
  | .box t x, some d =>
    match cellsAt T t (evS (σ.room d).2 x).2 with
    | some xs =>
      some ((evS (σ.room d).2 x).1 ∧ xs.length = T.siz t ∧ xs.all AV.leaf = true ∧ (σ.room d).1,
        (⟨(σ.room d).2.tm, (d, .cells t (T.siz t) [xs]) :: (σ.room d).2.hp⟩ : St).put (some d) (.ptr d (T.siz t) 0 0))
    | none => none
  | .buildSlice t n parts, some d =>
    match buildSliceOp T (σ.room d).2 t n parts.toList with
    | some (p, e, rows) =>
      some (p ∧ (σ.room d).1, (⟨(σ.room d).2.tm, (d, .cells e (T.siz e) rows) :: (σ.room d).2.hp⟩ : St).put (some d) (.osl d (T.siz e) 0 n))
    | none => none
  | .makeMap _ none, some d =>
    some ((σ.room d).1, (⟨(σ.room d).2.tm, (d, .map []) :: (σ.room d).2.hp⟩ : St).put (some d) (.mp d))
  | .store t x y, none => (storeOp T σ t (evS σ x).2 (evS σ y).2).map fun r => ((evS σ x).1 ∧ (evS σ y).1 ∧ r.1, ⟨σ.tm, r.2⟩)
  | .call { callee := .builtin .append, args, argTypes }, some d =>
    match args.toList, argTypes.toList with
    | [x, y], [t, u] =>
      if t = u then (appendOp T σ d t (evS σ x).2 (evS σ y).2).map fun r => ((evS σ x).1 ∧ (evS σ y).1 ∧ r.1, r.2.1.put (some d) r.2.2) else none
    | _, _ => none
  | .call { callee := .builtin .clear, args, argTypes }, d =>
    match args.toList, argTypes.toList with
    | [x], [t] => (clearOp T σ t (evS σ x).2).map fun r => ((evS σ x).1 ∧ r.1, (⟨σ.tm, r.2⟩ : St).put d (.tup []))
    | _, _ => none
  | .call { callee := .builtin .copy, args, argTypes }, d =>
    match args.toList, argTypes.toList with
    | [x, y], [t, _] => (copyOp T σ t (evS σ x).2 (evS σ y).2).map fun r => ((evS σ x).1 ∧ (evS σ y).1 ∧ r.1, (⟨σ.tm, r.2.1⟩ : St).put d r.2.2)
    | _, _ => none
  | .call { callee := .builtin .delete, args, argTypes }, d =>
    match args.toList, argTypes.toList with
    | [x, y], [t, _] => (delOp T σ t (evS σ x).2 (evS σ y).2).map fun r => ((evS σ x).1 ∧ (evS σ y).1 ∧ r.1, (⟨σ.tm, r.2⟩ : St).put d (.tup []))
    | _, _ => none
  | .mapUpdate t m k x, none => (putOp T σ t (evS σ m).2 (evS σ k).2 (evS σ x).2).map fun r => ((evS σ m).1 ∧ (evS σ k).1 ∧ (evS σ x).1 ∧ r.1, ⟨σ.tm, r.2⟩)
  | .insert t m k x, none => (putOp T σ t (evS σ m).2 (evS σ k).2 (evS σ x).2).map fun r => ((evS σ m).1 ∧ (evS σ k).1 ∧ (evS σ x).1 ∧ r.1, ⟨σ.tm, r.2⟩)
  | op, d => (pureOp T σ op).map fun r => (r.1, σ.put d r.2)

/-- an operation that yields a value and turns what is held -/
theorem trip_held {o : Oper} {H : List (Nat × Blk)} {x : AV} (h : ∀ μ S a w, Inv C μ S σ a w → ∃ u w', (execOp a.eval o).run P w = .ok (.value u) w' ∧ Inv C μ S ⟨σ.tm, H⟩ a w' ∧ Rd μ S w' u x) :
    Trip P C o σ ((⟨σ.tm, H⟩ : St).put o.dst x) := by
  intro a w K Q ⟨μ, S, hi⟩ hK
  obtain ⟨u, w', hr, hi', hu⟩ := h μ S a w hi
  unfold Oper.wp
  rw [hr]
  exact hK _ _ ⟨μ, S, hi'.put o.dst hu⟩

theorem trip_skip {o : Oper} (hd : o.dst = none) {H : List (Nat × Blk)} (h : ∀ μ S a w, Inv C μ S σ a w → ∃ w', (execOp a.eval o).run P w = .ok .skip w' ∧ Inv C μ S ⟨σ.tm, H⟩ a w') : Trip P C o σ ⟨σ.tm, H⟩ := by
  intro a w K Q ⟨μ, S, hi⟩ hK
  obtain ⟨w', hr, hi'⟩ := h μ S a w hi
  unfold Oper.wp
  rw [hr]
  show K (a.put o.dst undef) w'
  rw [hd]
  exact hK _ _ ⟨μ, S, hi'⟩

theorem trip_pure (hT : TabOK P T) {o : Oper} {p : Prop} {x : AV} (h : pureOp T σ o.op = some (p, x)) (hp : p) : Trip P C o σ (σ.put o.dst x) :=
  trip_value fun _ _ _ _ hi => sound_pure hT hi o h hp

theorem trip_of_new {o : Oper} {d : Tmp} (hd : o.dst = some d) {x : AV}
    (h : ∀ μ S a w, Inv C μ S σ a w → ∃ u w' μ' S', (execOp a.eval o).run P w = .ok (.value u) w' ∧ Inv C μ' S' σ' a w' ∧ Rd μ' S' w' u x) : Trip P C o σ (σ'.put (some d) x) := by
  intro a w K Q ⟨μ, S, hi⟩ hK
  obtain ⟨u, w', μ', S', hr, hi', hu⟩ := h μ S a w hi
  unfold Oper.wp
  rw [hr]
  show K (a.put o.dst u) w'
  rw [hd]
  exact hK _ _ ⟨μ', S', hi'.put (some d) hu⟩

theorem step_sound (hT : TabOK P T) (o : Oper) {p : Prop} (h : stepOp T σ o.dst o.op = some (p, σ')) (hp : p) : Trip P C o σ σ' := by
  have hpure : (pureOp T σ o.op).map (fun r => (r.1, σ.put o.dst r.2)) = some (p, σ') → Trip P C o σ σ' := fun h => by
    cases e : pureOp T σ o.op with
    | none => rw [e] at h; cases h
    | some q =>
      simp only [e, Option.map_some, Option.some.injEq, Prod.mk.injEq] at h
      obtain ⟨rfl, rfl⟩ := h
      exact trip_pure hT (p := q.1) (x := q.2) e hp
  unfold stepOp at h
  split at h
  · rename_i t parts hop
    cases e : buildAV T σ t parts.toList with
    | none => rw [e] at h; cases h
    | some q =>
      simp only [e, Option.map_some, Option.some.injEq, Prod.mk.injEq] at h
      obtain ⟨rfl, rfl⟩ := h
      refine trip_value fun μ S a w hi => ?_
      obtain ⟨u, h1, h2⟩ := sound_build hT hi (p := q.1) (x := q.2) e hp
      exact ⟨u, by simp only [execOp, hop, Sem.run_bind, h1]; rfl, h2⟩
  · rename_i t d hop hd
    simp only [Option.some.injEq, Prod.mk.injEq] at h
    obtain ⟨rfl, rfl⟩ := h
    obtain ⟨h1, h2, h3⟩ := hp
    refine trip_of_new hd fun μ S a w hi => ?_
    obtain ⟨μ1, hi1⟩ := hi.room d h3
    obtain ⟨w', r1, r2⟩ := sound_alloc (P := P) hT hi1 (room_free σ d) h1
    rw [h2] at r2
    exact ⟨_, w', _, S, by simp only [execOp, hop, Sem.run_bind, r1]; rfl, r2, by simpa using Rd.ptr d (T.siz t) 0 0 w.heap.size (by simp [upd])⟩
  · rename_i t y d hop hd
    split at h
    · rename_i xs hxs
      simp only [Option.some.injEq, Prod.mk.injEq] at h
      obtain ⟨rfl, rfl⟩ := h
      obtain ⟨h0, h1, h2, h3⟩ := hp
      refine trip_of_new hd fun μ S a w hi => ?_
      obtain ⟨μ1, hi1⟩ := hi.room d h3
      obtain ⟨c1, _, c3⟩ := cells_of hxs h2 (hi1.evS y h0)
      obtain ⟨w', r1, r2⟩ := sound_box (P := P) (t := t) hi1 (room_free σ d) ⟨c1, c3⟩
      rw [h1] at r2
      exact ⟨_, w', _, S, by simp only [execOp, hop, Sem.run_bind, r1]; rfl, r2, by simpa using Rd.ptr d (T.siz t) 0 0 w.heap.size (by simp [upd])⟩
    · cases h
  · rename_i t n parts d hop hd
    split at h
    · rename_i q e rows hb
      simp only [Option.some.injEq, Prod.mk.injEq] at h
      obtain ⟨rfl, rfl⟩ := h
      obtain ⟨h1, h3⟩ := hp
      refine trip_of_new hd fun μ S a w hi => ?_
      obtain ⟨μ1, hi1⟩ := hi.room d h3
      obtain ⟨w', r1, r2, r3, r4⟩ := sound_buildSlice (P := P) hT hi1 (room_free σ d) hb h1
      refine ⟨_, w', _, S, by simp only [execOp, hop, Sem.run_bind, r1]; rfl, r2, .osl d (T.siz e) 0 n n _ (Nat.le_refl _) (.inr ⟨w.heap.size, e, n * T.siz e, by simp [upd], by simp, r4, by simp⟩)⟩
    · cases h
  · rename_i t d hop hd
    simp only [Option.some.injEq, Prod.mk.injEq] at h
    obtain ⟨rfl, rfl⟩ := h
    refine trip_of_new hd fun μ S a w hi => ?_
    obtain ⟨μ1, hi1⟩ := hi.room d hp
    obtain ⟨w', r1, r2⟩ := sound_makeMap (P := P) (t := t) hi1 (room_free σ d)
    exact ⟨_, w', _, S, by simp only [execOp, hop, Sem.run_bind, Option.map_none, r1]; rfl, r2, .mp d w.heap.size (by simp [upd])⟩
  · rename_i t x y hop hd
    cases e : storeOp T σ t (evS σ x).2 (evS σ y).2 with
    | none => rw [e] at h; cases h
    | some q =>
      simp only [e, Option.map_some, Option.some.injEq, Prod.mk.injEq] at h
      obtain ⟨rfl, rfl⟩ := h
      obtain ⟨h1, h2, h3⟩ := hp
      intro a w K Q ⟨μ, S, hi⟩ hK
      obtain ⟨w', r1, r2⟩ := sound_store (P := P) hT hi (p := q.1) (hp' := q.2) e h3 (hi.evS x h1) (hi.evS y h2)
      unfold Oper.wp
      have : (execOp a.eval o).run P w = .ok .skip w' := by simp only [execOp, hop, Sem.run_bind, r1]; rfl
      rw [this]
      show K (a.put o.dst undef) w'
      rw [hd]
      exact hK _ _ ⟨μ, S, r2⟩
  · rename_i args ats d hop hd
    split at h
    · rename_i x y t u hx ht
      split at h
      · rename_i htu
        subst htu
        cases e : appendOp T σ d t (evS σ x).2 (evS σ y).2 with
        | none => rw [e] at h; cases h
        | some q =>
          simp only [e, Option.map_some, Option.some.injEq, Prod.mk.injEq] at h
          obtain ⟨rfl, rfl⟩ := h
          obtain ⟨h1, h2, h3⟩ := hp
          have e1 : args = #[x, y] := by cases args; simp_all
          have e2 : ats = #[t, t] := by cases ats; simp_all
          subst e1 e2
          refine trip_of_new hd fun μ S a w hi => ?_
          obtain ⟨u, w', μ', r1, r2, r3⟩ := sound_append (P := P) (ty := o.type) hT hi (p := q.1) (σ' := q.2.1) (r := q.2.2) e h3 (hi.evS x h1) (hi.evS y h2)
          exact ⟨u, w', μ', S, by simp [execOp, hop, resolve, invoke, builtin, r1], r2, r3⟩
      · cases h
    · cases h
  · rename_i args ats hop
    split at h
    · rename_i x t hx ht
      cases e : clearOp T σ t (evS σ x).2 with
      | none => rw [e] at h; cases h
      | some q =>
        simp only [e, Option.map_some, Option.some.injEq, Prod.mk.injEq] at h
        obtain ⟨rfl, rfl⟩ := h
        have e1 : args = #[x] := congrArg List.toArray hx
        have e2 : ats = #[t] := congrArg List.toArray ht
        subst e1 e2
        refine trip_held fun μ S a w hi => ?_
        obtain ⟨w', r1, r2⟩ := sound_clear (P := P) (ty := o.type) hT hi (p := q.1) (hp' := q.2) e hp.2 (hi.evS x hp.1)
        exact ⟨_, w', by simp [execOp, hop, resolve, invoke, builtin, r1], r2, .tup #[] [] rfl (fun j x h => by simp at h)⟩
    · cases h
  · rename_i args ats hop
    split at h
    · rename_i x y t u hx ht
      cases e : copyOp T σ t (evS σ x).2 (evS σ y).2 with
      | none => rw [e] at h; cases h
      | some q =>
        simp only [e, Option.map_some, Option.some.injEq, Prod.mk.injEq] at h
        obtain ⟨rfl, rfl⟩ := h
        have e1 : args = #[x, y] := congrArg List.toArray hx
        have e2 : ats = #[t, u] := congrArg List.toArray ht
        subst e1 e2
        refine trip_held fun μ S a w hi => ?_
        obtain ⟨v, w', r1, r2, r3⟩ := sound_copy (P := P) (u := u) (ty := o.type) hT hi (p := q.1) (hp' := q.2.1) (r := q.2.2) e hp.2.2 (hi.evS x hp.1) (hi.evS y hp.2.1)
        exact ⟨v, w', by simp [execOp, hop, resolve, invoke, builtin, r1], r2, r3⟩
    · cases h
  · rename_i args ats hop
    split at h
    · rename_i x y t u hx ht
      cases e : delOp T σ t (evS σ x).2 (evS σ y).2 with
      | none => rw [e] at h; cases h
      | some q =>
        simp only [e, Option.map_some, Option.some.injEq, Prod.mk.injEq] at h
        obtain ⟨rfl, rfl⟩ := h
        have e1 : args = #[x, y] := congrArg List.toArray hx
        have e2 : ats = #[t, u] := congrArg List.toArray ht
        subst e1 e2
        refine trip_held fun μ S a w hi => ?_
        obtain ⟨w', r1, r2⟩ := sound_del (P := P) (u := u) (ty := o.type) hT hi (p := q.1) (hp' := q.2) e hp.2.2 (hi.evS x hp.1) (hi.evS y hp.2.1)
        exact ⟨_, w', by simp [execOp, hop, resolve, invoke, builtin, r1], r2, .tup #[] [] rfl (fun j x h => by simp at h)⟩
    · cases h
  · rename_i t m k x hop hd
    cases e : putOp T σ t (evS σ m).2 (evS σ k).2 (evS σ x).2 with
    | none => rw [e] at h; cases h
    | some q =>
      simp only [e, Option.map_some, Option.some.injEq, Prod.mk.injEq] at h
      obtain ⟨rfl, rfl⟩ := h
      refine trip_skip hd fun μ S a w hi => ?_
      obtain ⟨w', r1, r2⟩ := sound_put (P := P) hT hi (p := q.1) (hp' := q.2) e hp.2.2.2 (hi.evS m hp.1) (hi.evS k hp.2.1) (hi.evS x hp.2.2.1)
      exact ⟨w', by simp only [execOp, hop, Sem.run_bind, r1]; rfl, r2⟩
  · rename_i t m k x hop hd
    cases e : putOp T σ t (evS σ m).2 (evS σ k).2 (evS σ x).2 with
    | none => rw [e] at h; cases h
    | some q =>
      simp only [e, Option.map_some, Option.some.injEq, Prod.mk.injEq] at h
      obtain ⟨rfl, rfl⟩ := h
      refine trip_skip hd fun μ S a w hi => ?_
      obtain ⟨w', r1, r2⟩ := sound_put (P := P) hT hi (p := q.1) (hp' := q.2) e hp.2.2.2 (hi.evS m hp.1) (hi.evS k hp.2.1) (hi.evS x hp.2.2.1)
      exact ⟨w', by simp only [execOp, hop, Sem.run_bind, r1]; rfl, r2⟩
  · exact hpure h

/-! ### Lists of operations -/

/-- From every state that reads as 'σ' the list leads to 'Q'. -/
def WpL (P : Program) (C : Ctx) (ops : Array Oper) (l : List Oper) (Q : Exit → Act → World → Prop) (σ : St) : Prop := ∀ a w, Rel C σ a w → wpList P ops Q l a w

/-- under which condition an operation is carried out -/
def guardOf (ops : Array Oper) (σ : St) (g : Option (Nat × Bool)) : Option Bool :=
  match g with
  | none => some true
  | some (j, want) =>
    match (ops[j]?).bind (·.dst) with
    | some d =>
      match σ.tm.getD d .any with
      | .bool b => some (b == want)
      | .cnd c (.bool b) => some (c && (b == want))
      | _ => none
    | none => none

theorem wanted_of {ops : Array Oper} {o : Oper} {c : Bool} {μ : Nat → Option Nat} {S : Nat → Prop} {a : Act} {w : World} (hi : Inv C μ S σ a w) (h : guardOf ops σ o.guard = some c) :
    Region.wanted o (yielded ops a.tmps) = c := by
  unfold Region.wanted
  unfold guardOf at h
  split at h
  · rename_i hg
    injection h with h; subst h
    rw [hg]
  · rename_i j want hg
    rw [hg]
    split at h
    · rename_i d hd
      have hv := hi.ev (.tmp d)
      simp only [Act.eval, Eng.ev] at hv
      have hy : yielded ops a.tmps j = match a.tmps[d]? with | some (.bool b) => some b | _ => none := by
        unfold yielded; rw [hd]; rfl
      simp only [hy]
      split at h
      · rename_i b hb
        injection h with h; subst h
        rw [hb] at hv
        have := hv.inv_bool
        rw [Array.getD_eq_getD_getElem?] at this
        cases e : a.tmps[d]? with
        | none => rw [e] at this; cases this
        | some v => rw [e] at this; simp only [Option.getD_some] at this; subst this; cases b <;> cases want <;> rfl
      · rename_i g b hb
        injection h with h; subst h
        rw [hb] at hv
        rw [Array.getD_eq_getD_getElem?] at hv
        cases e : a.tmps[d]? with
        | none =>
          rw [e] at hv
          simp only [Option.getD_none] at hv
          cases g with
          | false => cases want <;> rfl
          | true =>
            cases hv with
            | pure h => cases h
            | cndT _ _ h => cases h.inv_bool
        | some v =>
          rw [e] at hv
          simp only [Option.getD_some] at hv
          cases hv with
          | pure h => cases h
          | cndT _ _ h => obtain rfl := h.inv_bool; cases b <;> cases want <;> rfl
          | cndF => cases want <;> rfl
      · cases h
    · cases h

theorem wpL_step {ops : Array Oper} {o : Oper} {l : List Oper} {Q : Exit → Act → World → Prop} (hg : guardOf ops σ o.guard = some true) (ht : Trip P C o σ σ') (h : WpL P C ops l Q σ') : WpL P C ops (o :: l) Q σ := by
  intro a w hr
  unfold wpList
  obtain ⟨μ, S, hi⟩ := hr
  rw [wanted_of hi hg]
  exact .inl (ht a w _ Q ⟨μ, S, hi⟩ fun a' w' hr' => h a' w' hr')

theorem wpL_skip {ops : Array Oper} {o : Oper} {l : List Oper} {Q : Exit → Act → World → Prop} (hg : guardOf ops σ o.guard = some false) (h : WpL P C ops l Q (σ.put o.dst .any)) : WpL P C ops (o :: l) Q σ := by
  intro a w hr
  unfold wpList
  obtain ⟨μ, S, hi⟩ := hr
  rw [wanted_of hi hg]
  exact h _ _ ⟨μ, S, hi.put o.dst (.any _)⟩

/-- a value behind a guard, of one that may be behind one itself -/
def mkc (c : Bool) : AV → AV
  | .cnd d y => .cnd (c && d) y
  | x => .cnd c x

theorem rd_mkc {μ : Nat → Option Nat} {S : Nat → Prop} {w : World} {v : Value} {c : Bool} {x : AV} (h : Rd μ S w v (.cnd c x)) : Rd μ S w v (mkc c x) := by
  unfold mkc
  split
  · rename_i d y
    cases h with
    | pure h => cases h
    | cndT _ _ h =>
      cases h with
      | pure h => cases h
      | cndT _ _ h => exact .cndT _ _ h
      | cndF _ => exact .cndF _
    | cndF _ => exact .cndF _
  · exact h

/-- An operation behind a guard that is not decided: its value, under the condition. -/
theorem wpL_cnd (hT : TabOK P T) {ops : Array Oper} {o : Oper} {l : List Oper} {Q : Exit → Act → World → Prop} {c : Bool} {p : Prop} {x : AV} (hg : guardOf ops σ o.guard = some c) (hs : pureOp T σ o.op = some (p, x)) (hp : c = true → p)
    (h : WpL P C ops l Q (σ.put o.dst (mkc c x))) : WpL P C ops (o :: l) Q σ := by
  intro a w hr
  unfold wpList
  obtain ⟨μ, S, hi⟩ := hr
  rw [wanted_of hi hg]
  cases c with
  | false => exact h _ _ ⟨μ, S, hi.put o.dst (rd_mkc (.cndF x))⟩
  | true =>
    refine .inl ?_
    obtain ⟨u, h1, h2⟩ := sound_pure hT hi o hs (hp rfl)
    unfold Oper.wp
    rw [h1]
    exact h _ _ ⟨μ, S, hi.put o.dst (rd_mkc (.cndT u x h2))⟩

/-- is it a call of a function? -/
def isCall : Op → Bool
  | .call { callee := .value _, .. } => true
  | _ => false

/-- A LIST IS RUN AS FAR AS THE FIRST CALL OF A FUNCTION: what is left of it, the state, and under which condition. -/
def runL (T : Tab) (ops : Array Oper) : List Oper → St → Option (Prop × List Oper × St)
  | [], σ => some (True, [], σ)
  | o :: l, σ =>
    if isCall o.op then some (True, o :: l, σ) else
    match o.guard with
    | none =>
      match stepOp T σ o.dst o.op with
      | some (p, σ') => (runL T ops l σ').map fun r => (p ∧ r.1, r.2)
      | none => some (True, o :: l, σ)
    | some g =>
      match pureOp T σ o.op with
      | some (p, x) =>
        match guardOf ops σ (some g) with
        | some c => (runL T ops l (σ.put o.dst (mkc c x))).map fun r => ((c = true → p) ∧ r.1, r.2)
        | none => some (True, o :: l, σ)
      | none =>
        match guardOf ops σ (some g) with
        | some c =>
          if c = true then
            match stepOp T σ o.dst o.op with
            | some (p, σ') => (runL T ops l σ').map fun r => (p ∧ r.1, r.2)
            | none => some (True, o :: l, σ)
          else runL T ops l (σ.put o.dst .any)
        | none => some (True, o :: l, σ)

theorem runL_sound (hT : TabOK P T) (ops : Array Oper) {Q : Exit → Act → World → Prop} : ∀ (l : List Oper) (σ : St) {p : Prop} {l' : List Oper} {σ' : St}, runL T ops l σ = some (p, l', σ') → p → WpL P C ops l' Q σ' → WpL P C ops l Q σ
  | [], σ, p, l', σ', h, _, hK => by
    simp only [runL, Option.some.injEq, Prod.mk.injEq] at h
    obtain ⟨_, rfl, rfl⟩ := h
    exact hK
  | o :: l, σ, p, l', σ', h, hp, hK => by
    unfold runL at h
    split at h
    · simp only [Option.some.injEq, Prod.mk.injEq] at h
      obtain ⟨_, rfl, rfl⟩ := h
      exact hK
    · split at h
      · rename_i hg
        split at h
        · rename_i q σ1 hs
          cases e : runL T ops l σ1 with
          | none => rw [e] at h; cases h
          | some r =>
            obtain ⟨r1, r2, r3⟩ := r
            simp only [e, Option.map_some, Option.some.injEq, Prod.mk.injEq] at h
            obtain ⟨rfl, rfl, rfl⟩ := h
            exact wpL_step (by rw [hg]; rfl) (step_sound hT o hs hp.1) (runL_sound hT ops l σ1 e hp.2 hK)
        · simp only [Option.some.injEq, Prod.mk.injEq] at h
          obtain ⟨_, rfl, rfl⟩ := h
          exact hK
      · rename_i g hg
        split at h
        · rename_i q x hs
          split at h
          · rename_i c hc
            cases e : runL T ops l (σ.put o.dst (mkc c x)) with
            | none => rw [e] at h; cases h
            | some r =>
              obtain ⟨r1, r2, r3⟩ := r
              simp only [e, Option.map_some, Option.some.injEq, Prod.mk.injEq] at h
              obtain ⟨rfl, rfl, rfl⟩ := h
              exact wpL_cnd hT (by rw [hg]; exact hc) hs hp.1 (runL_sound hT ops l _ e hp.2 hK)
          · simp only [Option.some.injEq, Prod.mk.injEq] at h
            obtain ⟨_, rfl, rfl⟩ := h
            exact hK
        · split at h
          · rename_i c hc
            split at h
            · rename_i hct
              subst hct
              split at h
              · rename_i q σ1 hs
                cases e : runL T ops l σ1 with
                | none => rw [e] at h; cases h
                | some r =>
                  obtain ⟨r1, r2, r3⟩ := r
                  simp only [e, Option.map_some, Option.some.injEq, Prod.mk.injEq] at h
                  obtain ⟨rfl, rfl, rfl⟩ := h
                  exact wpL_step (by rw [hg]; exact hc) (step_sound hT o hs hp.1) (runL_sound hT ops l σ1 e hp.2 hK)
              · simp only [Option.some.injEq, Prod.mk.injEq] at h
                obtain ⟨_, rfl, rfl⟩ := h
                exact hK
            · rename_i hct
              have hcf : c = false := by simpa using hct
              subst hcf
              exact wpL_skip (by rw [hg]; exact hc) (runL_sound hT ops l _ h hp hK)
          · simp only [Option.some.injEq, Prod.mk.injEq] at h
            obtain ⟨_, rfl, rfl⟩ := h
            exact hK

/-- the same, where more is to follow -/
theorem runL_then (hT : TabOK P T) (ops : Array Oper) (l2 : List Oper) {Q : Exit → Act → World → Prop} : ∀ (l : List Oper) (σ : St) {p : Prop} {l' : List Oper} {σ' : St}, runL T ops l σ = some (p, l', σ') → p → WpL P C ops (l' ++ l2) Q σ' → WpL P C ops (l ++ l2) Q σ
  | [], σ, p, l', σ', h, _, hK => by
    simp only [runL, Option.some.injEq, Prod.mk.injEq] at h
    obtain ⟨_, rfl, rfl⟩ := h
    exact hK
  | o :: l, σ, p, l', σ', h, hp, hK => by
    unfold runL at h
    split at h
    · simp only [Option.some.injEq, Prod.mk.injEq] at h
      obtain ⟨_, rfl, rfl⟩ := h
      exact hK
    · split at h
      · rename_i hg
        split at h
        · rename_i q σ1 hs
          cases e : runL T ops l σ1 with
          | none => rw [e] at h; cases h
          | some r =>
            obtain ⟨r1, r2, r3⟩ := r
            simp only [e, Option.map_some, Option.some.injEq, Prod.mk.injEq] at h
            obtain ⟨rfl, rfl, rfl⟩ := h
            exact wpL_step (by rw [hg]; rfl) (step_sound hT o hs hp.1) (runL_then hT ops l2 l σ1 e hp.2 hK)
        · simp only [Option.some.injEq, Prod.mk.injEq] at h
          obtain ⟨_, rfl, rfl⟩ := h
          exact hK
      · rename_i g hg
        split at h
        · rename_i q x hs
          split at h
          · rename_i c hc
            cases e : runL T ops l (σ.put o.dst (mkc c x)) with
            | none => rw [e] at h; cases h
            | some r =>
              obtain ⟨r1, r2, r3⟩ := r
              simp only [e, Option.map_some, Option.some.injEq, Prod.mk.injEq] at h
              obtain ⟨rfl, rfl, rfl⟩ := h
              exact wpL_cnd hT (by rw [hg]; exact hc) hs hp.1 (runL_then hT ops l2 l _ e hp.2 hK)
          · simp only [Option.some.injEq, Prod.mk.injEq] at h
            obtain ⟨_, rfl, rfl⟩ := h
            exact hK
        · split at h
          · rename_i c hc
            split at h
            · rename_i hct
              subst hct
              split at h
              · rename_i q σ1 hs
                cases e : runL T ops l σ1 with
                | none => rw [e] at h; cases h
                | some r =>
                  obtain ⟨r1, r2, r3⟩ := r
                  simp only [e, Option.map_some, Option.some.injEq, Prod.mk.injEq] at h
                  obtain ⟨rfl, rfl, rfl⟩ := h
                  exact wpL_step (by rw [hg]; exact hc) (step_sound hT o hs hp.1) (runL_then hT ops l2 l σ1 e hp.2 hK)
              · simp only [Option.some.injEq, Prod.mk.injEq] at h
                obtain ⟨_, rfl, rfl⟩ := h
                exact hK
            · rename_i hct
              have hcf : c = false := by simpa using hct
              subst hcf
              exact wpL_skip (by rw [hg]; exact hc) (runL_then hT ops l2 l _ h hp hK)
          · simp only [Option.some.injEq, Prod.mk.injEq] at h
            obtain ⟨_, rfl, rfl⟩ := h
            exact hK

end
end Go.Eng
