/- The abstract machine, part N: code is run as far as it is plain. No condition. -/
import Derived.Test.YtldpfleilffanaaEngL
namespace Go.Eng
section
variable {P : Program} {T : Tab} {C : Ctx} {σ σ' : St} {Ret : St → Prop}

/-- CODE IS RUN AS FAR AS THE NEXT CALL, TEST, LOOP, OR END. -/
def go (T : Tab) : Nat → List It → St → Option (Prop × List It × St)
  | 0, k, σ => some (True, k, σ)
  | n + 1, k, σ =>
    match k with
    | .code (.seq x y) :: k => go T n (.code x :: .code y :: k) σ
    | .code (.block id c) :: k => go T n (.code c :: .blk id :: k) σ
    | .code .skip :: k => go T n k σ
    | .blk _ :: k => go T n k σ
    | .code (.exit id) :: k =>
      match exitTo id k with
      | some k' => go T n k' σ
      | none => none
    | .code (.region _ ops false) :: k => go T n (.ops ops ops.toList :: k) σ
    | .ops all l :: k =>
      match runL T all l σ with
      | some (p, [], σ') => (go T n k σ').map fun r => (p ∧ r.1, r.2)
      | some (p, o :: l', σ') => some (p, .ops all (o :: l') :: k, σ')
      | none => none
    | k => some (True, k, σ)

theorem cw_go (hT : TabOK P T) : ∀ (n : Nat) {k k' : List It} {σ σ' : St} {p : Prop}, go T n k σ = some (p, k', σ') → p → Cw P C Ret k' σ' → Cw P C Ret k σ
  | 0, k, k', σ, σ', p, h, _, hk => by
    simp only [go, Option.some.injEq, Prod.mk.injEq] at h
    obtain ⟨_, rfl, rfl⟩ := h
    exact hk
  | n + 1, k, k', σ, σ', p, h, hp, hk => by
    unfold go at h
    split at h
    · exact cw_seq (cw_go hT n h hp hk)
    · exact cw_block (cw_go hT n h hp hk)
    · exact cw_skip (cw_go hT n h hp hk)
    · exact cw_blk (cw_go hT n h hp hk)
    · split at h
      · rename_i k1 he
        exact cw_exit he (cw_go hT n h hp hk)
      · cases h
    · exact cw_region (cw_go hT n h hp hk)
    · rename_i all l k2
      split at h
      · rename_i q σ1 hr
        cases e : go T n k2 σ1 with
        | none => rw [e] at h; cases h
        | some r =>
          obtain ⟨r1, r2, r3⟩ := r
          simp only [e, Option.map_some, Option.some.injEq, Prod.mk.injEq] at h
          obtain ⟨rfl, rfl, rfl⟩ := h
          exact cw_run hT hr hp.1 (cw_ops_nil (cw_go hT n e hp.2 hk))
      · rename_i q o l' σ1 hr
        simp only [Option.some.injEq, Prod.mk.injEq] at h
        obtain ⟨rfl, rfl, rfl⟩ := h
        exact cw_run hT hr hp hk
      · cases h
    · simp only [Option.some.injEq, Prod.mk.injEq] at h
      obtain ⟨_, rfl, rfl⟩ := h
      exact hk
end
end Go.Eng
