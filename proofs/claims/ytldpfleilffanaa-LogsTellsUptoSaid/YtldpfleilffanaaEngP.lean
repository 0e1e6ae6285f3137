/- The abstract machine, part P: plain regions that draw, what may be forgotten of a state, contracts as calls. No condition. -/
import Derived.Test.YtldpfleilffanaaEngO
namespace Go.Eng
section
variable {P : Program} {T : Tab} {C : Ctx} {σ σ' s : St} {Ret : St → Prop} {k : List It}

theorem runD_len : ∀ {ops : Array Oper} {l : List Oper} {σ : St} {p : Prop} {ps : List Sp} {l' : List Oper} {σ' : St}, runD T ops l σ = some (p, ps, l', σ') → l.length = ps.length + l'.length ∧ appAll ps σ = σ' ∧ ∀ (i : Nat) q, ps[i]? = some q → q.new = []
  | ops, [], σ, p, ps, l', σ', h => by
    simp only [runD, Option.some.injEq, Prod.mk.injEq] at h
    obtain ⟨_, rfl, rfl, rfl⟩ := h
    exact ⟨rfl, rfl, fun i q h => by simp at h⟩
  | ops, o :: l, σ, p, ps, l', σ', h => by
    unfold runD at h
    split at h
    · rename_i q x hpo
      have fin : ∀ (y : AV) {f : Prop → Prop}, (runD T ops l (σ.put o.dst y)).map (fun r => (f r.1, spPure ops σ o y :: r.2.1, r.2.2)) = some (p, ps, l', σ') →
          (o :: l).length = ps.length + l'.length ∧ appAll ps σ = σ' ∧ ∀ (i : Nat) q, ps[i]? = some q → q.new = [] := by
        intro y f h
        cases e : runD T ops l (σ.put o.dst y) with
        | none => rw [e] at h; cases h
        | some r =>
          obtain ⟨r1, r2, r3, r4⟩ := r
          simp only [e, Option.map_some, Option.some.injEq, Prod.mk.injEq] at h
          obtain ⟨_, rfl, rfl, rfl⟩ := h
          obtain ⟨h1, h2, h3⟩ := runD_len e
          refine ⟨by simp [h1]; omega, by simp only [appAll, spPure_app]; exact h2, fun i q hq => ?_⟩
          cases i with
          | zero => simp only [List.getElem?_cons_zero, Option.some.injEq] at hq; subst hq; rfl
          | succ i => exact h3 i q (by simpa using hq)
      split at h
      · exact fin x (f := fun r => q ∧ r) h
      · split at h
        · rename_i c _
          exact fin (mkc c x) (f := fun r => (c = true → q) ∧ r) h
        · cases h
    · simp only [Option.some.injEq, Prod.mk.injEq] at h
      obtain ⟨_, rfl, rfl, rfl⟩ := h
      exact ⟨by simp, rfl, fun i q h => by simp at h⟩

/-- the places written lie inside the frame -/
def dstOK (n : Nat) (sk : Skel) : Bool := sk.all fun p => p.1.all fun | .tm t => decide (t < n) | .blk _ => true

/-- A REGION THAT DRAWS, OF PLAIN OPERATIONS ALONE. -/
theorem cw_drawn (hT : TabOK P T) (hm : P.follows .mixedOrders = true) {id : Nat} {ops : Array Oper} {p : Prop} {ps : List Sp} (h : runD T ops ops.toList σ = some (p, ps, [], σ')) (hp : p) {sk : Skel} (hs : skel ps = sk)
    (hc : (segOK ops 0 sk && dstOK σ.tm.length sk) = true) (hk : Cw P C Ret k σ') : Cw P C Ret (.code (.region id ops true) :: k) σ := by
  subst hs
  rw [Bool.and_eq_true] at hc
  obtain ⟨h1, h2, h3⟩ := runD_len h
  obtain ⟨l1, k1, k2⟩ := runD_sound (P := P) (C := C) hT ops ops.toList σ h hp (l2 := []) (ps2 := []) trivial (by simp)
  simp only [List.append_nil] at k1 k2
  subst k1
  refine cw_draw hm (draw_seg (l := ops.toList) (ps := ps) hc.1 (by simpa using h1) (fun i hi => by simp) (fun i q t hq hd => ?_) (fun i q hq b hb => by rw [h3 i q hq] at hb; cases hb) k2 ?_)
  · have := List.all_eq_true.1 hc.2 (q.wr, q.rd) (List.mem_map.2 ⟨q, List.mem_of_getElem? hq, rfl⟩)
    have := List.all_eq_true.1 this (.tm t) (wr_tm hd)
    simpa using this
  · rw [h2]
    exact draw_close (by simpa using h1.symm) hk

/-! ### What may be forgotten -/

def leAny : List AV → List AV → Prop
  | [], [] => True
  | x :: l, y :: m => (y = .any ∨ x = y) ∧ leAny l m
  | _, _ => False

theorem leAny_get : ∀ {l m : List AV}, leAny l m → l.length = m.length ∧ ∀ (t : Nat) y, m[t]? = some y → y = .any ∨ l[t]? = some y
  | [], [], _ => ⟨rfl, fun t y h => by simp at h⟩
  | x :: l, y :: m, h => by
    obtain ⟨h1, h2⟩ := leAny_get h.2
    refine ⟨by simp [h1], fun t z hz => ?_⟩
    cases t with
    | zero =>
      simp only [List.getElem?_cons_zero, Option.some.injEq] at hz ⊢
      subst hz
      exact h.1
    | succ t => simpa using h2 t z (by simpa using hz)
  | [], _ :: _, h => h.elim
  | _ :: _, [], h => h.elim

/-- slots are forgotten -/
theorem le_any {l m : List AV} {H : List (Nat × Blk)} (h : leAny l m) : Le C ⟨l, H⟩ ⟨m, H⟩ := by
  intro a w ⟨μ, S, hi⟩
  obtain ⟨h1, h2⟩ := leAny_get h
  refine ⟨μ, S, by rw [hi.size]; exact h1, hi.defers, fun t y hy => ?_, hi.hp, hi.dom, hi.inj, hi.frm, hi.sb⟩
  rcases h2 t y hy with rfl | h
  · exact .any _
  · exact hi.tm t y h

theorem le_anyH {l m : List AV} {H H' : List (Nat × Blk)} (hH : H = H') (h : leAny l m) : Le C ⟨l, H⟩ ⟨m, H'⟩ := by subst hH; exact le_any h

theorem wrap_small {n : Int} (h : -9223372036854775808 ≤ n) (h2 : n ≤ 9223372036854775807) : IntKind.i64.wrap n = n := by
  simp [IntKind.wrap, IntKind.signed, IntKind.bits]; omega

def setAll (l : List AV) : List (Nat × AV) → List AV
  | [] => l
  | (t, x) :: r => setAll (l.set t x) r

def hsetAll (h : List (Nat × Blk)) : List (Nat × Blk) → List (Nat × Blk)
  | [] => h
  | (t, x) :: r => hsetAll (hset h t x) r

/-- A LOOP: what changes, by round; the rest is as it was. -/
theorem cw_loopS {ι : Type} (J : ι → Prop) (m : ι → Nat) (f : ι → List (Nat × AV)) (g : ι → List (Nat × Blk)) (i0 : ι) {c : Code} {l : List AV} {H : List (Nat × Blk)} (hJ : J i0) (h0 : Le C ⟨l, H⟩ ⟨setAll l (f i0), hsetAll H (g i0)⟩)
    (round : ∀ i, J i → Cw P C Ret (.code c :: .back (fun s => ∃ j, J j ∧ m j < m i ∧ Le C s ⟨setAll l (f j), hsetAll H (g j)⟩) :: k) ⟨setAll l (f i), hsetAll H (g i)⟩) : Cw P C Ret (.code (.loop c) :: k) ⟨l, H⟩ := by
  refine cw_loop (ι := { i // J i }) (fun i => ⟨setAll l (f i.1), hsetAll H (g i.1)⟩) (fun i => m i.1) ⟨i0, hJ⟩ h0 fun i => ?_
  intro a w hr
  have := round i.1 i.2 a w hr
  refine wp_mono this fun e a w q => ?_
  cases e with
  | normal =>
    obtain ⟨s, ⟨j, hj, hm, hle⟩, hrs⟩ := q
    exact ⟨s, ⟨⟨j, hj⟩, hm, hle⟩, hrs⟩
  | _ => exact q

theorem Le.refl (C : Ctx) (σ : St) : Le C σ σ := fun _ _ h => h
theorem Le.trans {σ1 σ2 σ3 : St} (h : Le C σ1 σ2) (k : Le C σ2 σ3) : Le C σ1 σ3 := fun a w r => k a w (h a w r)

/-- CALLED WITH WHAT HOLDS NOTHING. -/
theorem calls_of_fn {f : FuncId} {args : List AV} {r : AV} (h : FnOK P f args [] fun r' _ => r' = r) {w : World} {vs : List Value} (hl : vs.length = args.length) {S : Nat → Prop}
    (hargs : ∀ (j : Nat) x, args[j]? = some x → RdP S w (vs.getD j undef) x) (hS : ∀ b, S b → b < w.heap.size) :
    Calls P f vs.toArray w fun e w' => ∃ v μ S', e = .returned v ∧ Rd μ S' w' v r ∧ Frm (fun _ => False) w w' := by
  refine (h S (fun _ => none) w vs hl (fun j x hx => .pure (hargs j x hx)) ⟨fun id b h => by simp [hget] at h, fun id g h => (by cases h), fun id id' g h => (by cases h)⟩ hS).mono ?_
  rintro e w' ⟨v, r', H', μ', S', rfl, rfl, k1, _, k3, _, _⟩
  exact ⟨v, μ', S', rfl, k1, ⟨k3.os, k3.tape, k3.output, k3.size, fun b hb _ => k3.block b hb (by rintro ⟨id, h⟩; cases h)⟩⟩
end
end Go.Eng
