/- The abstract machine, part V: a result that is held is one that is read. No condition. -/
import Derived.Test.YtldpfleilffanaaEngU
namespace Go.Eng
section
variable {P : Program}

theorem osl_pure {μ : Nat → Option Nat} {S : Nat → Prop} {w : World} {v : Value} {id s off len e : Nat} {rows : List (List AV)} (hv : Rd μ S w v (.osl id s off len)) (hB : BlkOK μ S w id (.cells e s rows))
    (hp : (rows.all fun row => row.all AV.pureB) = true) (hle : off + len ≤ rows.length) : RdP (fun b => S b ∨ μ id = some b) w v (.sl ((rows.drop off).take len)) := by
  have hpure : ∀ (i : Nat) row, rows[i]? = some row → ∀ (j : Nat) x, row[j]? = some x → x.pureB = true := fun i row hi j x hj => List.all_eq_true.1 (List.all_eq_true.1 hp row (List.mem_of_getElem? hi)) x (List.mem_of_getElem? hj)
  obtain ⟨A, cap, rfl, hc, h⟩ := hv.inv_osl
  have hl : ((rows.drop off).take len).length = len := by simp; omega
  rcases h with ⟨rfl, h2⟩ | ⟨g, e', n, h1, rfl, h3, h4⟩
  · exact .sl A 0 cap _ s 0 0 (fun _ _ => undef) hl hc (fun row h => by simp at h) (fun h => by omega) (fun i j h => by omega) (fun i row h => by simp at h)
  · rcases hB with ⟨_, k2⟩ | ⟨g', c, k1, k2, k3, k4, k5⟩
    · rw [k2] at h1; cases h1
    · rw [k1] at h1; injection h1 with h1; subst h1
      refine .sl _ len cap _ s g' (off * s) (fun i j => c.getD ((off + i) * s + j) undef) hl hc (fun row h => k4 row (List.mem_of_mem_drop (List.mem_of_mem_take h))) (fun _ => ⟨rfl, .inr k1⟩) (fun i' j hi' hj => ?_) (fun i' row h j x hx => ?_)
      · have hlt : (off + i') * s + s ≤ rows.length * s := by
          have := Nat.mul_le_mul_right s (show off + i' + 1 ≤ rows.length by omega)
          rwa [Nat.succ_mul] at this
        rw [show off * s + (i' * s + j) = (off + i') * s + j from by rw [Nat.add_mul]; omega, cell_of k2, Array.getD_eq_getD_getElem?, Array.getElem?_eq_getElem (by omega)]
        rfl
      · rw [List.getElem?_take] at h
        split at h
        · rw [List.getElem?_drop] at h
          exact ((k5 _ row h j x hx).toP (hpure _ _ h _ _ hx)).mono (SameOn.refl _ _) (fun _ h => .inl h)
        · cases h

/-- A SLICE THAT IS HANDED BACK TO BE HELD MAY AS WELL BE READ ALONE. -/
theorem FnOK.read {f : FuncId} {args : List AV} {H : List (Nat × Blk)} {id s e : Nat} {rows : List (List AV)} (h : FnOK P f args H fun r H' => r = .osl id s 0 rows.length ∧ ∀ i b, hget [(id, .cells e s rows)] i = some b → hget H' i = some b)
    (hp : (rows.all fun row => row.all AV.pureB) = true) : FnOK P f args H fun r _ => r = .sl rows := by
  intro R0 μ w0 vs hl ha hH hR
  refine (h R0 μ w0 vs hl ha hH hR).mono ?_
  rintro e' w' ⟨v, r, H', μ', S', rfl, ⟨rfl, hb⟩, h4, h5, h6, h7, h8⟩
  have hb := hb id (.cells e s rows) (by simp only [hget, if_true])
  have hrd := osl_pure h4 (h5.blk id _ hb) hp (by omega)
  simp only [List.drop_zero, List.take_length] at hrd
  refine ⟨v, _, [], fun _ => none, _, rfl, rfl, .pure hrd, ⟨fun i b h => by simp [hget] at h, fun i g h => (by cases h), fun i j g h => (by cases h)⟩, h6, fun i g h => (by cases h), fun b hb' => ?_⟩
  rcases hb' with h | h
  · exact h8 b h
  · refine ⟨(h5.dom id b h).2.2, ?_⟩
    rcases h7 id b h with h | h
    · exact .inr (.inl h)
    · exact .inr (.inr h)
end
end Go.Eng
