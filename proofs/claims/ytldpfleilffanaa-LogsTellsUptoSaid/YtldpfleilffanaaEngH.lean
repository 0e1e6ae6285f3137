/- The abstract machine, part H: append. No condition. -/
import Derived.Test.YtldpfleilffanaaEngG
namespace Go.Eng
section
variable {P : Program} {T : Tab} {C : Ctx} {μ : Nat → Option Nat} {S : Nat → Prop} {σ : St} {a : Act} {w : World}

/-- what is held under 'id' is held under 'd' -/
def mv (μ : Nat → Option Nat) (id d : Nat) : Nat → Option Nat := fun i => if i = d then μ id else if i = id then none else μ i

theorem Rd.moved {v : Value} {x : AV} (h : Rd μ S w v x) {id d : Nat} (hn : id ∉ refs x) (hd : d = id ∨ μ d = none) : Rd (mv μ id d) S w v x := by
  have key : ∀ i g, μ i = some g → i ≠ id → mv μ id d i = some g := fun i g hg hi => by
    unfold mv
    split
    · rename_i e
      subst e
      rcases hd with rfl | hd
      · exact hg
      · rw [hd] at hg; cases hg
    · first | exact hg | (rw [if_neg hi]; exact hg)
  induction h with
  | any v => exact .any v
  | pure h => exact .pure h
  | agg cs cells hl hr ih => exact .agg cs cells hl (fun j x hx => ih j x hx (fun h => hn (by simp only [refs]; exact refsL_mem hx h)))
  | tup vs xs hl hr ih => exact .tup vs xs hl (fun j x hx => ih j x hx (fun h => hn (by simp only [refs]; exact refsL_mem hx h)))
  | fn f vals caps hl hr ih => exact .fn f vals caps hl (fun j x hx => ih j x hx (fun h => hn (by simp only [refs]; exact refsL_mem hx h)))
  | ptr i size row off g' hg => exact .ptr i size row off g' (key _ _ hg (by rintro rfl; exact hn (by simp [refs])))
  | osl i size off len cap A hc h =>
    refine .osl i size off len cap A hc ?_
    rcases h with h | ⟨g', e, n, h1, h2, h3, h4⟩
    · exact .inl h
    · exact .inr ⟨g', e, n, key _ _ h1 (by rintro rfl; exact hn (by simp [refs])), h2, h3, h4⟩
  | mp i g' hg => exact .mp i g' (key _ _ hg (by rintro rfl; exact hn (by simp [refs])))
  | cndT v x h ih => exact .cndT v x (ih (fun h => hn (by simpa [refs] using h)))
  | cndF x => exact .cndF x

theorem BlkOK.moved {id d i j : Nat} {b : Blk} (h : BlkOK μ S w i b) (hf : BlkFree id b) (hd : d = id ∨ μ d = none) (hj : mv μ id d j = μ i) : BlkOK (mv μ id d) S w j b := by
  cases b with
  | cells t s rows =>
    simp only [BlkOK, hj]
    rcases h with h | ⟨g', c, h1, h2, h3, h4, h5⟩
    · exact .inl h
    · exact .inr ⟨g', c, h1, h2, h3, h4, fun k row hk j x hx => (h5 k row hk j x hx).moved (rowsFree hf row (List.mem_of_getElem? hk) x (List.mem_of_getElem? hx)) hd⟩
  | map kvs => simp only [BlkOK, hj]; exact h
  | iter kvs seen => simp only [BlkOK, hj]; exact h

/-- WHAT IS HELD UNDER ONE NUMBER IS HELD UNDER ANOTHER ONE, and all that names the elder one is forgotten. -/
theorem Inv.move (hi : Inv C μ S σ a w) {id d : Nat} {b : Blk} (hb : hget σ.hp id = some b) (hd : d = id ∨ hget σ.hp d = none) (hf : HpFree id σ.hp) (hbf : BlkFree id b) :
    Inv C (mv μ id d) S ⟨σ.tm.map (kill id), (d, b) :: hdel σ.hp id⟩ a w := by
  have hd' : d = id ∨ μ d = none := hd.imp (fun h => h) (fun h => hi.fresh h)
  refine ⟨by simp [hi.size], hi.defers, fun t x hx => ?_, fun i c hc => ?_, fun i g hg => ?_, fun i j g h1 h2 => ?_, hi.frm, hi.sb⟩
  · simp only [List.getElem?_map] at hx
    cases e : σ.tm[t]? with
    | none => rw [e] at hx; cases hx
    | some y =>
      rw [e] at hx
      simp only [Option.map_some, Option.some.injEq] at hx
      subst hx
      unfold kill
      split
      · exact .any _
      · rename_i hn
        exact (hi.tm t y e).moved (by simpa using hn) hd'
  · simp only [hget, hget_hdel] at hc
    split at hc
    · rename_i e
      injection hc with hc; subst hc e
      exact (hi.hp id b hb).moved hbf hd' (by simp [mv])
    · rename_i e
      split at hc
      · cases hc
      · rename_i e'
        refine (hi.hp i c hc).moved (hf.get hc (fun h => e' h.symm)) hd' ?_
        unfold mv; rw [if_neg (fun h => e h.symm), if_neg (fun h => e' h.symm)]
  · unfold mv at hg
    split at hg
    · rename_i e
      obtain ⟨_, h2⟩ := hi.dom id g hg
      exact ⟨⟨b, by simp [hget, e]⟩, h2⟩
    · rename_i e
      split at hg
      · cases hg
      · rename_i e'
        obtain ⟨⟨c, h1⟩, h2⟩ := hi.dom i g hg
        exact ⟨⟨c, by simp only [hget, hget_hdel]; rw [if_neg (fun h => e h.symm), if_neg (fun h => e' h.symm)]; exact h1⟩, h2⟩
  · unfold mv at h1 h2
    split at h1
    · split at h2
      · simp_all
      · split at h2
        · cases h2
        · rename_i e1 e2 e3
          exact absurd (hi.inj _ _ _ h1 h2) (fun h => e3 h.symm)
    · split at h1
      · cases h1
      · split at h2
        · rename_i e1 e2 e3
          exact absurd (hi.inj _ _ _ h2 h1) (fun h => e2 h.symm)
        · split at h2
          · cases h2
          · exact hi.inj i j g h1 h2

theorem hpFree_hset {id : Nat} {b : Blk} : ∀ {h : List (Nat × Blk)}, HpFree id h → HpFree id (hset h id b)
  | [], _ => ⟨fun h => absurd rfl h, trivial⟩
  | (i, c) :: r, hf => by
    simp only [hset]
    split
    · exact ⟨fun h => absurd rfl h, hf.2⟩
    · exact ⟨hf.1, hpFree_hset hf.2⟩

theorem hdel_hset (id : Nat) (b : Blk) : ∀ (h : List (Nat × Blk)), hdel (hset h id b) id = hdel h id
  | [] => by simp [hset, hdel]
  | (i, c) :: r => by
    simp only [hset]
    split
    · rename_i e; subst e; simp [hdel]
    · rename_i e; simp [hdel, e, hdel_hset id b r]

theorem Inv.drew (hi : Inv C μ S σ a w) : Inv C μ S σ a w.drew := by
  have hz : ∀ (i g : Nat), μ i = some g → rowSize w.drew g = rowSize w g := fun _ _ _ => rfl
  exact ⟨hi.size, hi.defers, fun t x hx => (hi.tm t x hx).mono (fun _ _ => rfl) (fun _ h => h) (fun _ _ h => h) hz,
    fun i c h => (hi.hp i c h).mono (fun _ _ => rfl) (fun _ h => h) (fun _ _ h => h) hz (fun h => h) (fun _ _ => rfl), hi.dom, hi.inj,
    ⟨hi.frm.os, hi.frm.tape, hi.frm.output, hi.frm.size, hi.frm.block⟩, hi.sb⟩

/-- a slice (or a text) that is read once: so many rows, and the cells that they lie in -/
def srcRows (σ : St) (x : AV) : Option (List (List AV)) :=
  match x with
  | .sl rows => some rows
  | .nils => some []
  | .osl id s off len =>
    match hget σ.hp id with
    | some (.cells _ s' rows) => if s = s' then some ((rows.drop off).take len) else none
    | _ => none
  | _ => none

/-- 'n' rows of 'size' cells each, in a row, from where the slice begins. -/
structure Src (μ : Nat → Option Nat) (S : Nat → Prop) (w : World) (size : Nat) (v : Value) (rows : List (List AV)) (vs : List Value) : Prop where
  form : ∃ A cap, v = .slice A rows.length cap ∧ (0 < rows.length → ∃ g o, A = some ⟨g, o, none⟩ ∧ ∀ (k : Nat) u, vs[k]? = some u → w.cell? ⟨g, o + k, none⟩ = some u)
  len : vs.length = rows.length * size
  rlen : ∀ row, row ∈ rows → row.length = size
  rd : ∀ (i : Nat) row, rows[i]? = some row → ∀ (j : Nat) x, row[j]? = some x → Rd μ S w (vs.getD (i * size + j) undef) x

theorem row_lt {rows : List (List AV)} {i size : Nat} {row : List AV} (h : rows[i]? = some row) : i * size + size ≤ rows.length * size := by
  have hi : i < rows.length := by
    by_cases h' : i < rows.length
    · exact h'
    · rw [List.getElem?_eq_none (by omega)] at h; cases h
  have := Nat.mul_le_mul_right size (Nat.succ_le_of_lt hi)
  rwa [Nat.succ_mul] at this

theorem src_of (hi : Inv C μ S σ a w) {v : Value} {x : AV} {rows : List (List AV)} {size : Nat} (h : srcRows σ x = some rows) (hv : Rd μ S w v x) (hs : ∀ row, row ∈ rows → row.length = size)
    (hlen : ∀ id s off len, x = .osl id s off len → rows.length = len) : ∃ vs, Src μ S w size v rows vs := by
  unfold srcRows at h
  split at h
  · injection h with h; subst h
    rename_i rows
    obtain ⟨A, cap, size', g, off, vals, rfl, hc, hs', hA, hcell, hr⟩ := hv.inv_sl.inv_sl
    by_cases h0 : rows = []
    · subst h0
      exact ⟨[], ⟨A, cap, rfl, fun h => by simp at h⟩, by simp, by simp, fun i row h => by simp at h⟩
    · obtain ⟨row0, hrow0⟩ := List.exists_mem_of_ne_nil rows h0
      have he : size' = size := by rw [← hs' row0 hrow0, hs row0 hrow0]
      subst he
      refine ⟨(List.range (rows.length * size')).map fun k => vals (k / size') (k % size'), ⟨A, cap, rfl, fun hp => ?_⟩, by simp, hs, fun i row hi' j x hx => ?_⟩
      · obtain ⟨rfl, _⟩ := hA hp
        refine ⟨g, off, rfl, fun k u hu => ?_⟩
        rw [List.getElem?_map] at hu
        by_cases hk : k < rows.length * size'
        · rw [List.getElem?_range hk] at hu
          simp only [Option.map_some, Option.some.injEq] at hu
          subst hu
          have hsz : 0 < size' := by
            rcases Nat.eq_zero_or_pos size' with h | h
            · subst h; simp at hk
            · exact h
          have := hcell (k / size') (k % size') (by rw [Nat.div_lt_iff_lt_mul hsz]; exact hk) (Nat.mod_lt _ hsz)
          rwa [Nat.div_add_mod'] at this
        · rw [List.getElem?_eq_none (by simpa using Nat.le_of_not_lt hk)] at hu; cases hu
      · have hj : j < size' := by
          by_cases h : j < size'
          · exact h
          · rw [List.getElem?_eq_none (by rw [hs row (List.mem_of_getElem? hi')]; omega)] at hx; cases hx
        have hlt := row_lt (size := size') hi'
        have hsz : 0 < size' := by omega
        rw [List.getD_eq_getElem?_getD, List.getElem?_map, List.getElem?_range (by omega)]
        have e1 : (i * size' + j) / size' = i := by rw [Nat.mul_comm, Nat.mul_add_div hsz, Nat.div_eq_of_lt hj]; omega
        have e2 : (i * size' + j) % size' = j := by rw [Nat.mul_comm, Nat.mul_add_mod, Nat.mod_eq_of_lt hj]
        simp only [Option.map_some, Option.getD_some, e1, e2]
        exact .pure (hr i row hi' j x hx)
  · injection h with h; subst h
    obtain rfl := hv.inv_nils
    exact ⟨[], ⟨none, 0, rfl, fun h => by simp at h⟩, by simp, by simp, fun i row h => by simp at h⟩
  · rename_i id s off len
    have hl := hlen id s off len rfl
    obtain ⟨A, cap, rfl, hc, hor⟩ := hv.inv_osl
    split at h
    · rename_i e s' R hb
      split at h
      · rename_i hss
        subst hss
        injection h with h; subst h
        rcases hor with ⟨h1, h2⟩ | ⟨g, e', n, h1, rfl, h3, h4⟩
        · subst h1
          simp only [List.take_zero] at hs hl ⊢
          exact ⟨[], ⟨A, cap, rfl, fun h => by simp at h⟩, by simp, by simp, fun i row h => by simp at h⟩
        · rcases hi.hp id _ hb with ⟨_, k2⟩ | ⟨g', c, k1, k2, k3, k4, k5⟩
          · rw [k2] at h1; cases h1
          · rw [k1] at h1; injection h1 with h1; subst h1
            rw [rowSize, k2] at h3
            simp only [Option.some.injEq, Prod.mk.injEq] at h3
            obtain ⟨_, h3⟩ := h3
            by_cases h0 : ((R.drop off).take len) = []
            · rw [h0] at hl
              refine ⟨[], ⟨some ⟨g', off * s, none⟩, cap, by rw [h0, ← hl], fun h => by rw [h0] at h; simp at h⟩, by rw [h0]; simp, by rw [h0]; simp, fun i row h => by rw [h0] at h; simp at h⟩
            · obtain ⟨row0, hrow0⟩ := List.exists_mem_of_ne_nil _ h0
              have he : s = size := by rw [← hs row0 hrow0, k4 row0 (List.mem_of_mem_drop (List.mem_of_mem_take hrow0))]
              subst he
              have hle : (off + len) * s ≤ c.size := by
                refine Nat.le_trans (Nat.mul_le_mul_right s (by omega : off + len ≤ off + cap)) (by omega)
              rw [Nat.add_mul] at hle
              refine ⟨(List.range (len * s)).map fun k => c.getD (off * s + k) undef, ⟨_, cap, by rw [hl], fun _ => ⟨g', off * s, rfl, fun k u hu => ?_⟩⟩, by simp [hl], hs, fun i row hi' j x hx => ?_⟩
              · rw [List.getElem?_map] at hu
                by_cases hk : k < len * s
                · rw [List.getElem?_range hk] at hu
                  simp only [Option.map_some, Option.some.injEq] at hu
                  subst hu
                  rw [cell_of k2, Array.getD_eq_getD_getElem?, Array.getElem?_eq_getElem (by omega)]
                  rfl
                · rw [List.getElem?_eq_none (by simpa using Nat.le_of_not_lt hk)] at hu; cases hu
              · have hj : j < s := by
                  by_cases h : j < s
                  · exact h
                  · rw [List.getElem?_eq_none (by rw [hs row (List.mem_of_getElem? hi')]; omega)] at hx; cases hx
                have hlt := row_lt (size := s) hi'
                rw [hl] at hlt
                rw [List.getD_eq_getElem?_getD, List.getElem?_map, List.getElem?_range (by omega)]
                simp only [Option.map_some, Option.getD_some]
                rw [List.getElem?_take] at hi'
                split at hi'
                · rw [List.getElem?_drop] at hi'
                  have := k5 (off + i) row hi' j x hx
                  rw [Nat.add_mul] at this
                  rwa [← Nat.add_assoc]
                · cases hi'
      · cases h
    · cases h
  · cases h

theorem growBy_le (n : Nat) : ∀ (r c : Nat), Builtin.growBy n r c ≤ max c (n + (n + 768) / 4)
  | 0, c => by unfold Builtin.growBy; omega
  | r + 1, c => by
    unfold Builtin.growBy
    split
    · omega
    · have := growBy_le n r (c + (c + 768) / 4)
      omega

theorem nextcap_le (need cap : Nat) (h : cap < need) : Builtin.nextslicecap need cap ≤ 2 * need + 768 := by
  unfold Builtin.nextslicecap
  have := growBy_le need 4 cap
  split
  · omega
  · split <;> omega

end
end Go.Eng
