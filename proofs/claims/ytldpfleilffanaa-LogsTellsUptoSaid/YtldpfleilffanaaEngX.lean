/- The abstract machine, part X: rows written over held ones (clear, copy), maps that are held. No condition. -/
import Derived.Test.YtldpfleilffanaaEngI
namespace Go.Eng
section
variable {P : Program} {T : Tab} {C : Ctx} {μ : Nat → Option Nat} {S : Nat → Prop} {σ : St} {a : Act} {w : World}

/-- the same, told otherwise -/
theorem Inv.hpEq (hi : Inv C μ S σ a w) {H : List (Nat × Blk)} (h : ∀ id, hget H id = hget σ.hp id) : Inv C μ S ⟨σ.tm, H⟩ a w :=
  ⟨hi.size, hi.defers, hi.tm, fun id b hb => hi.hp id b ((h id).symm.trans hb), fun id g hg => by
    obtain ⟨⟨b, k1⟩, k2⟩ := hi.dom id g hg
    exact ⟨⟨b, (h id).trans k1⟩, k2⟩, hi.inj, hi.frm, hi.sb⟩

/-- rows, put over those from 'off' on -/
def overRows (rows : List (List AV)) (off : Nat) (new : List (List AV)) : List (List AV) := rows.take off ++ new ++ rows.drop (off + new.length)

theorem overRows_length {rows new : List (List AV)} {off : Nat} (h : off + new.length ≤ rows.length) : (overRows rows off new).length = rows.length := by
  simp [overRows]; omega

theorem overRows_get {rows new : List (List AV)} {off : Nat} (h : off + new.length ≤ rows.length) (i : Nat) :
    (overRows rows off new)[i]? = if off ≤ i ∧ i < off + new.length then new[i - off]? else rows[i]? := by
  unfold overRows
  have hl : (rows.take off).length = off := by simp; omega
  by_cases h1 : i < off
  · rw [if_neg (by omega), List.append_assoc, List.getElem?_append_left (by omega), List.getElem?_take, if_pos h1]
  · by_cases h2 : i < off + new.length
    · rw [if_pos (by omega), List.append_assoc, List.getElem?_append_right (by omega), hl, List.getElem?_append_left (by omega)]
    · rw [if_neg (by omega), List.getElem?_append_right (by simp; omega), List.getElem?_drop]
      congr 1
      simp; omega

/-- ROWS ARE WRITTEN INTO A HELD BLOCK. -/
theorem write_rows (hi : Inv C μ S σ a w) {id e s off g : Nat} {rows new : List (List AV)} {vs : List Value} (hb : hget σ.hp id = some (.cells e s rows)) (hg : μ id = some g)
    (hoff : off + new.length ≤ rows.length) (hl : vs.length = new.length * s) (hrl : ∀ row, row ∈ new → row.length = s) (h1 : ∀ u, u ∈ vs → u.oneCell' = true)
    (hr : ∀ (i : Nat) row, new[i]? = some row → ∀ (j : Nat) x, row[j]? = some x → Rd μ S w (vs.getD (i * s + j) undef) x) :
    ∃ w', (storeCells ⟨g, off * s, none⟩ vs).run P w = .ok () w' ∧ Inv C μ S ⟨σ.tm, hset σ.hp id (.cells e s (overRows rows off new))⟩ a w' := by
  rcases hi.hp id _ hb with ⟨_, k⟩ | ⟨g', c, k1, k2, k3, k4, k5⟩
  · rw [k] at hg; cases hg
  · rw [k1] at hg; injection hg with hg; subst hg
    have hle : (off + new.length) * s ≤ rows.length * s := Nat.mul_le_mul_right _ hoff
    rw [Nat.add_mul] at hle
    obtain ⟨w', r1, r2, r3, r4, r5, r6, c', r7, r8, r9⟩ := run_storeCells (P := P) g' (off * s) e vs 0 w c k2 h1 (by rw [hl]; omega)
    refine ⟨w', r1, ?_⟩
    have hrs : rowSize w' g' = rowSize w g' := by simp [rowSize, r7, k2, r8]
    have hS : ¬ S g' := (hi.dom id g' k1).2.2.1
    have hw : SameOn S w w' := fun b hb => r6 b (by rintro rfl; exact hS hb)
    have hz' : ∀ i q, μ i = some q → rowSize w' q = rowSize w q := fun i q _ => by
      by_cases e : q = g'
      · subst e; exact hrs
      · exact rowSize_same (r6 q e)
    have hmono : ∀ {v x}, Rd μ S w v x → Rd μ S w' v x := fun h => h.mono hw (fun _ h => h) (fun _ _ h => h) hz'
    refine hi.write id g' k1 r2 r3 r4 r5 r6 hrs _ (.inr ⟨g', c', k1, r7, by rw [overRows_length hoff, r8]; exact k3, fun q hq => ?_, fun i q hq j y hy => ?_⟩)
    · obtain ⟨i, hi'⟩ := List.getElem?_of_mem hq
      rw [overRows_get hoff] at hi'
      split at hi'
      · exact hrl q (List.mem_of_getElem? hi')
      · exact k4 q (List.mem_of_getElem? hi')
    · rw [overRows_get hoff] at hq
      rw [r9]
      split at hq
      · rename_i hin
        have hj : j < s := by
          by_cases h : j < s
          · exact h
          · rw [List.getElem?_eq_none (by rw [hrl q (List.mem_of_getElem? hq)]; omega)] at hy; cases hy
        have hlt := row_lt (size := s) hq
        have e1 : i * s + j = off * s + ((i - off) * s + j) := by
          rw [← Nat.add_assoc, ← Nat.add_mul, show off + (i - off) = i from by omega]
        rw [if_pos (by omega), show i * s + j - (off * s + 0) = (i - off) * s + j from by omega]
        exact hmono (hr _ q hq j y hy)
      · rename_i hout
        have hj : j < s := by
          by_cases h : j < s
          · exact h
          · rw [List.getElem?_eq_none (by rw [k4 q (List.mem_of_getElem? hq)]; omega)] at hy; cases hy
        have hk : ¬ (off * s + 0 ≤ i * s + j ∧ i * s + j < off * s + 0 + vs.length) := by
          rw [hl]
          by_cases h : i < off
          · have := Nat.mul_le_mul_right s (show i + 1 ≤ off by omega)
            rw [Nat.succ_mul] at this
            omega
          · have := Nat.mul_le_mul_right s (show off + new.length ≤ i by omega)
            rw [Nat.add_mul] at this
            omega
        rw [if_neg hk]
        exact hmono (k5 i q hq j y hy)

/-! ### clear -/

def clearOp (T : Tab) (σ : St) (t : TypeId) (x : AV) : Option (Prop × List (Nat × Blk)) :=
  match T.und t, x with
  | .sl _, .nils => some (True, σ.hp)
  | .sl e, .osl id s off len =>
    match hget σ.hp id with
    | some (.cells e' s' rows) =>
      if s' = s then some (T.siz e = s ∧ s ≠ 0 ∧ (T.zer e).all AV.leaf = true ∧ off + len ≤ rows.length, hset σ.hp id (.cells e' s' (overRows rows off (List.replicate len (T.zer e)))))
      else none
    | _ => none
  | _, _ => none

theorem hset_same {σ : St} {id : Nat} {b : Blk} (hb : hget σ.hp id = some b) : ∀ i, hget (hset σ.hp id b) i = hget σ.hp i := fun i => by
  rw [hget_hset]
  split
  · rename_i e; subst e; exact hb.symm
  · rfl

theorem overRows_nil (rows : List (List AV)) (off : Nat) : overRows rows off [] = rows := by simp [overRows]

theorem sound_clear (hT : TabOK P T) (hi : Inv C μ S σ a w) {t ty : TypeId} {v : Value} {x : AV} {p : Prop} {hp' : List (Nat × Blk)} (h : clearOp T σ t x = some (p, hp')) (hp : p) (hv : Rd μ S w v x) :
    ∃ w', (Builtin.clear_ #[t] ty #[v]).run P w = .ok (.tuple #[]) w' ∧ Inv C μ S ⟨σ.tm, hp'⟩ a w' := by
  unfold clearOp at h
  have ht := hT.und t
  split at h
  · rename_i e hu
    rw [hu] at ht; simp only [KDOK] at ht
    simp only [Option.some.injEq, Prod.mk.injEq] at h
    obtain ⟨_, rfl⟩ := h
    obtain rfl := hv.inv_nils
    exact ⟨w, by simp [Builtin.clear_, run_underlying ht], hi⟩
  · rename_i e id s off len hu
    rw [hu] at ht; simp only [KDOK] at ht
    split at h
    · rename_i e' s' rows hb
      split at h
      · rename_i hss
        subst hss
        simp only [Option.some.injEq, Prod.mk.injEq] at h
        obtain ⟨rfl, rfl⟩ := h
        obtain ⟨hz, hz0, hleaf, hle⟩ := hp
        subst hz
        obtain ⟨A, cap, rfl, hc, hor⟩ := hv.inv_osl
        by_cases h0 : len = 0
        · subst h0
          refine ⟨w, by cases A <;> simp [Builtin.clear_, run_underlying ht], hi.hpEq fun i => ?_⟩
          rw [List.replicate_zero, overRows_nil]
          exact hset_same hb i
        · rcases hor with ⟨h1, _⟩ | ⟨g, e2, n, h1, rfl, h3, h4⟩
          · exact absurd h1 h0
          · obtain ⟨z, z1, z2, z3⟩ := zeros_rdr hT (e := e) len hz0
            have e5 : Builtin.zeroCells z.cells len = (Array.range (len * T.siz e)).map (z.cells[· % z.cells.size]!) := by rw [Builtin.zeroCells, z2]
            have hr := z3 μ S w
            rw [← e5] at hr
            generalize hzs : Builtin.zeroCells z.cells len = zs at hr
            clear e5 z3
            obtain ⟨q1, q2, q3⟩ := hr
            simp only [List.length_replicate] at q1
            have hs0 : 0 < T.siz e := by omega
            have hzl : (T.zer e).length = T.siz e := q2 (T.zer e) (List.mem_replicate.2 ⟨h0, rfl⟩)
            obtain ⟨w', r1, r2⟩ := write_rows (P := P) hi (off := off) (new := List.replicate len (T.zer e)) (vs := zs.toList) hb h1 (by simpa using hle)
              (by rw [Array.length_toList, q1]; simp) (fun row hrow => q2 row hrow) (fun u hu => by
                obtain ⟨k, hk⟩ := List.getElem?_of_mem hu
                have hk' : k < len * T.siz e := by
                  have := (List.getElem?_eq_some_iff.1 hk).1
                  rw [Array.length_toList, q1] at this; exact this
                have hdiv : k / T.siz e < len := (Nat.div_lt_iff_lt_mul hs0).2 hk'
                have hmod := Nat.mod_lt k hs0
                have := q3 (k / T.siz e) (T.zer e) (by rw [List.getElem?_replicate, if_pos hdiv]) (k % T.siz e) ((T.zer e).getD (k % T.siz e) .any) (by
                  rw [List.getD_eq_getElem?_getD, List.getElem?_eq_getElem (by omega)]; rfl)
                have e3 : k / T.siz e * T.siz e + k % T.siz e = k := by rw [Nat.mul_comm]; exact Nat.div_add_mod k (T.siz e)
                rw [e3] at this
                have e4 : zs.getD k undef = u := by
                  rw [Array.getD_eq_getD_getElem?, ← Array.getElem?_toList, hk]; rfl
                rw [e4] at this
                exact this.leaf (List.all_eq_true.1 hleaf _ (by rw [List.getD_eq_getElem?_getD, List.getElem?_eq_getElem (by omega)]; exact List.getElem_mem _)))
              (fun i row hrow j x hx => by
                have := q3 i row hrow j x hx
                rwa [Array.getD_eq_getD_getElem?, ← Array.getElem?_toList, ← List.getD_eq_getElem?_getD] at this)
            refine ⟨w', ?_, r2⟩
            obtain ⟨m, rfl⟩ : ∃ m, len = m + 1 := ⟨len - 1, by omega⟩
            simp [Builtin.clear_, run_underlying ht, z1, hzs, r1]
      · cases h
    · cases h
  · cases h

/-! ### copy -/

theorem run_firstN {size n : Nat} {v : Value} {rows : List (List AV)} {vs : List Value} (h : Src μ S w size v rows vs) (hn : n ≤ rows.length) : (Builtin.firstCells size n v).run P w = .ok (vs.take (n * size)).toArray w := by
  obtain ⟨A, cap, rfl, hf⟩ := h.form
  have hle : n * size ≤ rows.length * size := Nat.mul_le_mul_right _ hn
  by_cases h0 : 0 < rows.length
  · obtain ⟨g, o, rfl, hc⟩ := hf h0
    have := run_loadCells_list (P := P) (w := w) ⟨g, o, none⟩ (vs.take (n * size)) (fun j u hu => by
      rw [List.getElem?_take] at hu
      split at hu
      · rw [add_plain]; exact hc j u hu
      · cases hu)
    rw [List.length_take, h.len, Nat.min_eq_left hle] at this
    simpa [Builtin.firstCells] using this
  · have e : n = 0 := by omega
    subst e
    cases A with
    | none => simp [Builtin.firstCells]
    | some ad => simp [Builtin.firstCells, Go.loadCells, Go.loadCellsFrom]

def copyOp (T : Tab) (σ : St) (t : TypeId) (x y : AV) : Option (Prop × List (Nat × Blk) × AV) :=
  match T.und t, srcRows σ y, x with
  | .sl e, some R, .osl id s off len =>
    match hget σ.hp id with
    | some (.cells e' s' rows) =>
      if s' = s then some (T.siz e = s ∧ s ≠ 0 ∧ rowsOf s R ∧ (∀ id s off len, y = .osl id s off len → R.length = len) ∧ rowsLeaf R = true ∧ off + len ≤ rows.length,
        hset σ.hp id (.cells e' s' (overRows rows off (R.take len))), .int .i64 (min R.length len : Nat))
      else none
    | _ => none
  | _, _, _ => none

theorem run_copy (hT : TabOK P T) {t e u ty : TypeId} (ht : P.underlying t = some (.slice e)) (hz : T.siz e ≠ 0) (A B : Option Addr) (len cap lenB capB : Nat) {vs : List Value}
    (hf : (Builtin.firstCells (T.siz e) (min lenB len) (.slice B lenB capB)).run P w = .ok vs.toArray w) :
    (Builtin.copy_ #[t, u] ty #[.slice A len cap, .slice B lenB capB]).run P w =
      (((match A with | some ad => storeCells ad vs | none => pure ()) : Sem Unit).run P w).andThen (fun _ w' => .ok (goInt (min lenB len : Nat)) w') := by
  have hf' : (Builtin.firstCells (T.siz e) (Nat.min lenB len) (.slice B lenB capB)).run P w = .ok vs.toArray w := hf
  cases A <;> simp [Builtin.copy_, run_underlying ht, Builtin.lenOf, sizeOf_of hT hz, hf'] <;> rfl

theorem sound_copy (hT : TabOK P T) (hi : Inv C μ S σ a w) {t u ty : TypeId} {vx vy : Value} {x y r : AV} {p : Prop} {hp' : List (Nat × Blk)} (h : copyOp T σ t x y = some (p, hp', r)) (hp : p) (hvx : Rd μ S w vx x) (hvy : Rd μ S w vy y) :
    ∃ v w', (Builtin.copy_ #[t, u] ty #[vx, vy]).run P w = .ok v w' ∧ Inv C μ S ⟨σ.tm, hp'⟩ a w' ∧ Rd μ S w' v r := by
  unfold copyOp at h
  have ht := hT.und t
  split at h
  · rename_i e R id s off len hu hsrc
    rw [hu] at ht; simp only [KDOK] at ht
    split at h
    · rename_i e' s' rows hb
      split at h
      · rename_i hss
        subst hss
        simp only [Option.some.injEq, Prod.mk.injEq] at h
        obtain ⟨rfl, rfl, rfl⟩ := h
        obtain ⟨hz, hz0, hrl, hlen, hleaf, hle⟩ := hp
        subst hz
        obtain ⟨vs, hvs⟩ := src_of hi hsrc hvy hrl hlen
        obtain ⟨A, cap, rfl, hc, hor⟩ := hvx.inv_osl
        obtain ⟨B, capB, rfl, _⟩ := hvs.form
        have hfirst := run_firstN (P := P) (n := min R.length len) hvs (by omega)
        have hrun := run_copy (t := t) (u := u) (ty := ty) (w := w) hT ht hz0 A B len cap R.length capB hfirst
        by_cases h0 : min R.length len = 0
        · have hn : R.take len = [] := List.eq_nil_of_length_eq_zero (by rw [List.length_take]; omega)
          have ev : vs.take (min R.length len * T.siz e) = [] := by rw [h0]; simp
          rw [ev] at hrun
          refine ⟨_, w, by rw [hrun]; cases A <;> simp [storeCells] <;> rfl, hi.hpEq fun i => ?_, .pure (.int _ _)⟩
          rw [hn, overRows_nil]
          exact hset_same hb i
        · rcases hor with ⟨h1, _⟩ | ⟨g, e2, n, h1, rfl, h3, h4⟩
          · omega
          · have hleaf' := vals_leaf hvs hleaf
            have hmul : min R.length len * T.siz e ≤ R.length * T.siz e := Nat.mul_le_mul_right _ (Nat.min_le_left _ _)
            obtain ⟨w', r1, r2⟩ := write_rows (P := P) hi (off := off) (new := R.take len) (vs := vs.take (min R.length len * T.siz e)) hb h1 (by simp; omega)
              (by rw [List.length_take, hvs.len, List.length_take, Nat.min_eq_left hmul, Nat.min_comm]) (fun row hrow => hrl row (List.mem_of_mem_take hrow)) (fun q hq => hleaf' q (List.mem_of_mem_take hq)) (fun i row hrow j x hx => by
                rw [List.getElem?_take] at hrow
                split at hrow
                · rename_i hil
                  have hlt := row_lt (size := T.siz e) hrow
                  have hj : j < T.siz e := by
                    by_cases h : j < T.siz e
                    · exact h
                    · rw [List.getElem?_eq_none (by rw [hrl row (List.mem_of_getElem? hrow)]; omega)] at hx; cases hx
                  have hi2 : i < R.length := (List.getElem?_eq_some_iff.1 hrow).1
                  have := Nat.mul_le_mul_right (T.siz e) (show i + 1 ≤ min R.length len by omega)
                  rw [Nat.succ_mul] at this
                  rw [List.getD_eq_getElem?_getD, List.getElem?_take, if_pos (by omega), ← List.getD_eq_getElem?_getD]
                  exact hvs.rd i row hrow j x hx
                · cases hrow)
            exact ⟨_, w', by rw [hrun]; simp only [r1]; rfl, r2, .pure (.int _ _)⟩
      · cases h
    · cases h
  · cases h
end
end Go.Eng
