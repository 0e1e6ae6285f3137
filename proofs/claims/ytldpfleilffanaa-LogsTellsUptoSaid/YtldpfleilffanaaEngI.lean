/- The abstract machine, part I: append, and that it is so. No condition. -/
import Derived.Test.YtldpfleilffanaaEngH
import Derived.Laws.AppendOwn
namespace Go.Eng
section
variable {P : Program} {T : Tab} {C : Ctx} {μ : Nat → Option Nat} {S : Nat → Prop} {σ : St} {a : Act} {w : World}

theorem run_first {size : Nat} {v : Value} {rows : List (List AV)} {vs : List Value} (h : Src μ S w size v rows vs) : (Builtin.firstCells size rows.length v).run P w = .ok vs.toArray w := by
  obtain ⟨A, cap, rfl, hf⟩ := h.form
  by_cases h0 : 0 < rows.length
  · obtain ⟨g, o, rfl, hc⟩ := hf h0
    have := run_loadCells_list (P := P) (w := w) ⟨g, o, none⟩ vs (fun j u hu => by rw [add_plain]; exact hc j u hu)
    rw [h.len] at this
    simpa [Builtin.firstCells] using this
  · have e : rows.length = 0 := by omega
    have hv : vs = [] := List.eq_nil_of_length_eq_zero (by rw [h.len, e]; simp)
    subst hv
    cases A with
    | none => simp [Builtin.firstCells]
    | some ad => simp [Builtin.firstCells, e, Go.loadCells, Go.loadCellsFrom]

theorem alloc_drew_new (w : World) (o : Obj) : (w.drew.alloc o).heap[w.heap.size]? = some o := alloc_new w.drew o

/-- the world that a slice grows into: one more draw, one more block -/
theorem run_append_grow' (hT : TabOK P T) {t e ty : TypeId} (ht : P.underlying t = some (.slice e)) (hs : T.siz e ≠ 0) (hb : T.byt e ≠ 0) {A : Option Addr} {len cap : Nat} {v : Value} {R rows : List (List AV)} {olds vs : List Value}
    (ho : Src μ S w (T.siz e) (.slice A len cap) R olds) (hx : Src μ S w (T.siz e) v rows vs) (hlen : R.length = len) (hg : ¬ len + rows.length ≤ cap) (hsz : (2 * (len + rows.length) + 768) * T.byt e ≤ 281474976710656) :
    ∃ (nc : Nat) (z : Array Value), len + rows.length ≤ nc ∧ z.size = (nc - (len + rows.length)) * T.siz e ∧ (Builtin.append_ #[t, t] ty #[.slice A len cap, v]).run P w =
      .ok (.slice (some ⟨w.heap.size, 0, none⟩) (len + rows.length) nc) (w.drew.alloc (.cells (olds.toArray ++ vs.toArray ++ z) e)) := by
  obtain ⟨i, hi, hi1, hi2, z, hz, _, hzs, _⟩ := hT.siz e hs
  obtain ⟨B, cap', rfl, _⟩ := hx.form
  have hn := nextcap_le (len + rows.length) cap (by omega)
  have hfit : Builtin.nextslicecap (len + rows.length) cap * i.bytes ≤ 281474976710656 := by
    rw [hi2]
    exact Nat.le_trans (Nat.mul_le_mul_right _ hn) hsz
  have h1 := run_first (P := P) ho
  rw [hlen] at h1
  have hw1 : Src μ S w.drew (T.siz e) (.slice A len cap) R olds := ⟨ho.form, ho.len, ho.rlen, fun i row hi j x hx => (ho.rd i row hi j x hx).mono (fun _ _ => rfl) (fun _ h => h) (fun _ _ h => h) (fun _ _ _ => rfl)⟩
  have hw2 : Src μ S w.drew (T.siz e) (.slice B rows.length cap') rows vs := ⟨hx.form, hx.len, hx.rlen, fun i row hi j x h => (hx.rd i row hi j x h).mono (fun _ _ => rfl) (fun _ h => h) (fun _ _ h => h) (fun _ _ _ => rfl)⟩
  have g1 := run_first (P := P) hw1
  have g2 := run_first (P := P) hw2
  rw [hlen] at g1
  refine ⟨grownCap w (len + rows.length) cap e, Builtin.zeroCells z.cells (grownCap w (len + rows.length) cap e - (len + rows.length)), grownCap_ge w _ _ _, by simp [Builtin.zeroCells, hzs], ?_⟩
  have hb' : i.bytes ≠ 0 := by rw [hi2]; exact hb
  simp [Builtin.append_, run_underlying ht, sizeOf, typeInfo, hi, hi1, Builtin.lenOf, hg, hb', show ¬ 281474976710656 < Builtin.nextslicecap (len + rows.length) cap * i.bytes by omega, g1, g2, Question.forced, zeroValue, hz, run_newRow, grownCap]
  rw [← Array.append_assoc]
  simp

theorem run_append_in (hT : TabOK P T) {t e ty : TypeId} (ht : P.underlying t = some (.slice e)) (hs : T.siz e ≠ 0) {A : Option Addr} {len cap : Nat} {v : Value} {rows : List (List AV)} {vs : List Value}
    (hx : Src μ S w (T.siz e) v rows vs) (hg : len + rows.length ≤ cap) :
    (Builtin.append_ #[t, t] ty #[.slice A len cap, v]).run P w =
      (((match A with | some a => storeCells (a.add (len * T.siz e)) vs | none => pure ()) : Sem Unit).run P w).andThen (fun _ w' => .ok (.slice A (len + rows.length) cap) w') := by
  obtain ⟨i, hi, hi1, hi2, z, hz, _, hzs, _⟩ := hT.siz e hs
  have g2 := run_first (P := P) hx
  obtain ⟨B, cap', rfl, _⟩ := hx.form
  cases A <;> simp [Builtin.append_, run_underlying ht, sizeOf, typeInfo, hi, hi1, Builtin.lenOf, hg, g2]

def rowsLeaf (rows : List (List AV)) : Bool := rows.all fun row => row.all AV.leaf

def rowsOf (s : Nat) (rows : List (List AV)) : Prop := ∀ row, row ∈ rows → row.length = s

/-- the numbers that an operand of append holds -/
def srcId : AV → Option Nat
  | .osl id _ _ _ => some id
  | _ => none

def appendOp (T : Tab) (σ : St) (d : Nat) (t : TypeId) (x y : AV) : Option (Prop × St × AV) :=
  match T.und t, srcRows σ y with
  | .sl e, some rows =>
    match x with
    | .nils =>
      some (T.siz e ≠ 0 ∧ T.byt e ≠ 0 ∧ rowsOf (T.siz e) rows ∧ (∀ id s off len, y = .osl id s off len → rows.length = len) ∧ rowsLeaf rows = true ∧ (2 * (0 + rows.length) + 768) * T.byt e ≤ 281474976710656 ∧
          hget σ.hp d = none,
        ⟨σ.tm, (d, .cells e (T.siz e) rows) :: σ.hp⟩, .osl d (T.siz e) 0 (0 + rows.length))
    | .osl id s 0 len =>
      match hget σ.hp id with
      | some (.cells e' s' R) =>
        if s = T.siz e ∧ s' = s ∧ e' = e then
          some (T.siz e ≠ 0 ∧ T.byt e ≠ 0 ∧ rowsOf (T.siz e) rows ∧ (∀ id s off len, y = .osl id s off len → rows.length = len) ∧ rowsLeaf rows = true ∧ (2 * (len + rows.length) + 768) * T.byt e ≤ 281474976710656 ∧
              (d = id ∨ hget σ.hp d = none) ∧ srcId y ≠ some id ∧ len ≤ R.length ∧ HpFree id σ.hp ∧ BlkFree id (.cells e (T.siz e) (R.take len ++ rows)),
            ⟨σ.tm.map (kill id), (d, .cells e (T.siz e) (R.take len ++ rows)) :: hdel σ.hp id⟩, .osl d (T.siz e) 0 (len + rows.length))
        else none
      | _ => none
    | _ => none
  | _, _ => none

theorem vals_leaf {size : Nat} {v : Value} {rows : List (List AV)} {vs : List Value} (h : Src μ S w size v rows vs) (hl : rowsLeaf rows = true) : ∀ u, u ∈ vs → u.oneCell' = true := by
  intro u hu
  obtain ⟨k, hk, rfl⟩ := List.mem_iff_getElem.1 hu
  have hlen := h.len
  have hsz : 0 < size := by
    rcases Nat.eq_zero_or_pos size with h' | h'
    · subst h'; omega
    · exact h'
  have hi : k / size < rows.length := by rw [Nat.div_lt_iff_lt_mul hsz]; omega
  have hrow : rows[k / size]? = some rows[k / size] := List.getElem?_eq_getElem hi
  have hm := Nat.mod_lt k hsz
  have hrl : rows[k / size].length = size := h.rlen _ (List.mem_of_getElem? hrow)
  have hx : rows[k / size][k % size]? = some (rows[k / size][k % size]'(by omega)) := List.getElem?_eq_getElem (by omega)
  have := h.rd _ _ hrow _ _ hx
  rw [Nat.div_add_mod', List.getD_eq_getElem?_getD, List.getElem?_eq_getElem hk] at this
  exact this.leaf (List.all_eq_true.1 (List.all_eq_true.1 hl _ (List.mem_of_getElem? hrow)) _ (List.mem_of_getElem? hx))

/-- rows one behind the other, as cells one behind the other -/
theorem joined_rd {s : Nat} {R rows : List (List AV)} {olds vs : List Value} {cs : Array Value} (hR : olds.length = R.length * s) (hRl : rowsOf s R) (hrl : rowsOf s rows)
    (h1 : ∀ (i : Nat) row, R[i]? = some row → ∀ (j : Nat) x, row[j]? = some x → Rd μ S w (olds.getD (i * s + j) undef) x)
    (h2 : ∀ (i : Nat) row, rows[i]? = some row → ∀ (j : Nat) x, row[j]? = some x → Rd μ S w (vs.getD (i * s + j) undef) x) (hvs : vs.length = rows.length * s)
    (hc : ∀ k, k < olds.length + vs.length → cs.getD k undef = (olds ++ vs).getD k undef) :
    ∀ (i : Nat) row, (R ++ rows)[i]? = some row → ∀ (j : Nat) x, row[j]? = some x → Rd μ S w (cs.getD (i * s + j) undef) x := by
  intro i row hi j x hx
  by_cases h : i < R.length
  · rw [List.getElem?_append_left h] at hi
    have hj : j < s := by
      by_cases h' : j < s
      · exact h'
      · rw [List.getElem?_eq_none (by rw [hRl row (List.mem_of_getElem? hi)]; omega)] at hx; cases hx
    have hlt := row_lt (size := s) hi
    rw [hc _ (by omega), List.getD_eq_getElem?_getD, List.getElem?_append_left (by omega), ← List.getD_eq_getElem?_getD]
    exact h1 i row hi j x hx
  · rw [List.getElem?_append_right (by omega)] at hi
    have hj : j < s := by
      by_cases h' : j < s
      · exact h'
      · rw [List.getElem?_eq_none (by rw [hrl row (List.mem_of_getElem? hi)]; omega)] at hx; cases hx
    have hlt := row_lt (size := s) hi
    have e : i * s + j = R.length * s + ((i - R.length) * s + j) := by
      have : i * s = R.length * s + (i - R.length) * s := by rw [← Nat.add_mul]; congr 1; omega
      omega
    rw [hc _ (by omega), List.getD_eq_getElem?_getD, List.getElem?_append_right (by omega), show i * s + j - olds.length = (i - R.length) * s + j from by omega, ← List.getD_eq_getElem?_getD]
    exact h2 _ row hi j x hx

theorem sound_append (hT : TabOK P T) (hi : Inv C μ S σ a w) {d : Nat} {t ty : TypeId} {x y r : AV} {vx vy : Value} {p : Prop} {σ' : St} (h : appendOp T σ d t x y = some (p, σ', r)) (hp : p)
    (hvx : Rd μ S w vx x) (hvy : Rd μ S w vy y) :
    ∃ u w' μ', (Builtin.append_ #[t, t] ty #[vx, vy]).run P w = .ok u w' ∧ Inv C μ' S σ' a w' ∧ Rd μ' S w' u r := by
  unfold appendOp at h
  split at h
  · rename_i e rows hu hsrc
    have ht := hT.und t
    rw [hu] at ht
    simp only [KDOK] at ht
    split at h
    · -- onto nil
      simp only [Option.some.injEq, Prod.mk.injEq] at h
      obtain ⟨rfl, rfl, rfl⟩ := h
      obtain ⟨hs, hb, hrl, hlen, hleaf, hsz, hfree⟩ := hp
      obtain rfl := hvx.inv_nils
      obtain ⟨vs, hvs⟩ := src_of hi hsrc hvy hrl hlen
      by_cases h0 : rows.length = 0
      · have hr := run_append_in (ty := ty) (A := none) (len := 0) (cap := 0) hT ht hs hvs (by omega)
        simp only [Sem.run_pure, Result.andThen_ok] at hr
        have hrows : rows = [] := List.eq_nil_of_length_eq_zero h0
        subst hrows
        have hn := hi.fresh hfree
        refine ⟨_, w, μ, hr, ⟨hi.size, hi.defers, hi.tm, fun i b hb => ?_, fun i g hg => ?_, hi.inj, hi.frm, hi.sb⟩, .osl d _ 0 _ 0 none (by simp) (.inl ⟨by simp, rfl⟩)⟩
        · simp only [hget] at hb
          split at hb
          · rename_i e'; injection hb with hb; subst hb e'; exact .inl ⟨rfl, hn⟩
          · exact hi.hp i b hb
        · obtain ⟨⟨c, h1⟩, h2⟩ := hi.dom i g hg
          refine ⟨⟨c, ?_⟩, h2⟩
          simp only [hget]
          rw [if_neg (by rintro rfl; rw [hn] at hg; cases hg)]; exact h1
      · have ho : Src μ S w (T.siz e) (.slice none 0 0) [] [] := ⟨⟨none, 0, rfl, fun h => by simp at h⟩, by simp, by simp, fun i row h => by simp at h⟩
        obtain ⟨nc, z, h1, h2, h3⟩ := run_append_grow' (ty := ty) hT ht hs hb ho hvs rfl (by omega) hsz
        have hi1 := hi.drew
        have hm : ∀ {v x}, Rd μ S w v x → Rd μ S w.drew v x := fun h => h.mono (fun _ _ => rfl) (fun _ h => h) (fun _ _ h => h) (fun _ _ _ => rfl)
        have hcs : (#[] ++ vs.toArray ++ z).size = rows.length * T.siz e + z.size := by simp [hvs.len]
        refine ⟨_, _, _, h3, hi1.new d hfree _ (.cells e (T.siz e) rows) (.inr ⟨w.heap.size, _, by simp [upd], alloc_drew_new w _, by simp [hvs.len], hrl, fun i row hi' j x hx => ?_⟩), ?_⟩
        · have hlt := row_lt (size := T.siz e) hi'
          have hj : j < T.siz e := by
            by_cases h : j < T.siz e
            · exact h
            · rw [List.getElem?_eq_none (by rw [hrl row (List.mem_of_getElem? hi')]; omega)] at hx; cases hx
          have := hvs.rd i row hi' j x hx
          have e2 : (#[] ++ vs.toArray ++ z).getD (i * T.siz e + j) undef = vs.getD (i * T.siz e + j) undef := by
            rw [Array.getD_eq_getD_getElem?, List.getD_eq_getElem?_getD]
            simp only [Array.empty_append]
            rw [Array.getElem?_append_left (by simp [hvs.len]; omega)]
            simp
          rw [show (List.toArray [] ++ vs.toArray ++ z) = (#[] ++ vs.toArray ++ z) from rfl, e2]
          exact (hm this).mono (fun b hb => alloc_get _ _ b (hi1.sb b hb).1) (fun _ h => h) (fun i' g hg => by
            unfold upd; rw [if_neg (by rintro rfl; rw [hi.fresh hfree] at hg; cases hg)]; exact hg) (fun i' g hg => rowSize_same (alloc_get _ _ g (hi1.dom i' g hg).2.2.2))
        · refine .osl d _ 0 _ nc _ h1 (.inr ⟨w.heap.size, e, _, by simp [upd], by simp, ?_, rfl⟩)
          unfold rowSize
          rw [alloc_drew_new]
          simp only [Option.some.injEq, Prod.mk.injEq, true_and]
          simp only [Array.size_append, List.size_toArray, List.length_nil, hvs.len, h2, Nat.zero_add, ← Nat.add_mul]
          congr 1
          omega
    · -- onto what is held
      rename_i id s len
      split at h
      · rename_i e' s' R hb0
        split at h
        · rename_i hcond
          obtain ⟨rfl, rfl, rfl⟩ := hcond
          simp only [Option.some.injEq, Prod.mk.injEq] at h
          obtain ⟨rfl, rfl, rfl⟩ := h
          obtain ⟨hs, hb, hrl, hlen, hleaf, hsz, hd, hid, hR, hfree, hbf⟩ := hp
          obtain ⟨vs, hvs⟩ := src_of hi hsrc hvy hrl hlen
          have hRl : rowsOf (T.siz e') (R.take len) := by
            rcases hi.hp id _ hb0 with ⟨rfl, _⟩ | ⟨g, c, _, _, _, k4, _⟩
            · intro row hrow; simp at hrow
            · exact fun row hrow => k4 row (List.mem_of_mem_take hrow)
          have hRt : (R.take len).length = len := by simp; omega
          obtain ⟨olds, ho⟩ := src_of hi (x := .osl id (T.siz e') 0 len) (rows := R.take len) (size := T.siz e') (by simp [srcRows, hb0]) hvx hRl (fun _ _ _ _ h => by injection h with _ _ _ h; rw [hRt, h])
          have hdd : d = id ∨ μ d = none := hd.imp (fun h => h) (fun h => hi.fresh h)
          obtain ⟨A, cap, rfl, hc, hor⟩ := hvx.inv_osl
          by_cases hroom : len + rows.length ≤ cap
          · have hr := run_append_in (ty := ty) (A := A) (len := len) (cap := cap) hT ht hs hvs hroom
            rcases hor with ⟨h1, h2⟩ | ⟨g, e2, n, h1, rfl, h3, h4⟩
            · -- nothing comes onto nothing
              have h0 : rows = [] := List.eq_nil_of_length_eq_zero (by omega)
              subst h0 h1 h2
              have hv0 : vs = [] := List.eq_nil_of_length_eq_zero (by rw [hvs.len]; simp)
              subst hv0
              have hr' : (Builtin.append_ #[t, t] ty #[.slice A 0 0, vy]).run P w = .ok (.slice A 0 0) w := by
                rw [hr]; cases A <;> simp [storeCells]
              have hi0 : Inv C μ S ⟨σ.tm, hset σ.hp id (.cells e' (T.siz e') (R.take 0 ++ []))⟩ a w := by
                refine ⟨hi.size, hi.defers, hi.tm, fun i b hb => ?_, fun i q hq => ?_, hi.inj, hi.frm, hi.sb⟩
                · rw [hget_hset] at hb
                  split at hb
                  · rename_i e3
                    injection hb with hb; subst hb e3
                    rcases hi.hp id _ hb0 with ⟨_, k⟩ | ⟨g, c, k1, k2, _⟩
                    · exact .inl ⟨by simp, k⟩
                    · exact .inr ⟨g, c, k1, k2, by simp, by simp, fun i row h => by simp at h⟩
                  · exact hi.hp i b hb
                · obtain ⟨⟨c, k1⟩, k2⟩ := hi.dom i q hq
                  refine ⟨?_, k2⟩
                  rw [hget_hset]; split
                  · exact ⟨_, rfl⟩
                  · exact ⟨c, k1⟩
              have hfree' : HpFree id (hset σ.hp id (.cells e' (T.siz e') (R.take 0 ++ []))) := hpFree_hset hfree
              have := hi0.move (id := id) (d := d) (b := .cells e' (T.siz e') (R.take 0 ++ [])) (by rw [hget_hset]; simp) (hd.imp (fun h => h) (fun h => by
                rw [hget_hset]; split
                · rename_i e4; subst e4; rw [hb0] at h; cases h
                · exact h)) hfree' hbf
              refine ⟨_, w, mv μ id d, hr', ?_, .osl d _ 0 _ 0 A (by simp) (.inl ⟨by simp, rfl⟩)⟩
              simp only [hdel_hset] at this
              exact this
            · -- in place
              rcases hi.hp id _ hb0 with ⟨_, k⟩ | ⟨g', c, k1, k2, k3, k4, k5⟩
              · rw [k] at h1; cases h1
              · rw [k1] at h1; injection h1 with h1; subst h1
                rw [rowSize, k2] at h3
                simp only [Option.some.injEq, Prod.mk.injEq] at h3
                obtain ⟨rfl, rfl⟩ := h3
                have hcs : (len + rows.length) * T.siz e' ≤ c.size := Nat.le_trans (Nat.mul_le_mul_right _ (by omega)) (Nat.le_of_eq h4)
                rw [Nat.add_mul] at hcs
                obtain ⟨w', r1, r2, r3, r4, r5, r6, c', r7, r8, r9⟩ := run_storeCells (P := P) g' (len * T.siz e') e' vs 0 w c k2 (vals_leaf hvs hleaf) (by rw [hvs.len]; omega)
                have hr' : (Builtin.append_ #[t, t] ty #[.slice (some ⟨g', 0 * T.siz e', none⟩) len cap, vy]).run P w = .ok (.slice (some ⟨g', 0 * T.siz e', none⟩) (len + rows.length) cap) w' := by
                  rw [hr]
                  simp only [Nat.zero_mul, add_plain, Nat.zero_add, r1, Result.andThen_ok]
                have hrs : rowSize w' g' = rowSize w g' := by simp [rowSize, r7, k2, r8]
                have hS : ¬ S g' := (hi.dom id g' k1).2.2.1
                have hw : SameOn S w w' := fun b hb => r6 b (by rintro rfl; exact hS hb)
                have hz' : ∀ i q, μ i = some q → rowSize w' q = rowSize w q := fun i q _ => by
                  by_cases e : q = g'
                  · subst e; exact hrs
                  · exact rowSize_same (r6 q e)
                have hmono : ∀ {v x}, Rd μ S w v x → Rd μ S w' v x := fun h => h.mono hw (fun _ h => h) (fun _ _ h => h) hz'
                have hRlen : len * T.siz e' ≤ R.length * T.siz e' := Nat.mul_le_mul_right _ hR
                have hi0 : Inv C μ S ⟨σ.tm, hset σ.hp id (.cells e' (T.siz e') (R.take len ++ rows))⟩ a w' :=
                  hi.write id g' k1 r2 r3 r4 r5 r6 hrs _ (.inr ⟨g', c', k1, r7, by rw [List.length_append, hRt, Nat.add_mul, r8]; omega, fun row hrow => by
                      rcases List.mem_append.1 hrow with h | h
                      · exact hRl row h
                      · exact hrl row h,
                    joined_rd (olds := (List.range (len * T.siz e')).map fun k => c.getD k undef) (vs := vs) (by simp [hRt]) hRl hrl (fun i row hi' j x hx => by
                        have hlt := row_lt (size := T.siz e') hi'
                        rw [hRt] at hlt
                        have hj : j < T.siz e' := by
                          by_cases h : j < T.siz e'
                          · exact h
                          · rw [List.getElem?_eq_none (by rw [hRl row (List.mem_of_getElem? hi')]; omega)] at hx; cases hx
                        rw [List.getD_eq_getElem?_getD, List.getElem?_map, List.getElem?_range (by omega)]
                        rw [List.getElem?_take] at hi'
                        split at hi'
                        · exact hmono (k5 i row hi' j x hx)
                        · cases hi') (fun i row hi' j x hx => hmono (hvs.rd i row hi' j x hx)) hvs.len (fun k hk => by
                      simp only [List.length_map, List.length_range] at hk
                      rw [r9]
                      by_cases hkl : k < len * T.siz e'
                      · rw [if_neg (by omega), List.getD_eq_getElem?_getD, List.getElem?_append_left (by simpa using hkl), List.getElem?_map, List.getElem?_range hkl]
                        rfl
                      · rw [if_pos (by omega), List.getD_eq_getElem?_getD, List.getD_eq_getElem?_getD, List.getElem?_append_right (by simpa using hkl)]
                        simp)⟩)
                have hfree' : HpFree id (hset σ.hp id (.cells e' (T.siz e') (R.take len ++ rows))) := hpFree_hset hfree
                have := hi0.move (id := id) (d := d) (b := .cells e' (T.siz e') (R.take len ++ rows)) (by rw [hget_hset]; simp) (hd.imp (fun h => h) (fun h => by
                  rw [hget_hset]; split
                  · rename_i e4; subst e4; rw [hb0] at h; cases h
                  · exact h)) hfree' hbf
                rw [hdel_hset] at this
                refine ⟨_, w', _, hr', this, .osl d _ 0 _ cap _ hroom (.inr ⟨g', e', c.size, ?_, rfl, by simp [rowSize, r7, r8], h4⟩)⟩
                simp [mv, k1]
          · -- a new block
            obtain ⟨nc, z, h1, h2, h3⟩ := run_append_grow' (ty := ty) hT ht hs hb ho hvs hRt hroom hsz
            have hi1 := (hi.drop id hfree).drew
            have hfr : hget (σ.drop id).hp d = none := by
              simp only [St.drop, hget_hdel]
              split
              · rfl
              · rename_i e4
                rcases hd with rfl | hd
                · exact absurd rfl e4
                · exact hd
            have hnod : upd μ id none d = none := hi1.fresh hfr
            have hm : ∀ {v x}, Rd μ S w v x → id ∉ refs x → Rd (upd μ id none) S w.drew v x := fun h hn =>
              (h.other hn none).mono (fun _ _ => rfl) (fun _ h => h) (fun _ _ h => h) (fun _ _ _ => rfl)
            have hno := rowsFree hbf
            refine ⟨_, _, _, h3, hi1.new d hfr _ (.cells e' (T.siz e') (R.take len ++ rows)) (.inr ⟨w.heap.size, _, by simp [upd], alloc_drew_new w _, by simp [ho.len, hvs.len, hRt, Nat.add_mul], fun row hrow => by
                      rcases List.mem_append.1 hrow with h | h
                      · exact hRl row h
                      · exact hrl row h, ?_⟩), ?_⟩
            · have hup : ∀ {v x}, Rd (upd μ id none) S w.drew v x →
                  Rd (upd (upd μ id none) d (some w.heap.size)) S (World.alloc w.drew (.cells (olds.toArray ++ vs.toArray ++ z) e')) v x := fun h =>
                h.mono (fun b hb => alloc_get _ _ b (hi1.sb b hb).1) (fun _ h => h) (fun i' g hg => by
                  show (if i' = d then some w.heap.size else upd μ id none i') = some g
                  rw [if_neg (by rintro rfl; rw [hnod] at hg; cases hg)]; exact hg) (fun i' g hg => rowSize_same (alloc_get _ _ g (hi1.dom i' g hg).2.2.2))
              have key := joined_rd (μ := upd μ id none) (S := S) (w := w.drew) (R := R.take len) (rows := rows) (cs := olds.toArray ++ vs.toArray ++ z) (s := T.siz e') ho.len hRl hrl
                (fun i row hi' j x hx => hm (ho.rd i row hi' j x hx) (hno row (List.mem_append_left _ (List.mem_of_getElem? hi')) x (List.mem_of_getElem? hx)))
                (fun i row hi' j x hx => hm (hvs.rd i row hi' j x hx) (hno row (List.mem_append_right _ (List.mem_of_getElem? hi')) x (List.mem_of_getElem? hx))) hvs.len (fun k hk => by
                  rw [Array.getD_eq_getD_getElem?, List.getD_eq_getElem?_getD, Array.getElem?_append_left (by simpa using hk)]
                  simp [List.append_toArray])
              exact fun i row hi' j x hx => hup (key i row hi' j x hx)
            · refine .osl d _ 0 _ nc _ h1 (.inr ⟨w.heap.size, e', _, by simp [upd], by simp, ?_, rfl⟩)
              unfold rowSize
              rw [alloc_drew_new]
              simp only [Option.some.injEq, Prod.mk.injEq, true_and]
              simp only [Array.size_append, List.size_toArray, ho.len, hvs.len, hRt, h2, Nat.zero_add, ← Nat.add_mul]
              congr 1
              omega
        · cases h
      · cases h
    · cases h
  · cases h

end
end Go.Eng
