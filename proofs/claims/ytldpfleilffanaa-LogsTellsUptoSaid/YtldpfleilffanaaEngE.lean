/- The abstract machine, part E: new blocks and stores. No condition. -/
import Derived.Test.YtldpfleilffanaaEngD
namespace Go.Eng
section
variable {P : Program} {T : Tab} {C : Ctx} {μ : Nat → Option Nat} {S : Nat → Prop} {σ : St} {a : Act} {w : World}

def upd (μ : Nat → Option Nat) (id : Nat) (g : Option Nat) : Nat → Option Nat := fun i => if i = id then g else μ i

theorem alloc_get (w : World) (o : Obj) (k : Nat) (h : k < w.heap.size) : (w.alloc o).heap[k]? = w.heap[k]? := by
  show (w.heap.push o)[k]? = _
  rw [Array.getElem?_push, if_neg (by omega)]
theorem alloc_new (w : World) (o : Obj) : (w.alloc o).heap[w.heap.size]? = some o := by
  show (w.heap.push o)[w.heap.size]? = _
  simp

/-- a leaf that may be stored into a cell -/
def AV.leaf : AV → Bool
  | .any | .agg _ | .tup _ | .cnd .. => false
  | _ => true

theorem Rd.leaf {v : Value} {x : AV} (h : Rd μ S w v x) (hx : x.leaf = true) : v.oneCell' = true := by
  cases h with
  | any => cases hx
  | pure h => cases h <;> first | rfl | cases hx
  | agg => cases hx
  | tup => cases hx
  | fn => rfl
  | ptr => rfl
  | osl => rfl
  | mp => rfl
  | cndT => cases hx
  | cndF => cases hx

theorem Inv.fresh (hi : Inv C μ S σ a w) {id : Nat} (hf : hget σ.hp id = none) : μ id = none := by
  cases e : μ id with
  | none => rfl
  | some g => obtain ⟨⟨b, hb⟩, _⟩ := hi.dom id g e; rw [hf] at hb; cases hb

/-- A NEW BLOCK, under a number that is free. -/
theorem Inv.new (hi : Inv C μ S σ a w) (id : Nat) (hf : hget σ.hp id = none) (o : Obj) (b : Blk) (hb : BlkOK (upd μ id (some w.heap.size)) S (w.alloc o) id b) :
    Inv C (upd μ id (some w.heap.size)) S ⟨σ.tm, (id, b) :: σ.hp⟩ a (w.alloc o) := by
  have hn := hi.fresh hf
  have hw : SameOn S w (w.alloc o) := fun b hb => alloc_get w o b (hi.sb b hb).1
  have hm : ∀ i g, μ i = some g → upd μ id (some w.heap.size) i = some g := fun i g h => by
    unfold upd
    rw [if_neg (by rintro rfl; rw [hn] at h; cases h)]; exact h
  have hz : ∀ i g, μ i = some g → rowSize (w.alloc o) g = rowSize w g := fun i g h => rowSize_same (alloc_get w o g (hi.dom i g h).2.2.2)
  refine ⟨hi.size, hi.defers, fun t x hx => (hi.tm t x hx).mono hw (fun _ h => h) hm hz, ?_, ?_, ?_, ?_, ?_⟩
  · intro i c hc
    simp only [hget] at hc
    by_cases e : id = i
    · subst e
      simp only [if_true, Option.some.injEq] at hc
      subst hc; exact hb
    · rw [if_neg e] at hc
      have hn' : μ i = none → upd μ id (some w.heap.size) i = none := fun h => by
        unfold upd; rw [if_neg (fun h => e h.symm)]; exact h
      exact (hi.hp i c hc).mono hw (fun _ h => h) hm hz hn' (fun g h => alloc_get w o g (hi.dom i g h).2.2.2)
  · intro i g hg
    unfold upd at hg
    split at hg
    · rename_i e
      injection hg with hg
      subst hg e
      exact ⟨⟨b, by simp [hget]⟩, .inr hi.frm.size, fun h => Nat.lt_irrefl _ (hi.sb _ h).1, by simp⟩
    · rename_i e
      obtain ⟨⟨c, h1⟩, h2, h3, h4⟩ := hi.dom i g hg
      exact ⟨⟨c, by simp only [hget]; rw [if_neg (fun h => e h.symm)]; exact h1⟩, h2, h3, by simp; omega⟩
  · intro i j g h1 h2
    unfold upd at h1 h2
    split at h1 <;> split at h2
    · simp_all
    · injection h1 with h1; subst h1; exact absurd (hi.dom j _ h2).2.2.2 (Nat.lt_irrefl _)
    · injection h2 with h2; subst h2; exact absurd (hi.dom i _ h1).2.2.2 (Nat.lt_irrefl _)
    · exact hi.inj i j g h1 h2
  · exact ⟨hi.frm.os, hi.frm.tape, hi.frm.output, by simp; have := hi.frm.size; omega, fun b hb hA => by
      rw [alloc_get w o b (Nat.lt_of_lt_of_le hb hi.frm.size)]; exact hi.frm.block b hb hA⟩
  · intro b hb
    exact ⟨by simp; have := (hi.sb b hb).1; omega, (hi.sb b hb).2⟩

/-- A WORLD IN WHICH ONE BLOCK THAT IS HELD IS ANOTHER ONE. -/
theorem Inv.write (hi : Inv C μ S σ a w) (id g : Nat) (hg : μ id = some g) {w' : World} (hos : w'.os = w.os) (htp : w'.tape = w.tape) (hout : w'.output = w.output)
    (hsz : w'.heap.size = w.heap.size) (hne : ∀ b, b ≠ g → w'.heap[b]? = w.heap[b]?) (hrow : rowSize w' g = rowSize w g) (b : Blk) (hb : BlkOK μ S w' id b) :
    Inv C μ S ⟨σ.tm, hset σ.hp id b⟩ a w' := by
  obtain ⟨⟨b0, hb0⟩, hA, hS, hlt⟩ := hi.dom id g hg
  have hw : SameOn S w w' := fun c hc => hne c (by rintro rfl; exact hS hc)
  have hz : ∀ i q, μ i = some q → rowSize w' q = rowSize w q := fun i q h => by
    by_cases e : q = g
    · subst e; exact hrow
    · exact rowSize_same (hne q e)
  refine ⟨hi.size, hi.defers, fun t x hx => (hi.tm t x hx).mono hw (fun _ h => h) (fun _ _ h => h) hz, ?_, ?_, hi.inj, ?_, ?_⟩
  · intro i c hc
    rw [hget_hset] at hc
    split at hc
    · rename_i e
      injection hc with hc; subst hc e; exact hb
    · rename_i e
      exact (hi.hp i c hc).mono hw (fun _ h => h) (fun _ _ h => h) hz (fun h => h) (fun q hq => hne q (by rintro rfl; exact e (hi.inj _ _ _ hg hq)))
  · intro i q hq
    obtain ⟨⟨c, h1⟩, h2, h3, h4⟩ := hi.dom i q hq
    refine ⟨?_, h2, h3, by omega⟩
    rw [hget_hset]
    split
    · exact ⟨_, rfl⟩
    · exact ⟨c, h1⟩
  · refine hi.frm.step (fun b => b = g) ⟨hos, htp, hout, by omega, fun b _ h => hne b h⟩ (fun b h => by rw [h]; exact hA)
  · intro b hb
    exact ⟨by have := (hi.sb b hb).1; omega, (hi.sb b hb).2⟩

/-! ### Stores into cells -/

theorem run_storeCells (g o : Nat) (e : TypeId) : ∀ (vs : List Value) (i : Nat) (w : World) (c : Array Value), w.heap[g]? = some (.cells c e (0, 0)) → (∀ v, v ∈ vs → v.oneCell' = true) →
    o + i + vs.length ≤ c.size → ∃ w', (storeCells ⟨g, o, none⟩ vs i).run P w = .ok () w' ∧ w'.os = w.os ∧ w'.tape = w.tape ∧ w'.output = w.output ∧ w'.heap.size = w.heap.size ∧
      (∀ b, b ≠ g → w'.heap[b]? = w.heap[b]?) ∧ ∃ c' : Array Value, w'.heap[g]? = some (.cells c' e (0, 0)) ∧ c'.size = c.size ∧
        ∀ k, c'.getD k undef = if o + i ≤ k ∧ k < o + i + vs.length then vs.getD (k - (o + i)) undef else c.getD k undef
  | [], i, w, c, hc, _, _ => ⟨w, by simp [storeCells], rfl, rfl, rfl, rfl, fun _ _ => rfl, c, hc, rfl, fun k => by rw [if_neg (by simp)]⟩
  | v :: r, i, w, c, hc, h1, hle => by
    simp only [List.length_cons] at hle
    have hcell : w.cell? ⟨g, o + i, none⟩ = some (c[o + i]'(by omega)) := by
      simp [World.cell?, hc, show o + i < c.size by omega]
    have hfz : w.frozen? ⟨g, o + i, none⟩ = false := by simp [World.frozen?, hc]
    have hset : (w.setCell ⟨g, o + i, none⟩ v).heap[g]? = some (.cells (c.setIfInBounds (o + i) v) e (0, 0)) := by
      simp [World.setCell, Array.getElem?_modify, hc]
    obtain ⟨w', h2, h3, h4, h5, h6, h7, c', h8, h9, h10⟩ := run_storeCells g o e r (i + 1) (w.setCell ⟨g, o + i, none⟩ v) (c.setIfInBounds (o + i) v) hset
      (fun u hu => h1 u (List.mem_cons_of_mem _ hu)) (by simp; omega)
    refine ⟨w', ?_, h3, h4, h5, by rw [h6]; simp, fun b hb => ?_, c', h8, by rw [h9]; simp, fun k => ?_⟩
    · simp only [storeCells, add_plain, Sem.run_bind, run_store P w _ v _ (h1 v (List.mem_cons_self ..)), hcell, hfz, Bool.false_eq_true, if_false, Result.andThen_ok]
      exact h2
    · rw [h7 b hb]
      simp only [World.setCell, Array.getElem?_modify]
      rw [if_neg (by rintro rfl; exact hb rfl)]
    · rw [h10 k]
      by_cases e1 : k = o + i
      · subst e1
        rw [if_neg (by omega), if_pos (by simp)]
        simp [show o + i < c.size by omega]
      · have : (c.setIfInBounds (o + i) v).getD k undef = c.getD k undef := by
          rw [Array.getD_eq_getD_getElem?, Array.getElem?_setIfInBounds_ne (fun h => e1 h.symm), ← Array.getD_eq_getD_getElem?]
        rw [this]
        by_cases e2 : o + i ≤ k ∧ k < o + i + (r.length + 1)
        · rw [if_pos (by omega), if_pos (by simpa using e2)]
          rw [show k - (o + i) = (k - (o + (i + 1))) + 1 from by omega]
          simp
        · rw [if_neg (by omega), if_neg (by simpa using e2)]

/-- cells put over others, from a place on -/
def putAt : List AV → Nat → List AV → List AV
  | l, _, [] => l
  | l, o, x :: r => putAt (l.set o x) (o + 1) r

theorem putAt_length : ∀ (xs : List AV) (l : List AV) (o : Nat), (putAt l o xs).length = l.length
  | [], _, _ => rfl
  | x :: r, l, o => by simp [putAt, putAt_length r]

theorem putAt_get : ∀ (xs : List AV) (l : List AV) (o k : Nat), o + xs.length ≤ l.length → (putAt l o xs)[k]? = if o ≤ k ∧ k < o + xs.length then xs[k - o]? else l[k]?
  | [], l, o, k, _ => by rw [if_neg (by simp)]; rfl
  | x :: r, l, o, k, h => by
    simp only [List.length_cons] at h
    simp only [putAt]
    rw [putAt_get r _ _ _ (by simp; omega)]
    by_cases e : k = o
    · subst e
      rw [if_neg (by omega), if_pos (by simp)]
      simp [show k < l.length by omega]
    · rw [List.getElem?_set_ne (fun h => e h.symm)]
      by_cases e2 : o ≤ k ∧ k < o + (r.length + 1)
      · rw [if_pos (by omega), if_pos (by simpa using e2)]
        rw [show k - o = (k - (o + 1)) + 1 from by omega]
        simp
      · rw [if_neg (by omega), if_neg (by simpa using e2)]

/-- the cells of a value that is stored at a type -/
def cellsAt (T : Tab) (t : TypeId) (x : AV) : Option (List AV) :=
  match (T.und t).isA, x with
  | some true, .agg xs => some xs
  | some false, x => some [x]
  | _, _ => none

def storeOp (T : Tab) (σ : St) (t : TypeId) (addr x : AV) : Option (Prop × List (Nat × Blk)) :=
  match addr, cellsAt T t x with
  | .ptr id size row off, some xs =>
    match hget σ.hp id with
    | some (.cells e s rows) =>
      if s = size then some (T.siz t ≠ 0 ∧ xs.length = T.siz t ∧ xs.all AV.leaf = true ∧ row < rows.length ∧ off + T.siz t ≤ s, hset σ.hp id (.cells e s (rows.set row (putAt (rows.getD row []) off xs))))
      else none
    | _ => none
  | _, _ => none

theorem cells_of {t : TypeId} {v : Value} {x : AV} {xs : List AV} (h : cellsAt T t x = some xs) (hl : xs.all AV.leaf = true) (hv : Rd μ S w v x) :
    v.cells.size = xs.length ∧ (∀ u, u ∈ v.cells.toList → u.oneCell' = true) ∧ ∀ (j : Nat) y, xs[j]? = some y → Rd μ S w (v.cells.getD j undef) y := by
  unfold cellsAt at h
  split at h
  · injection h with h; subst h
    obtain ⟨cs, rfl, h1, h2⟩ := hv.inv_agg
    refine ⟨h1, fun u hu => ?_, h2⟩
    obtain ⟨j, hj, rfl⟩ := List.mem_iff_getElem.1 hu
    simp only [Value.cells, Array.length_toList] at hj
    rename_i ys _
    have hy : ys[j]? = some (ys[j]'(by omega)) := List.getElem?_eq_getElem (by omega)
    have := h2 j _ hy
    rw [Array.getD_eq_getD_getElem?, Array.getElem?_eq_getElem hj] at this
    exact Rd.leaf (by simpa [Value.cells] using this) (List.all_eq_true.1 hl _ (List.mem_of_getElem? hy))
  · injection h with h; subst h
    have hone := hv.leaf (by simpa using hl)
    have hc : v.cells = #[v] := by cases v <;> first | rfl | cases hone
    rw [hc]
    refine ⟨rfl, fun u hu => by simp at hu; subst hu; exact hone, fun j y hy => ?_⟩
    cases j with
    | zero => simp only [List.getElem?_cons_zero, Option.some.injEq] at hy; subst hy; exact hv
    | succ j => simp at hy
  · cases h

theorem split_index {i j i' j' s : Nat} (hj : j < s) (hj' : j' < s) (h : i * s + j = i' * s + j') : i = i' ∧ j = j' := by
  have h1 : i = i' := by
    have e1 : (i * s + j) / s = i := by rw [Nat.mul_comm, Nat.mul_add_div (by omega), Nat.div_eq_of_lt hj]; omega
    have e2 : (i' * s + j') / s = i' := by rw [Nat.mul_comm, Nat.mul_add_div (by omega), Nat.div_eq_of_lt hj']; omega
    rw [← e1, ← e2, h]
  subst h1
  exact ⟨rfl, by omega⟩

theorem sound_store (hT : TabOK P T) (hi : Inv C μ S σ a w) {t : TypeId} {va v : Value} {addr x : AV} {p : Prop} {hp' : List (Nat × Blk)} (h : storeOp T σ t addr x = some (p, hp')) (hp : p)
    (hva : Rd μ S w va addr) (hv : Rd μ S w v x) : ∃ w', (Instr.storeAt t va v).run P w = .ok () w' ∧ Inv C μ S ⟨σ.tm, hp'⟩ a w' := by
  unfold storeOp at h
  split at h
  · rename_i id size row off xs hx
    split at h
    · rename_i e s rows hb
      split at h
      · rename_i hs
        subst hs
        simp only [Option.some.injEq, Prod.mk.injEq] at h
        obtain ⟨rfl, rfl⟩ := h
        obtain ⟨hz, hl, hleaf, hrow, hoff⟩ := hp
        obtain ⟨g, hg, rfl⟩ := hva.inv_ptr
        obtain ⟨k1, k2, k3⟩ := cells_of hx hleaf hv
        rcases hi.hp id _ hb with ⟨rfl, h2⟩ | ⟨g', c, h1, h2, h3, h4, h5⟩
        · rw [h2] at hg; cases hg
        · rw [h1] at hg; injection hg with hg; subst hg
          have hle : row * s + s ≤ rows.length * s := by
            have := Nat.mul_le_mul_right s (Nat.succ_le_of_lt hrow)
            rwa [Nat.succ_mul] at this
          have hvl : v.cells.toList.length = T.siz t := by rw [Array.length_toList, k1, hl]
          obtain ⟨w', r1, r2, r3, r4, r5, r6, c', r7, r8, r9⟩ := run_storeCells (P := P) g' (row * s + off) e v.cells.toList 0 w c h2 k2 (by omega)
          refine ⟨w', ?_, ?_⟩
          · simp [Instr.storeAt, Instr.sureAddr, storeVar, sizeOf_of hT hz, k1, hl, r1]
          · have hrs : rowSize w' g' = rowSize w g' := by simp [rowSize, r7, h2, r8]
            have hS : ¬ S g' := (hi.dom id g' h1).2.2.1
            have hw : SameOn S w w' := fun b hb => r6 b (by rintro rfl; exact hS hb)
            have hz' : ∀ i q, μ i = some q → rowSize w' q = rowSize w q := fun i q _ => by
              by_cases e : q = g'
              · subst e; exact hrs
              · exact rowSize_same (r6 q e)
            have hmono : ∀ {v x}, Rd μ S w v x → Rd μ S w' v x := fun h => h.mono hw (fun _ h => h) (fun _ _ h => h) hz'
            have hrow' : rows[row]? = some (rows.getD row []) := by
              rw [List.getD_eq_getElem?_getD, List.getElem?_eq_getElem hrow]; rfl
            have hlen : (rows.getD row []).length = s := h4 _ (List.mem_of_getElem? hrow')
            refine hi.write id g' h1 r2 r3 r4 r5 r6 hrs _ (.inr ⟨g', c', h1, r7, by simp; omega, fun q hq => ?_, fun i q hq j y hy => ?_⟩)
            · rcases List.mem_or_eq_of_mem_set hq with h | h
              · exact h4 q h
              · rw [h, putAt_length, hlen]
            · rw [r9]
              rw [List.getElem?_set] at hq
              by_cases ei : row = i
              · subst ei
                simp only [if_true, hrow] at hq
                injection hq with hq; subst hq
                have hj : j < s := by
                  by_cases h : j < s
                  · exact h
                  · rw [List.getElem?_eq_none (by rw [putAt_length, hlen]; omega)] at hy; cases hy
                rw [putAt_get _ _ _ _ (by rw [hlen]; omega)] at hy
                by_cases e2 : off ≤ j ∧ j < off + xs.length
                · rw [if_pos e2] at hy
                  rw [if_pos (by omega)]
                  have := hmono (k3 _ _ hy)
                  rw [show row * s + j - (row * s + off + 0) = j - off from by omega]
                  rwa [Array.getD_eq_getD_getElem?, ← Array.getElem?_toList, ← List.getD_eq_getElem?_getD] at this
                · rw [if_neg e2] at hy
                  rw [if_neg (by omega)]
                  exact hmono (h5 row _ hrow' j y hy)
              · rw [if_neg ei] at hq
                have hj : j < s := by
                  by_cases h : j < s
                  · exact h
                  · rw [List.getElem?_eq_none (by rw [h4 _ (List.mem_of_getElem? hq)]; omega)] at hy; cases hy
                rw [if_neg (fun hh => ei (split_index (i := row) (j := i * s + j - row * s) (i' := i) (j' := j) (s := s) (by omega) hj (by omega)).1)]
                exact hmono (h5 i q hq j y hy)
      · cases h
    · cases h
  · cases h

end
end Go.Eng
