/- The abstract machine, part G: what is let go; variables, slices and maps that are made. No condition. -/
import Derived.Test.YtldpfleilffanaaEngF
namespace Go.Eng
section
variable {P : Program} {T : Tab} {C : Ctx} {μ : Nat → Option Nat} {S : Nat → Prop} {σ : St} {a : Act} {w : World}

mutual
/-- the numbers that a value holds -/
def refs : AV → List Nat
  | .ptr id _ _ _ => [id]
  | .osl id _ _ _ => [id]
  | .mp id => [id]
  | .agg cells => refsL cells
  | .tup vs => refsL vs
  | .fn _ caps => refsL caps
  | .cnd _ v => refs v
  | _ => []
def refsL : List AV → List Nat
  | [] => []
  | x :: r => refs x ++ refsL r
end

theorem refsL_mem {x : AV} : ∀ {l : List AV} {j : Nat} {id : Nat}, l[j]? = some x → id ∈ refs x → id ∈ refsL l
  | [], j, id, h, _ => by simp at h
  | y :: r, j, id, h, hx => by
    simp only [refsL, List.mem_append]
    cases j with
    | zero => simp only [List.getElem?_cons_zero, Option.some.injEq] at h; subst h; exact .inl hx
    | succ j => exact .inr (refsL_mem (by simpa using h) hx)

theorem Rd.other {v : Value} {x : AV} (h : Rd μ S w v x) {id : Nat} (hn : id ∉ refs x) (g : Option Nat) : Rd (upd μ id g) S w v x := by
  induction h with
  | any v => exact .any v
  | pure h => exact .pure h
  | agg cs cells hl hr ih => exact .agg cs cells hl (fun j x hx => ih j x hx (fun h => hn (by simp only [refs]; exact refsL_mem hx h)))
  | tup vs xs hl hr ih => exact .tup vs xs hl (fun j x hx => ih j x hx (fun h => hn (by simp only [refs]; exact refsL_mem hx h)))
  | fn f vals caps hl hr ih => exact .fn f vals caps hl (fun j x hx => ih j x hx (fun h => hn (by simp only [refs]; exact refsL_mem hx h)))
  | ptr i size row off g' hg =>
    refine .ptr i size row off g' ?_
    unfold upd; rw [if_neg (by rintro rfl; exact hn (by simp [refs]))]; exact hg
  | osl i size off len cap A hc h =>
    refine .osl i size off len cap A hc ?_
    rcases h with h | ⟨g', e, n, h1, h2, h3, h4⟩
    · exact .inl h
    · refine .inr ⟨g', e, n, ?_, h2, h3, h4⟩
      unfold upd; rw [if_neg (by rintro rfl; exact hn (by simp [refs]))]; exact h1
  | mp i g' hg =>
    refine .mp i g' ?_
    unfold upd; rw [if_neg (by rintro rfl; exact hn (by simp [refs]))]; exact hg
  | cndT v x h ih => exact .cndT v x (ih (fun h => hn (by simpa [refs] using h)))
  | cndF x => exact .cndF x

def kill (id : Nat) (x : AV) : AV := if (refs x).contains id then .any else x

/-- no cell of a block holds the number -/
def BlkFree (id : Nat) : Blk → Prop
  | .cells _ _ rows => (rows.all fun row => row.all fun x => !(refs x).contains id) = true
  | .map _ => True
  | .iter .. => True

def HpFree (id : Nat) : List (Nat × Blk) → Prop
  | [] => True
  | (i, b) :: r => (i ≠ id → BlkFree id b) ∧ HpFree id r

theorem HpFree.get {id : Nat} : ∀ {h : List (Nat × Blk)}, HpFree id h → ∀ {i b}, hget h i = some b → i ≠ id → BlkFree id b
  | [], _, i, b, hb, _ => by simp [hget] at hb
  | (j, c) :: r, hf, i, b, hb, hi => by
    simp only [hget] at hb
    split at hb
    · rename_i e
      injection hb with hb; subst hb e
      exact hf.1 hi
    · exact hf.2.get hb hi

theorem rowsFree {id : Nat} {rows : List (List AV)} (h : (rows.all fun row => row.all fun x => !(refs x).contains id) = true) : ∀ row, row ∈ rows → ∀ x, x ∈ row → id ∉ refs x := by
  intro row hrow x hx
  have := List.all_eq_true.1 (List.all_eq_true.1 h row hrow) x hx
  simpa using this

theorem BlkOK.other {id i : Nat} {b : Blk} (h : BlkOK μ S w i b) (hi : i ≠ id) (hf : BlkFree id b) (g : Option Nat) : BlkOK (upd μ id g) S w i b := by
  have e : upd μ id g i = μ i := by unfold upd; rw [if_neg hi]
  cases b with
  | cells t s rows =>
    simp only [BlkOK, e]
    rcases h with h | ⟨g', c, h1, h2, h3, h4, h5⟩
    · exact .inl h
    · exact .inr ⟨g', c, h1, h2, h3, h4, fun k row hk j x hx => (h5 k row hk j x hx).other (rowsFree hf row (List.mem_of_getElem? hk) x (List.mem_of_getElem? hx)) g⟩
  | map kvs =>
    simp only [BlkOK, e]
    exact h
  | iter kvs seen =>
    simp only [BlkOK, e]
    exact h

def St.drop (σ : St) (id : Nat) : St := ⟨σ.tm.map (kill id), hdel σ.hp id⟩

theorem rd_kill {v : Value} {x : AV} (h : Rd μ S w v x) (id : Nat) (g : Option Nat) : Rd (upd μ id g) S w v (kill id x) := by
  unfold kill
  split
  · exact .any v
  · rename_i hn
    exact h.other (by simpa using hn) g

/-- WHAT IS HELD UNDER A NUMBER IS LET GO. -/
theorem Inv.drop (hi : Inv C μ S σ a w) (id : Nat) (hf : HpFree id σ.hp) : Inv C (upd μ id none) S (σ.drop id) a w := by
  refine ⟨by simp [St.drop, hi.size], hi.defers, fun t x hx => ?_, fun i b hb => ?_, fun i g hg => ?_, fun i j g h1 h2 => ?_, hi.frm, hi.sb⟩
  · simp only [St.drop, List.getElem?_map] at hx
    cases e : σ.tm[t]? with
    | none => rw [e] at hx; cases hx
    | some y =>
      rw [e] at hx
      simp only [Option.map_some, Option.some.injEq] at hx
      subst hx
      exact rd_kill (hi.tm t y e) id none
  · simp only [St.drop, hget_hdel] at hb
    split at hb
    · cases hb
    · rename_i e
      exact (hi.hp i b hb).other (fun h => e h.symm) (hf.get hb (fun h => e h.symm)) none
  · unfold upd at hg
    split at hg
    · cases hg
    · rename_i e
      obtain ⟨⟨c, h1⟩, h2⟩ := hi.dom i g hg
      exact ⟨⟨c, by simp only [St.drop, hget_hdel]; rw [if_neg (fun h => e h.symm)]; exact h1⟩, h2⟩
  · unfold upd at h1 h2
    split at h1
    · cases h1
    · split at h2
      · cases h2
      · exact hi.inj i j g h1 h2

/-- room for a new block under a number: what was there is let go -/
def St.room (σ : St) (id : Nat) : Prop × St :=
  match hget σ.hp id with
  | none => (True, σ)
  | some _ => (HpFree id σ.hp, σ.drop id)

theorem room_free (σ : St) (id : Nat) : hget (σ.room id).2.hp id = none := by
  unfold St.room
  split
  · assumption
  · simp [St.drop, hget_hdel]

theorem Inv.room (hi : Inv C μ S σ a w) (id : Nat) (hp : (σ.room id).1) : ∃ μ', Inv C μ' S (σ.room id).2 a w := by
  unfold St.room at hp ⊢
  split
  · exact ⟨μ, hi⟩
  · rename_i b hb
    rw [hb] at hp
    exact ⟨_, hi.drop id hp⟩

theorem run_newRow (t : TypeId) (cs : Array Value) : (newRow t cs).run P w = .ok ⟨w.heap.size, 0, none⟩ (w.alloc (.cells cs t)) := rfl

theorem blk_new (μ : Nat → Option Nat) (S : Nat → Prop) (w : World) (id e s : Nat) (rows : List (List AV)) (cs : Array Value) (hs : cs.size = rows.length * s) (hrow : ∀ row, row ∈ rows → row.length = s)
    (h : ∀ (i : Nat) row, rows[i]? = some row → ∀ (j : Nat) x, row[j]? = some x → Rd μ S w (cs.getD (i * s + j) undef) x) (hn : μ id = none) (hS : ∀ b, S b → b < w.heap.size)
    (hd : ∀ i g, μ i = some g → g < w.heap.size) : BlkOK (upd μ id (some w.heap.size)) S (w.alloc (.cells cs e)) id (.cells e s rows) := by
  refine .inr ⟨w.heap.size, cs, by simp [upd], alloc_new w _, by omega, hrow, fun i row hi j x hx => ?_⟩
  refine (h i row hi j x hx).mono (fun b hb => alloc_get w _ b (hS b hb)) (fun _ h => h) (fun i' g hg => ?_) (fun i' g hg => rowSize_same (alloc_get w _ g (hd i' g hg)))
  unfold upd; rw [if_neg (by rintro rfl; rw [hn] at hg; cases hg)]; exact hg

/-- A VARIABLE OF ITS OWN. -/
theorem sound_box (hi : Inv C μ S σ a w) {id t : Nat} (hf : hget σ.hp id = none) {v : Value} {xs : List AV} (hx : RdL μ S w v.cells xs) :
    ∃ w', (Instr.box t v).run P w = .ok (.pointer (some ⟨w.heap.size, 0, none⟩)) w' ∧ Inv C (upd μ id (some w.heap.size)) S ⟨σ.tm, (id, .cells t xs.length [xs]) :: σ.hp⟩ a w' := by
  refine ⟨w.alloc (.cells v.cells t), by simp [Instr.box, newVar, run_newRow], ?_⟩
  refine hi.new id hf _ _ (blk_new μ S w id t xs.length [xs] v.cells (by simp [hx.1]) (by simp) (fun i row hi' j x hj => ?_) (hi.fresh hf) (fun b hb => (hi.sb b hb).1) (fun i g hg => (hi.dom i g hg).2.2.2))
  cases i with
  | zero => simp only [List.getElem?_cons_zero, Option.some.injEq] at hi'; subst hi'; simpa using hx.2 j x hj
  | succ i => simp at hi'

theorem sound_alloc (hT : TabOK P T) (hi : Inv C μ S σ a w) {id t : Nat} (hf : hget σ.hp id = none) (ht : T.siz t ≠ 0) :
    ∃ w', (Instr.alloc t true (.tuple #[])).run P w = .ok (.pointer (some ⟨w.heap.size, 0, none⟩)) w' ∧ Inv C (upd μ id (some w.heap.size)) S ⟨σ.tm, (id, .cells t (T.zer t).length [T.zer t]) :: σ.hp⟩ a w' := by
  obtain ⟨z, z1, _, z3, _⟩ := zero_rdl hT ht
  obtain ⟨w', h1, h2⟩ := sound_box (P := P) (t := t) hi hf (z3 μ S w)
  refine ⟨w', ?_, h2⟩
  simp only [Instr.alloc, Sem.run_bind, z1, Result.andThen_ok]
  exact h1

theorem sound_makeMap (hi : Inv C μ S σ a w) {id t : Nat} (hf : hget σ.hp id = none) :
    ∃ w', (Instr.makeMap t none).run P w = .ok (.map (some w.heap.size)) w' ∧ Inv C (upd μ id (some w.heap.size)) S ⟨σ.tm, (id, .map []) :: σ.hp⟩ a w' := by
  refine ⟨w.alloc (.map #[] 0), rfl, ?_⟩
  refine hi.new id hf _ _ ⟨w.heap.size, #[], 0, fun _ => undef, by simp [upd], alloc_new w _, ⟨fun e h => by simp at h, fun p h => by simp at h, by simp, rfl, List.Pairwise.nil, fun e h => by simp at h, by simp⟩, fun p h => by simp at h⟩

def setRows : List (List AV) → List (Nat × List AV) → List (List AV)
  | l, [] => l
  | l, (j, xs) :: r => setRows (l.set j xs) r

/-- rows, as the cells of a block -/
structure RdR (μ : Nat → Option Nat) (S : Nat → Prop) (w : World) (s : Nat) (cs : Array Value) (rows : List (List AV)) : Prop where
  size : cs.size = rows.length * s
  len : ∀ row, row ∈ rows → row.length = s
  rd : ∀ (i : Nat) row, rows[i]? = some row → ∀ (j : Nat) x, row[j]? = some x → Rd μ S w (cs.getD (i * s + j) undef) x

theorem fillE_sound (hi : Inv C μ S σ a w) {e n : Nat} (hs : T.siz e ≠ 0) : ∀ (parts : List (Nat × Operand)) (p : Prop) (l : List (Nat × List AV)) (cs : Array Value) (rows : List (List AV)),
    partsE T σ e n parts = some (p, l) → p → rows.length = n → RdR μ S w (T.siz e) cs rows →
    ∃ cs', Instr.fill (fun i => some (i * T.siz e, T.siz e)) cs (parts.map fun q => (q.1, a.eval q.2)) = some cs' ∧ RdR μ S w (T.siz e) cs' (setRows rows l)
  | [], p, l, cs, rows, h, _, _, hr => by
    simp only [partsE, Option.some.injEq, Prod.mk.injEq] at h
    obtain ⟨_, rfl⟩ := h
    exact ⟨cs, rfl, hr⟩
  | (k, o) :: parts, p, l, cs, rows, h, hp, hn, hr => by
    unfold partsE at h
    split at h
    · rename_i p' l' xs hrest hxs
      simp only [Option.some.injEq, Prod.mk.injEq] at h
      obtain ⟨rfl, rfl⟩ := h
      obtain ⟨h1, h2, h3, h4, h5⟩ := hp
      obtain ⟨c1, c2, c3⟩ := cells_of hxs h3 (hi.evS o h1)
      have hvs : (a.eval o).cells.size = T.siz e := by rw [c1, h2]
      have hle : k * T.siz e + T.siz e ≤ cs.size := by
        rw [hr.size, hn]
        have := Nat.mul_le_mul_right (T.siz e) (Nat.succ_le_of_lt h4)
        rwa [Nat.succ_mul] at this
      obtain ⟨k1, k2⟩ := foldl_put (k * T.siz e) (a.eval o).cells.toList 0 cs (by rw [Array.length_toList]; omega)
      obtain ⟨cs', j1, j2⟩ := fillE_sound hi hs parts p' l' _ (rows.set k xs) hrest h5 (by simp [hn]) ⟨by rw [k1, hr.size]; simp, fun row hrow => by
          rcases List.mem_or_eq_of_mem_set hrow with h | h
          · exact hr.len row h
          · rw [h, h2], fun i row hi' j x hj => by
          rw [k2]
          simp only [Array.length_toList, Nat.add_zero, hvs]
          rw [List.getElem?_set] at hi'
          by_cases ei : k = i
          · subst ei
            simp only [if_true, hn, h4] at hi'
            injection hi' with hi'; subst hi'
            have hjl : j < T.siz e := by
              by_cases h : j < T.siz e
              · exact h
              · rw [List.getElem?_eq_none (by omega)] at hj; cases hj
            rw [if_pos (by omega), show k * T.siz e + j - k * T.siz e = j from by omega]
            have := c3 j x hj
            rwa [Array.getD_eq_getD_getElem?, ← Array.getElem?_toList, ← List.getD_eq_getElem?_getD] at this
          · rw [if_neg ei] at hi'
            have hjl : j < T.siz e := by
              by_cases h : j < T.siz e
              · exact h
              · rw [List.getElem?_eq_none (by rw [hr.len row (List.mem_of_getElem? hi')]; omega)] at hj; cases hj
            rw [if_neg (fun hh => ei (split_index (i := k) (j := i * T.siz e + j - k * T.siz e) (i' := i) (j' := j) (s := T.siz e) (by omega) hjl (by omega)).1)]
            exact hr.rd i row hi' j x hj⟩
      refine ⟨cs', ?_, j2⟩
      simp only [List.map_cons]
      unfold Instr.fill
      simp only [hvs, ne_eq, not_true_eq_false, decide_false, Bool.false_or, decide_eq_true_eq]
      rw [if_neg (by omega), ← Array.foldl_toList, Array.toList_zipIdx]
      exact j1
    · cases h

theorem zeros_rdr (hT : TabOK P T) {e : Nat} (n : Nat) (hs : T.siz e ≠ 0) : ∃ z, (∀ w, (zeroValue e).run P w = .ok z w) ∧ z.cells.size = T.siz e ∧
    (∀ (μ : Nat → Option Nat) (S : Nat → Prop) (w : World), RdR μ S w (T.siz e) ((Array.range (n * T.siz e)).map (z.cells[· % z.cells.size]!)) (List.replicate n (T.zer e))) := by
  obtain ⟨z, z1, z2, z3, _⟩ := zero_rdl hT hs
  refine ⟨z, z1, z2, fun μ S w => ⟨by simp, fun row hrow => ?_, fun i row hi j x hj => ?_⟩⟩
  · rw [List.eq_of_mem_replicate hrow, ← (z3 μ S w).1, z2]
  · have hin : i < n := by
      by_cases h : i < n
      · exact h
      · rw [List.getElem?_eq_none (by simp; omega)] at hi; cases hi
    rw [List.getElem?_replicate, if_pos hin] at hi
    injection hi with hi; subst hi
    have hjl : j < T.siz e := by
      by_cases h : j < T.siz e
      · exact h
      · rw [List.getElem?_eq_none (by rw [← (z3 μ S w).1, z2]; omega)] at hj; cases hj
    have hlt : i * T.siz e + j < n * T.siz e := by
      have := Nat.mul_le_mul_right (T.siz e) (Nat.succ_le_of_lt hin)
      rw [Nat.succ_mul] at this
      omega
    have hmod : (i * T.siz e + j) % T.siz e = j := by rw [Nat.mul_comm, Nat.mul_add_mod, Nat.mod_eq_of_lt hjl]
    have := (z3 μ S w).2 j x hj
    rw [Array.getD_eq_getD_getElem?] at this ⊢
    have e2 : ((Array.range (n * T.siz e)).map (z.cells[· % z.cells.size]!))[i * T.siz e + j]? = some (z.cells[j]!) := by
      rw [Array.getElem?_map, Array.getElem?_range, if_pos hlt, Option.map_some, z2, hmod]
    rw [e2]
    have hj' : j < z.cells.size := by omega
    rw [Array.getElem?_eq_getElem hj'] at this
    simpa [hj'] using this

def buildSliceOp (T : Tab) (σ : St) (t n : Nat) (parts : List (Nat × Operand)) : Option (Prop × TypeId × List (List AV)) :=
  match T.und t with
  | .sl e =>
    match partsE T σ e n parts with
    | some (p, l) => some (T.siz e ≠ 0 ∧ n * T.siz e ≤ 2 ^ 24 ∧ p, e, setRows (List.replicate n (T.zer e)) l)
    | none => none
  | _ => none

theorem setRows_length : ∀ (l : List (Nat × List AV)) (rows : List (List AV)), (setRows rows l).length = rows.length
  | [], _ => rfl
  | (j, xs) :: r, rows => by simp [setRows, setRows_length r]

/-- A SLICE OF ITS OWN, OUT OF ITS PARTS. -/
theorem sound_buildSlice (hT : TabOK P T) (hi : Inv C μ S σ a w) {id t n : Nat} (hf : hget σ.hp id = none) {parts : Array (Nat × Operand)} {p : Prop} {e : TypeId} {rows : List (List AV)}
    (h : buildSliceOp T σ t n parts.toList = some (p, e, rows)) (hp : p) :
    ∃ w', (Instr.buildSlice t n (parts.map fun (i, o) => (i, a.eval o))).run P w = .ok (.slice (some ⟨w.heap.size, 0, none⟩) n n) w' ∧
      Inv C (upd μ id (some w.heap.size)) S ⟨σ.tm, (id, .cells e (T.siz e) rows) :: σ.hp⟩ a w' ∧ rows.length = n ∧ rowSize w' w.heap.size = some (e, n * T.siz e) := by
  unfold buildSliceOp at h
  split at h
  · rename_i e' hu
    split at h
    · rename_i p' l hps
      simp only [Option.some.injEq, Prod.mk.injEq] at h
      obtain ⟨rfl, rfl, rfl⟩ := h
      obtain ⟨h1, h2, h3⟩ := hp
      have ht := hT.und t
      rw [hu] at ht
      simp only [KDOK] at ht
      obtain ⟨z, z1, z2, z3⟩ := zeros_rdr hT n h1
      have hz3 : RdR μ S w (T.siz e') ((Array.range (n * T.siz e')).map ((if n * T.siz e' = 0 then #[] else z.cells)[· % (if n * T.siz e' = 0 then #[] else z.cells).size]!)) (List.replicate n (T.zer e')) := by
        by_cases h0 : n * T.siz e' = 0
        · have hn : n = 0 := by
            rcases Nat.mul_eq_zero.1 h0 with h | h
            · exact h
            · exact absurd h h1
          subst hn
          exact ⟨by simp, fun row h => by simp at h, fun i row h => by simp at h⟩
        · rw [if_neg h0]
          exact z3 μ S w
      obtain ⟨cs', f1, f2⟩ := fillE_sound (T := T) hi (e := e') (n := n) h1 parts.toList p' l _ _ hps h3 (by simp) hz3
      have hl : (setRows (List.replicate n (T.zer e')) l).length = n := by rw [setRows_length]; simp
      refine ⟨w.alloc (.cells cs' e'), ?_, ?_, hl, ?_⟩
      · rw [show (parts.toList.map fun q => (q.1, a.eval q.2)) = (parts.map fun (x : Nat × Operand) => (x.1, a.eval x.2)).toList by simp] at f1
        simp only [Instr.buildSlice, Sem.run_bind, run_underlying ht, Result.andThen_ok, sizeOf_of hT h1]
        rw [if_neg (by omega)]
        by_cases h0 : n * T.siz e' = 0
        · simp only [h0, if_true] at f1 ⊢
          simp only [Sem.run_pure, Result.andThen_ok, Sem.run_bind]
          rw [f1]
          rfl
        · simp only [h0, if_false] at f1 ⊢
          simp only [Sem.run_pure, Result.andThen_ok, Sem.run_bind, z1]
          rw [f1]
          rfl
      · exact hi.new id hf _ _ (blk_new μ S w id e' (T.siz e') _ cs' f2.size f2.len f2.rd (hi.fresh hf) (fun b hb => (hi.sb b hb).1) (fun i g hg => (hi.dom i g hg).2.2.2))
      · unfold rowSize
        rw [alloc_new]
        simp [f2.size, hl]
    · cases h
  · cases h

end
end Go.Eng
