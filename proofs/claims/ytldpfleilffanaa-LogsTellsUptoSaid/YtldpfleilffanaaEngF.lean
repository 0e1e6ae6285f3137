/- The abstract machine, part F: variables, composite values, new maps. No condition. -/
import Derived.Test.YtldpfleilffanaaEngE
namespace Go.Eng
section
variable {P : Program} {T : Tab} {C : Ctx} {μ : Nat → Option Nat} {S : Nat → Prop} {σ : St} {a : Act} {w : World}

/-- cells of a block, one after the other, read so -/
def RdL (μ : Nat → Option Nat) (S : Nat → Prop) (w : World) (cs : Array Value) (xs : List AV) : Prop :=
  cs.size = xs.length ∧ ∀ (j : Nat) x, xs[j]? = some x → Rd μ S w (cs.getD j undef) x

theorem foldl_put (off : Nat) : ∀ (l : List Value) (k : Nat) (cells : Array Value), off + k + l.length ≤ cells.size →
    ((l.zipIdx k).foldl (fun cs (x : Value × Nat) => cs.setIfInBounds (off + x.2) x.1) cells).size = cells.size ∧
    ∀ m, ((l.zipIdx k).foldl (fun cs (x : Value × Nat) => cs.setIfInBounds (off + x.2) x.1) cells).getD m undef =
      if off + k ≤ m ∧ m < off + k + l.length then l.getD (m - (off + k)) undef else cells.getD m undef
  | [], k, cells, _ => ⟨rfl, fun m => by rw [if_neg (by simp)]; rfl⟩
  | v :: r, k, cells, h => by
    simp only [List.length_cons] at h
    simp only [List.zipIdx_cons, List.foldl_cons]
    obtain ⟨h1, h2⟩ := foldl_put off r (k + 1) (cells.setIfInBounds (off + k) v) (by simp; omega)
    refine ⟨by rw [h1]; simp, fun m => ?_⟩
    rw [h2 m]
    by_cases e : m = off + k
    · subst e
      rw [if_neg (by omega), if_pos (by simp)]
      simp [show off + k < cells.size by omega]
    · have : (cells.setIfInBounds (off + k) v).getD m undef = cells.getD m undef := by
        rw [Array.getD_eq_getD_getElem?, Array.getElem?_setIfInBounds_ne (fun h => e h.symm), ← Array.getD_eq_getD_getElem?]
      rw [this]
      by_cases e2 : off + k ≤ m ∧ m < off + k + (r.length + 1)
      · rw [if_pos (by omega), if_pos (by simpa using e2)]
        rw [show m - (off + k) = (m - (off + (k + 1))) + 1 from by omega]
        simp
      · rw [if_neg (by omega), if_neg (by simpa using e2)]

/-- parts put into their places -/
def fillAV : List AV → List (Nat × Nat × List AV) → List AV
  | l, [] => l
  | l, (off, _, xs) :: r => fillAV (putAt l off xs) r

theorem RdL.putAt {cs cs' : Array Value} {l xs : List AV} {off : Nat} {vs : Array Value} (h : RdL μ S w cs l) (hx : RdL μ S w vs xs) (hoff : off + xs.length ≤ l.length) (hsz : cs'.size = cs.size)
    (hg : ∀ m, cs'.getD m undef = if off ≤ m ∧ m < off + vs.size then vs.getD (m - off) undef else cs.getD m undef) : RdL μ S w cs' (Eng.putAt l off xs) := by
  refine ⟨by rw [hsz, h.1, putAt_length], fun j x hj => ?_⟩
  rw [putAt_get _ _ _ _ hoff] at hj
  rw [hg j]
  by_cases e : off ≤ j ∧ j < off + xs.length
  · rw [if_pos e] at hj
    rw [if_pos (by rw [hx.1]; exact e)]
    exact hx.2 _ _ hj
  · rw [if_neg e] at hj
    rw [if_neg (by rw [hx.1]; exact e)]
    exact h.2 _ _ hj

theorem fill_sound (place : Nat → Option (Nat × Nat)) : ∀ (parts : List (Nat × Value)) (aps : List (Nat × Nat × List AV)) (cells : Array Value) (l : List AV), RdL μ S w cells l →
    parts.length = aps.length → (∀ (i : Nat) q r, parts[i]? = some q → aps[i]? = some r → place q.1 = some (r.1, r.2.1) ∧ RdL μ S w q.2.cells r.2.2 ∧ r.2.2.length = r.2.1 ∧ r.1 + r.2.1 ≤ l.length) →
    ∃ cells', Instr.fill place cells parts = some cells' ∧ RdL μ S w cells' (fillAV l aps)
  | [], aps, cells, l, h, hl, _ => by
    cases aps with
    | nil => exact ⟨cells, rfl, h⟩
    | cons => simp at hl
  | (i, v) :: parts, aps, cells, l, h, hl, hp => by
    cases aps with
    | nil => simp at hl
    | cons q aps =>
      obtain ⟨off, size, xs⟩ := q
      obtain ⟨h1, h2, h3, h4⟩ := hp 0 (i, v) (off, size, xs) rfl rfl
      simp only at h1 h2 h3 h4
      have hvs : v.cells.size = size := by rw [h2.1, h3]
      have hcs := h.1
      obtain ⟨k1, k2⟩ := foldl_put off v.cells.toList 0 cells (by rw [Array.length_toList]; omega)
      have hput : RdL μ S w ((v.cells.toList.zipIdx 0).foldl (fun cs (x : Value × Nat) => cs.setIfInBounds (off + x.2) x.1) cells) (putAt l off xs) :=
        h.putAt h2 (by rw [h3]; exact h4) k1 (fun m => by
          rw [k2 m]
          simp only [Array.length_toList, Nat.add_zero]
          split
          · rw [List.getD_eq_getElem?_getD, Array.getElem?_toList, ← Array.getD_eq_getD_getElem?]
          · rfl)
      obtain ⟨cells', j1, j2⟩ := fill_sound place parts aps _ (putAt l off xs) hput (by simpa using hl) (fun m q r hq hr => by
        have := hp (m + 1) q r (by simpa using hq) (by simpa using hr)
        rwa [putAt_length])
      refine ⟨cells', ?_, j2⟩
      unfold Instr.fill
      rw [h1]
      simp only [hvs, ne_eq, not_true_eq_false, decide_false, Bool.false_or, decide_eq_true_eq]
      rw [if_neg (by omega), ← Array.foldl_toList, Array.toList_zipIdx]
      exact j1

theorem zero_rdl (hT : TabOK P T) {t : TypeId} (h : T.siz t ≠ 0) : ∃ z, (∀ w, (zeroValue t).run P w = .ok z w) ∧ z.cells.size = T.siz t ∧ (∀ μ S w, RdL μ S w z.cells (T.zer t)) ∧
    ((T.und t).isA = some (match z with | .agg _ => true | _ => false)) := by
  obtain ⟨i, hi, _, _, z, h1, h2, h3, h4⟩ := hT.siz t h
  refine ⟨z, fun w => by simp [zeroValue, typeInfo, hi, h1], h3, fun μ S w => ⟨by rw [← h2]; simp, fun j x hx => ?_⟩, h4⟩
  rw [← h2, List.getElem?_map, Array.getElem?_toList] at hx
  cases e : z.cells[j]? with
  | none => rw [e] at hx; cases hx
  | some v =>
    rw [e] at hx
    simp only [Option.map_some, Option.some.injEq] at hx
    subst hx
    rw [Array.getD_eq_getD_getElem?, e]
    exact rd_ofValue μ S w v

/-- where the parts of a struct go -/
def partsS (T : Tab) (σ : St) (t : TypeId) : List (Nat × Operand) → Option (Prop × List (Nat × Nat × List AV))
  | [] => some (True, [])
  | (j, o) :: r =>
    match T.fld t j, partsS T σ t r with
    | some (ft, off), some (p, l) =>
      match cellsAt T ft (evS σ o).2 with
      | some xs => some ((evS σ o).1 ∧ xs.length = T.siz ft ∧ xs.all AV.leaf = true ∧ off + T.siz ft ≤ (T.zer t).length ∧ p, (off, T.siz ft, xs) :: l)
      | none => none
    | _, _ => none

/-- where the elements of a slice go -/
def partsE (T : Tab) (σ : St) (e : TypeId) (n : Nat) : List (Nat × Operand) → Option (Prop × List (Nat × List AV))
  | [] => some (True, [])
  | (j, o) :: r =>
    match partsE T σ e n r, cellsAt T e (evS σ o).2 with
    | some (p, l), some xs => some ((evS σ o).1 ∧ xs.length = T.siz e ∧ xs.all AV.leaf = true ∧ j < n ∧ p, (j, xs) :: l)
    | _, _ => none

def buildAV (T : Tab) (σ : St) (t : TypeId) (parts : List (Nat × Operand)) : Option (Prop × AV) :=
  match T.und t, partsS T σ t parts with
  | .struct, some (p, l) => some (T.siz t ≠ 0 ∧ p, .agg (fillAV (T.zer t) l))
  | _, _ => none

theorem fields_mapM (F : Array Field) (h : ∀ f, f ∈ F → (P.info? f.type).isSome = true) :
    ((F.mapM fun f => do pure (f.offset, ← sizeOf f.type) : Sem (Array (Nat × Nat)))).run P w = .ok (F.map fun f => (f.offset, P.cellsOf f.type)) w := by
  rw [Array.mapM_eq_mapM_toList]
  have : ∀ (l : List Field), (∀ f, f ∈ l → (P.info? f.type).isSome = true) → ((l.mapM fun f => do pure (f.offset, ← sizeOf f.type) : Sem (List (Nat × Nat)))).run P w = .ok (l.map fun f => (f.offset, P.cellsOf f.type)) w := by
    intro l
    induction l with
    | nil => intro _; simp
    | cons f r ih =>
      intro h
      obtain ⟨i, hi⟩ := Option.isSome_iff_exists.1 (h f (List.mem_cons_self ..))
      have hs : (sizeOf f.type).run P w = .ok (P.cellsOf f.type) w := by simp [sizeOf, typeInfo, hi, Program.cellsOf]
      simp only [List.mapM_cons, Sem.run_bind, hs, Result.andThen_ok, Sem.run_pure, ih (fun g hg => h g (List.mem_cons_of_mem _ hg)), List.map_cons]
  rw [Sem.run_map, this F.toList (fun f hf => h f (by simpa using hf))]
  apply congrArg (fun q => Result.ok q w)
  apply Array.ext'
  simp

theorem partsS_sound (hT : TabOK P T) (hi : Inv C μ S σ a w) {t : TypeId} {F : Array Field} (hF : P.underlying t = some (.struct F)) : ∀ (parts : List (Nat × Operand)) (p : Prop) (l : List (Nat × Nat × List AV)),
    partsS T σ t parts = some (p, l) → p → parts.length = l.length ∧ ∀ (i : Nat) q r, (parts.map fun q => (q.1, a.eval q.2))[i]? = some q → l[i]? = some r →
      (F.map fun f => (f.offset, P.cellsOf f.type))[q.1]? = some (r.1, r.2.1) ∧ RdL μ S w q.2.cells r.2.2 ∧ r.2.2.length = r.2.1 ∧ r.1 + r.2.1 ≤ (T.zer t).length
  | [], p, l, h, _ => by
    simp only [partsS, Option.some.injEq, Prod.mk.injEq] at h
    obtain ⟨_, rfl⟩ := h
    exact ⟨rfl, fun i q r hq => by simp at hq⟩
  | (j, o) :: parts, p, l, h, hp => by
    unfold partsS at h
    split at h
    · rename_i ft off p' l' hfld hrest
      split at h
      · rename_i xs hxs
        simp only [Option.some.injEq, Prod.mk.injEq] at h
        obtain ⟨rfl, rfl⟩ := h
        obtain ⟨h1, h2, h3, h4, h5⟩ := hp
        obtain ⟨k1, k2⟩ := partsS_sound hT hi hF parts p' l' hrest h5
        refine ⟨by simp [k1], fun i q r hq hr => ?_⟩
        cases i with
        | succ i => exact k2 i q r (by simpa using hq) (by simpa using hr)
        | zero =>
          simp only [List.map_cons, List.getElem?_cons_zero, Option.some.injEq] at hq hr
          subst hq hr
          obtain ⟨F', f, e1, e2, e3, e4, e5⟩ := hT.fld _ _ _ _ hfld
          rw [hF] at e1
          injection e1 with e1
          injection e1 with e1
          subst e1
          obtain ⟨c1, c2, c3⟩ := cells_of hxs h3 (hi.evS o h1)
          obtain ⟨inf, e6, e7, _⟩ := hT.siz ft e5
          refine ⟨?_, ⟨c1, c3⟩, h2, h4⟩
          simp [e2, e3, e4, Program.cellsOf, e6, e7]
      · cases h
    · cases h

theorem sound_build (hT : TabOK P T) (hi : Inv C μ S σ a w) {t : TypeId} {parts : Array (Nat × Operand)} {p : Prop} {x : AV} (h : buildAV T σ t parts.toList = some (p, x)) (hp : p) :
    ∃ u, (Instr.build t (parts.map fun (i, o) => (i, a.eval o))).run P w = .ok u w ∧ Rd μ S w u x := by
  unfold buildAV at h
  split at h
  · rename_i p' l hu hps
    simp only [Option.some.injEq, Prod.mk.injEq] at h
    obtain ⟨rfl, rfl⟩ := h
    obtain ⟨h1, h3⟩ := hp
    have ht := hT.und t
    rw [hu] at ht
    obtain ⟨F, hF, hinf⟩ := ht
    obtain ⟨z, z1, z2, z3, z4⟩ := zero_rdl hT h1
    obtain ⟨k1, k2⟩ := partsS_sound hT hi hF parts.toList p' l hps h3
    obtain ⟨cells', f1, f2⟩ := fill_sound (μ := μ) (S := S) (w := w) ((F.map fun f => (f.offset, P.cellsOf f.type))[·]?) (parts.toList.map fun q => (q.1, a.eval q.2)) l z.cells (T.zer t) (z3 μ S w) (by simpa using k1) k2
    refine ⟨.agg cells', ?_, .agg cells' _ f2.1 f2.2⟩
    simp only [Instr.build, Sem.run_bind, z1, Result.andThen_ok, run_underlying hF, fields_mapM F hinf]
    rw [show (parts.map fun (x : Nat × Operand) => (x.1, a.eval x.2)).toList = parts.toList.map fun q => (q.1, a.eval q.2) by simp]
    rw [f1]
    simp
  · cases h

end
end Go.Eng
