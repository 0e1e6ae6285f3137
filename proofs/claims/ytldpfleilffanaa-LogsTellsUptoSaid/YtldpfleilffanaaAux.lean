/- Plain lemmas that the walks use. No condition. -/
import Derived.Test.YtldpfleilffanaaBas
import Derived.Test.YtldpfleilffanaaEngAA
namespace La
open Go Go.Eng Go.Proofs

theorem idxI_any {α : Type} {p : α → Bool} (l : List α) : decide (idxI (l.findIdx? p) ≥ 0) = l.any p := by
  cases h : l.findIdx? p with
  | none =>
    rw [List.findIdx?_eq_none_iff] at h
    have : l.any p = false := by rw [List.any_eq_false]; intro x hx; simp [h x hx]
    rw [this]; rfl
  | some k =>
    have : l.any p = true := by
      obtain ⟨hk, h1, _⟩ := List.findIdx?_eq_some_iff_getElem.1 h
      exact List.any_eq_true.2 ⟨_, List.getElem_mem hk, h1⟩
    rw [this]
    simp [idxI]

/-- a view of closures hands on what they hold -/
theorem viewL_pure : ∀ {l : List AV}, (l.all AV.pureB) = true → ∃ q, (∀ h, viewL h l = some (q, l)) ∧ q
  | [], _ => ⟨True, fun _ => rfl, trivial⟩
  | x :: r, hp => by
    simp only [List.all_cons, Bool.and_eq_true] at hp
    obtain ⟨q, h1, h2⟩ := viewL_pure hp.2
    have hx : ∀ h, view h x = some (True, x) := fun h => by
      cases x with
      | osl => cases hp.1
      | ptr => cases hp.1
      | mp => cases hp.1
      | fn => cases hp.1
      | agg => cases hp.1
      | any => cases hp.1
      | tup => cases hp.1
      | cnd => cases hp.1
      | _ => rfl
    exact ⟨True ∧ q, fun h => by simp only [viewL, hx, h1], trivial, h2⟩

theorem refsL_pure : ∀ {l : List AV}, (l.all AV.pureB) = true → refsL l = []
  | [], _ => rfl
  | x :: r, hp => by
    simp only [List.all_cons, Bool.and_eq_true] at hp
    have hx : refs x = [] := by cases x <;> first | rfl | cases hp.1
    simp only [refsL, hx, refsL_pure hp.2, List.append_nil]

theorem filter_split {α : Type} {l : List α} {p : α → Bool} {j : Nat} (h : l.findIdx? p = some j) : (l.take (j + 1)).filter (fun x => !p x) = l.take j := by
  obtain ⟨hk, h1, h2⟩ := List.findIdx?_eq_some_iff_getElem.1 h
  rw [List.take_succ_eq_append_getElem hk, List.filter_append]
  have e1 : (l.take j).filter (fun x => !p x) = l.take j := List.filter_eq_self.2 fun x hx => by
    obtain ⟨i, hi⟩ := List.getElem?_of_mem hx
    rw [List.getElem?_take] at hi
    split at hi
    · rename_i hij
      have := h2 i hij
      have e : l[i]? = some l[i] := List.getElem?_eq_getElem (by omega)
      rw [e] at hi; injection hi with hi
      rw [← hi]; simpa using this
    · cases hi
  rw [e1]
  simp [h1]
/-- where DeleteFunc's second loop is: 'j' looked at, what stays is ahead -/
structure DelInv {α : Type} (p : α → Bool) (l : List α) (j : Nat) (L : List α) : Prop where
  le : j ≤ l.length
  len : L.length = l.length
  drop : L.drop j = l.drop j
  take : L.take ((l.take j).filter fun x => !p x).length = (l.take j).filter fun x => !p x
  lt : ((l.take j).filter fun x => !p x).length < j

theorem DelInv.start {α : Type} {p : α → Bool} {l : List α} {k : Nat} (h : l.findIdx? p = some k) : DelInv p l (k + 1) l := by
  have hk : k < l.length := (List.findIdx?_eq_some_iff_getElem.1 h).1
  have e := filter_split h
  have el : (l.take k).length = k := by simp; omega
  refine ⟨hk, rfl, rfl, ?_, ?_⟩
  · rw [e, el]
  · rw [e, el]; omega

theorem DelInv.get {α : Type} [Inhabited α] {p : α → Bool} {l L : List α} {j : Nat} (h : DelInv p l j L) (hj : j < l.length) : L.getD j default = l.getD j default := by
  have := h.drop
  rw [drop_getD hj, drop_getD (show j < L.length by rw [h.len]; exact hj)] at this
  injection this

theorem DelInv.skip {α : Type} [Inhabited α] {p : α → Bool} {l L : List α} {j : Nat} (h : DelInv p l j L) (hj : j < l.length) (hp : p (l.getD j default) = true) : DelInv p l (j + 1) L := by
  have e : (l.take (j + 1)).filter (fun x => !p x) = (l.take j).filter fun x => !p x := by
    rw [take_succ_getD hj, List.filter_append]; simp only [List.filter_cons, hp, List.filter_nil, Bool.not_true, Bool.false_eq_true, if_false, List.append_nil]
  refine ⟨hj, h.len, ?_, ?_, ?_⟩
  · rw [← List.drop_drop, ← List.drop_drop, h.drop]
  · rw [e]; exact h.take
  · rw [e]; have := h.lt; omega

theorem DelInv.keep {α : Type} [Inhabited α] {p : α → Bool} {l L : List α} {j : Nat} (h : DelInv p l j L) (hj : j < l.length) (hp : p (l.getD j default) = false) :
    DelInv p l (j + 1) (L.set ((l.take j).filter fun x => !p x).length (l.getD j default)) ∧ ((l.take (j + 1)).filter fun x => !p x).length = ((l.take j).filter fun x => !p x).length + 1 := by
  have e : (l.take (j + 1)).filter (fun x => !p x) = (l.take j).filter (fun x => !p x) ++ [l.getD j default] := by
    rw [take_succ_getD hj, List.filter_append]; simp only [List.filter_cons, hp, List.filter_nil, Bool.not_false, if_true]
  have hlt := h.lt
  have hlen := h.len
  have htk := h.take
  generalize hd : (l.take j).filter (fun x => !p x) = d at *
  refine ⟨⟨hj, by simp [hlen], ?_, ?_, ?_⟩, by rw [e]; simp⟩
  · have : (L.set d.length (l.getD j default)).drop (j + 1) = L.drop (j + 1) := by
      rw [List.drop_set]; rw [if_pos (by omega)]
    rw [this, ← List.drop_drop, ← List.drop_drop, h.drop]
  · rw [e]
    simp only [List.length_append, List.length_cons, List.length_nil, Nat.zero_add]
    rw [List.take_succ_eq_append_getElem (by simp; omega), List.take_set_of_le (Nat.le_refl _), htk]
    simp
  · rw [e]; simp; omega

theorem DelInv.fin {α : Type} {p : α → Bool} {l L : List α} (h : DelInv p l l.length L) : L.take (l.filter fun x => !p x).length = l.filter fun x => !p x := by
  have := h.take
  rwa [List.take_length] at this

theorem set_map {α : Type} (f : α → List AV) (l : List α) (i : Nat) (x : α) : (l.map f).set i (f x) = (l.set i x).map f := by rw [List.map_set]
theorem clear_rows {α : Type} (f : α → List AV) {L : List α} {d : List α} (z : List AV) (h : L.take d.length = d) (hd : d.length ≤ L.length) :
    overRows (L.map f) d.length (List.replicate (L.length - d.length) z) = d.map f ++ List.replicate (L.length - d.length) z := by
  unfold overRows
  rw [← List.map_take, h, List.drop_eq_nil_of_le (by simp; omega), List.append_nil]
@[go_sem, simp] theorem refsB_append (e s : Nat) (a b : List (List AV)) : Eng.refsB (.cells e s (a ++ b)) = Eng.refsB (.cells e s a) ++ Eng.refsB (.cells e s b) := by
  simp only [Eng.refsB, List.flatMap_append]
@[go_sem, simp] theorem refsB_rep (e s n : Nat) (z : List AV) (h : refsL z = []) : Eng.refsB (.cells e s (List.replicate n z)) = [] := by
  simp only [Eng.refsB]
  induction n with
  | zero => rfl
  | succ n ih => simp only [List.replicate_succ, List.flatMap_cons, h, ih, List.append_nil]
attribute [go_sem] List.map_append List.map_replicate
theorem take_app {α : Type} {a b : List α} {n : Nat} (h : n = a.length) : (a ++ b).take n = a := by subst h; simp
theorem rep_pure (n : Nat) {z : List AV} (h : (z.all AV.pureB) = true) : ((List.replicate n z).all fun row => row.all AV.pureB) = true := by
  rw [List.all_eq_true]
  intro row hr
  rw [(List.mem_replicate.1 hr).2]
  exact h
end La
