/- The law NamesTurns is true of the program: its card NamesTurnsUptoCardSaid. No condition. -/
import Derived.Shelf.Strings.OnBuilder
import Derived.Shelf.Strings.Split
import Derived.Test.YtenlcncffplamaaDoorProg
import Derived.Lib.SplitLaws
import Derived.Lib.Join
import Derived.Laws.IdiomRangeMap
import Derived.ChangeArms
import Derived.Test.YtenlcncffplamaaDoorCards
import Derived.Test.YtenlcncffplamaaDoorTie
import Derived.Deep.DeepHandedRow
import Derived.Lib.LaidTab
import Derived.Test.YtenlcncffplamaaDoorNU2
namespace La

/-- a binary search: the first place from which on 'lt' is false, if it is true before, and false behind -/
def bsearch (lt : Nat → Bool) : Nat → Nat → Nat → Nat
  | 0, lo, _ => lo
  | f + 1, lo, hi => if lo < hi then (if lt ((lo + hi) / 2) then bsearch lt f ((lo + hi) / 2 + 1) hi else bsearch lt f lo ((lo + hi) / 2)) else lo

theorem bsearch_fuel (lt : Nat → Bool) : ∀ (f g lo hi : Nat), hi - lo ≤ f → hi - lo ≤ g → bsearch lt f lo hi = bsearch lt g lo hi
  | 0, 0, _, _, _, _ => rfl
  | 0, g + 1, lo, hi, h, _ => by
    unfold bsearch
    rw [if_neg (by omega)]
  | f + 1, 0, lo, hi, _, h => by
    unfold bsearch
    rw [if_neg (by omega)]
  | f + 1, g + 1, lo, hi, h1, h2 => by
    unfold bsearch
    by_cases h : lo < hi
    · rw [if_pos h, if_pos h]
      by_cases hl : lt ((lo + hi) / 2) = true
      · rw [if_pos hl, if_pos hl]; exact bsearch_fuel lt f g _ _ (by omega) (by omega)
      · rw [if_neg hl, if_neg hl]; exact bsearch_fuel lt f g _ _ (by omega) (by omega)
    · rw [if_neg h, if_neg h]

theorem bsearch_spec (lt : Nat → Bool) (n : Nat) (hmono : ∀ i j, i ≤ j → j < n → lt j = true → lt i = true) : ∀ (f lo hi : Nat), hi - lo ≤ f → lo ≤ hi → hi ≤ n → (∀ i, i < lo → lt i = true) → (∀ i, hi ≤ i → i < n → lt i = false) →
    bsearch lt f lo hi ≤ n ∧ (∀ i, i < bsearch lt f lo hi → lt i = true) ∧ ∀ i, bsearch lt f lo hi ≤ i → i < n → lt i = false
  | 0, lo, hi, h, hle, hn, h1, h2 => by
    have : lo = hi := by omega
    subst this
    exact ⟨hn, h1, h2⟩
  | f + 1, lo, hi, h, hle, hn, h1, h2 => by
    unfold bsearch
    by_cases hlt : lo < hi
    · rw [if_pos hlt]
      by_cases hl : lt ((lo + hi) / 2) = true
      · rw [if_pos hl]
        exact bsearch_spec lt n hmono f _ _ (by omega) (by omega) hn (fun i hi' => hmono i ((lo + hi) / 2) (by omega) (by omega) hl) h2
      · rw [if_neg hl]
        refine bsearch_spec lt n hmono f _ _ (by omega) (by omega) (by omega) h1 fun i hi1 hi2 => ?_
        cases e : lt i with
        | false => rfl
        | true => exact absurd (hmono _ i hi1 hi2 e) hl
    · rw [if_neg hlt]
      have : lo = hi := by omega
      subst this
      exact ⟨hn, h1, h2⟩

theorem bsearch_le (lt : Nat → Bool) : ∀ (f lo hi : Nat), lo ≤ hi → lo ≤ bsearch lt f lo hi ∧ bsearch lt f lo hi ≤ hi
  | 0, lo, hi, h => ⟨Nat.le_refl _, h⟩
  | f + 1, lo, hi, h => by
    unfold bsearch
    by_cases hlt : lo < hi
    · rw [if_pos hlt]
      split
      · have := bsearch_le lt f ((lo + hi) / 2 + 1) hi (by omega); omega
      · have := bsearch_le lt f lo ((lo + hi) / 2) (by omega); omega
    · rw [if_neg hlt]; omega

/-- a fid's place -/
def placeOf (l : List Node) (fid : Int) : Nat := bsearch (fun i => decide ((l.getD i default).fid < fid)) l.length 0 l.length
def isAt (l : List Node) (fid : Int) : Bool := decide (placeOf l fid < l.length) && decide ((l.getD (placeOf l fid) default).fid = fid)
def findN (l : List Node) (fid : Int) : Option Node := if isAt l fid then some (l.getD (placeOf l fid) default) else none
def putN (l : List Node) (n : Node) : List Node := if isAt l n.fid then l.set (placeOf l n.fid) n else l.take (placeOf l n.fid) ++ n :: l.drop (placeOf l n.fid)
def dropN (l : List Node) (fid : Int) : List Node := l.filter fun n => !(n.fid == fid)

theorem placeOf_le (l : List Node) (fid : Int) : placeOf l fid ≤ l.length := (bsearch_le _ _ _ _ (Nat.zero_le _)).2

/-- nodes rise by fids -/
def Up (l : List Node) : Prop := l.Pairwise fun a b => a.fid < b.fid

theorem Up.lt {l : List Node} (h : Up l) {i j : Nat} (hij : i < j) (hj : j < l.length) : (l.getD i default).fid < (l.getD j default).fid := by
  have := List.pairwise_iff_getElem.1 h i j (by omega) hj hij
  rw [List.getD_eq_getElem?_getD, List.getD_eq_getElem?_getD, List.getElem?_eq_getElem (by omega), List.getElem?_eq_getElem hj]
  exact this

theorem Up.place {l : List Node} (h : Up l) (fid : Int) : (∀ i, i < placeOf l fid → (l.getD i default).fid < fid) ∧ ∀ i, placeOf l fid ≤ i → i < l.length → fid ≤ (l.getD i default).fid := by
  have := bsearch_spec (fun i => decide ((l.getD i default).fid < fid)) l.length (fun i j hij hj hl => by
    rcases Nat.lt_or_eq_of_le hij with h1 | rfl
    · have := h.lt h1 hj
      have h2 := of_decide_eq_true hl
      exact decide_eq_true (by omega)
    · exact hl) l.length 0 l.length (by omega) (by omega) (Nat.le_refl _) (fun i hi => by omega) (fun i h1 h2 => by omega)
  obtain ⟨_, h2, h3⟩ := this
  exact ⟨fun i hi => of_decide_eq_true (h2 i hi), fun i hi hl => by have := of_decide_eq_false (h3 i hi hl); omega⟩

theorem getD_of {l : List Node} {x : Node} {i : Nat} (h : l[i]? = some x) : l.getD i default = x := by rw [List.getD_eq_getElem?_getD, h]; rfl

theorem findN_some {l : List Node} (h : Up l) {fid : Int} {x : Node} : findN l fid = some x ↔ x ∈ l ∧ x.fid = fid := by
  obtain ⟨p1, p2⟩ := h.place fid
  unfold findN isAt
  constructor
  · intro hf
    split at hf
    · rename_i hc
      rw [Bool.and_eq_true] at hc
      have h1 := of_decide_eq_true hc.1
      have h2 := of_decide_eq_true hc.2
      injection hf with hf
      subst hf
      exact ⟨getD_mem h1, h2⟩
    · cases hf
  · rintro ⟨hx, rfl⟩
    obtain ⟨i, hi⟩ := List.getElem?_of_mem hx
    have hil : i < l.length := (List.getElem?_eq_some_iff.1 hi).1
    have hix := getD_of hi
    have hpi : placeOf l x.fid = i := by
      rcases Nat.lt_trichotomy (placeOf l x.fid) i with h1 | h1 | h1
      · have := p2 _ (Nat.le_refl _) (by omega)
        have h3 := h.lt h1 hil
        rw [hix] at h3
        omega
      · exact h1
      · have := p1 i h1
        rw [hix] at this
        omega
    rw [hpi, hix, if_pos (by simp [hil])]

theorem findN_none {l : List Node} (h : Up l) {fid : Int} : findN l fid = none ↔ ∀ x, x ∈ l → x.fid ≠ fid := by
  constructor
  · intro hf x hx hxf
    rw [(findN_some h).2 ⟨hx, hxf⟩] at hf; cases hf
  · intro hf
    cases e : findN l fid with
    | none => rfl
    | some x =>
      obtain ⟨h1, h2⟩ := (findN_some h).1 e
      exact absurd h2 (hf x h1)

theorem putN_up {l : List Node} (h : Up l) (n : Node) : Up (putN l n) ∧ ∀ x, x ∈ putN l n ↔ x = n ∨ (x ∈ l ∧ x.fid ≠ n.fid) := by
  obtain ⟨p1, p2⟩ := h.place n.fid
  have hle := placeOf_le l n.fid
  unfold putN
  generalize hp : placeOf l n.fid = p at *
  have hmem : ∀ x, x ∈ l ↔ x ∈ l.take p ∨ x ∈ l.drop p := fun x => by
    have := List.mem_append (a := x) (s := l.take p) (t := l.drop p)
    rw [List.take_append_drop] at this
    exact this
  have ht : ∀ x, x ∈ l.take p → x.fid < n.fid := fun x hx => by
    obtain ⟨i, hi⟩ := List.getElem?_of_mem hx
    rw [List.getElem?_take] at hi
    split at hi
    · rename_i hip
      have := p1 i hip
      rwa [getD_of hi] at this
    · cases hi
  have hd : ∀ x, x ∈ l.drop p → n.fid ≤ x.fid := fun x hx => by
    obtain ⟨i, hi⟩ := List.getElem?_of_mem hx
    rw [List.getElem?_drop] at hi
    have := p2 (p + i) (by omega) (List.getElem?_eq_some_iff.1 hi).1
    rwa [getD_of hi] at this
  by_cases hat : isAt l n.fid = true
  · rw [if_pos hat]
    unfold isAt at hat
    rw [Bool.and_eq_true] at hat
    have hpl : p < l.length := by have := of_decide_eq_true hat.1; omega
    have hpf : (l.getD p default).fid = n.fid := by have := of_decide_eq_true hat.2; rw [hp] at this; exact this
    have hset : l.set p n = l.take p ++ n :: l.drop (p + 1) := by
      rw [List.set_eq_take_append_cons_drop, if_pos hpl]
    have hdd : l.drop p = l.getD p default :: l.drop (p + 1) := drop_getD hpl
    have hd1 : ∀ x, x ∈ l.drop (p + 1) → n.fid < x.fid := fun x hx => by
      obtain ⟨i, hi⟩ := List.getElem?_of_mem hx
      rw [List.getElem?_drop] at hi
      have := h.lt (i := p) (j := p + 1 + i) (by omega) (List.getElem?_eq_some_iff.1 hi).1
      rw [getD_of hi, hpf] at this
      exact this
    rw [hset]
    refine ⟨?_, fun x => ?_⟩
    · refine List.pairwise_append.2 ⟨h.sublist (List.take_sublist _ _), List.pairwise_cons.2 ⟨hd1, h.sublist (List.drop_sublist _ _)⟩, fun a ha b hb => ?_⟩
      rcases List.mem_cons.1 hb with rfl | hb
      · exact ht a ha
      · have := ht a ha; have := hd1 b hb; omega
    · rw [hmem, hdd]
      simp only [List.mem_append, List.mem_cons]
      constructor
      · rintro (h1 | h1 | h1)
        · exact .inr ⟨.inl h1, by have := ht x h1; omega⟩
        · exact .inl h1
        · exact .inr ⟨.inr (.inr h1), by have := hd1 x h1; omega⟩
      · rintro (h1 | ⟨h1 | rfl | h1, h2⟩)
        · exact .inr (.inl h1)
        · exact .inl h1
        · exact absurd hpf h2
        · exact .inr (.inr h1)
  · rw [if_neg hat]
    have hd1 : ∀ x, x ∈ l.drop p → n.fid < x.fid := fun x hx => by
      obtain ⟨i, hi⟩ := List.getElem?_of_mem hx
      rw [List.getElem?_drop] at hi
      have hil : p + i < l.length := (List.getElem?_eq_some_iff.1 hi).1
      have h0 : ¬ (l.getD p default).fid = n.fid := by
        intro e
        apply hat
        unfold isAt
        rw [hp, Bool.and_eq_true]
        exact ⟨decide_eq_true (by omega), decide_eq_true e⟩
      have h1 := p2 p (Nat.le_refl _) (by omega)
      by_cases hi0 : i = 0
      · subst hi0
        rw [Nat.add_zero] at hi
        rw [getD_of hi] at h0 h1
        omega
      · have := h.lt (i := p) (j := p + i) (by omega) hil
        rw [getD_of hi] at this
        omega
    refine ⟨?_, fun x => ?_⟩
    · refine List.pairwise_append.2 ⟨h.sublist (List.take_sublist _ _), List.pairwise_cons.2 ⟨hd1, h.sublist (List.drop_sublist _ _)⟩, fun a ha b hb => ?_⟩
      rcases List.mem_cons.1 hb with rfl | hb
      · exact ht a ha
      · have := ht a ha; have := hd1 b hb; omega
    · rw [hmem]
      simp only [List.mem_append, List.mem_cons]
      constructor
      · rintro (h1 | h1 | h1)
        · exact .inr ⟨.inl h1, by have := ht x h1; omega⟩
        · exact .inl h1
        · exact .inr ⟨.inr h1, by have := hd1 x h1; omega⟩
      · rintro (h1 | ⟨h1 | h1, h2⟩)
        · exact .inr (.inl h1)
        · exact .inl h1
        · exact .inr (.inr h1)

theorem dropN_up {l : List Node} (h : Up l) (fid : Int) : Up (dropN l fid) ∧ ∀ x, x ∈ dropN l fid ↔ x ∈ l ∧ x.fid ≠ fid :=
  ⟨h.sublist List.filter_sublist, fun x => by unfold dropN; rw [List.mem_filter]; simp⟩

/-! ### What the law TreePuts asks -/
theorem puts_found {l : List Node} (h : Up l) (n : Node) : findN (putN l n) n.fid = some n := by
  obtain ⟨h1, h2⟩ := putN_up h n
  exact (findN_some h1).2 ⟨(h2 n).2 (.inl rfl), rfl⟩
theorem puts_dropped {l : List Node} (h : Up l) (n : Node) : findN (dropN (putN l n) n.fid) n.fid = none := by
  obtain ⟨h1, h2⟩ := putN_up h n
  obtain ⟨h3, h4⟩ := dropN_up h1 n.fid
  exact (findN_none h3).2 fun x hx => ((h4 x).1 hx).2
theorem puts_other {l : List Node} (h : Up l) (n : Node) {other : Int} (ho : other ≠ n.fid) : findN l other = findN (putN l n) other := by
  obtain ⟨h1, h2⟩ := putN_up h n
  cases e : findN l other with
  | none =>
    symm
    rw [findN_none h1]
    intro x hx
    rcases (h2 x).1 hx with rfl | ⟨hx, _⟩
    · exact Ne.symm ho
    · exact (findN_none h).1 e x hx
  | some x =>
    obtain ⟨k1, k2⟩ := (findN_some h).1 e
    symm
    exact (findN_some h1).2 ⟨(h2 x).2 (.inr ⟨k1, by rw [k2]; exact ho⟩), k2⟩
end La

namespace La
open Go

/-- texts' order -/
theorem less_iff : ∀ (a b : List UInt8), Op.bytesLess a b = decide (a < b)
  | [], [] => by simp [Op.bytesLess]
  | [], _ :: _ => by simp [Op.bytesLess]
  | _ :: _, [] => by simp [Op.bytesLess]
  | p :: a, q :: b => by
    unfold Op.bytesLess
    rw [less_iff a b, Bool.eq_iff_iff]
    simp only [Bool.or_eq_true, decide_eq_true_eq, Bool.and_eq_true, beq_iff_eq, List.cons_lt_cons_iff]
theorem sirr (a : List UInt8) : ¬ a < a := List.lt_irrefl a
theorem strans {a b c : List UInt8} (h : a < b) (k : b < c) : a < c := List.lt_trans h k
theorem stri {a b : List UInt8} (h : ¬ a < b) (k : ¬ b < a) : a = b := List.le_antisymm (List.not_lt.1 k) (List.not_lt.1 h)

def eltAt (l : List Entry) (s : List UInt8) (i : Nat) : Bool := decide ((l.getD i default).name < s)
def eplace (l : List Entry) (s : List UInt8) : Nat := bsearch (eltAt l s) l.length 0 l.length
def isE (l : List Entry) (s : List UInt8) : Bool := decide (eplace l s < l.length) && decide ((l.getD (eplace l s) default).name = s)
def entryN (n : Node) (s : List UInt8) : Option Int := if isE n.entries s then some (n.entries.getD (eplace n.entries s) default).fid else none
def enterE (l : List Entry) (s : List UInt8) (f : Int) : List Entry := if isE l s then l.set (eplace l s) ⟨s, f⟩ else l.take (eplace l s) ++ ⟨s, f⟩ :: l.drop (eplace l s)
def leaveE (l : List Entry) (s : List UInt8) : List Entry := l.filter fun e => !(e.name == s)
def enterN (n : Node) (s : List UInt8) (f : Int) : Node := { n with entries := enterE n.entries s f }
def leaveN (n : Node) (s : List UInt8) : Node := { n with entries := leaveE n.entries s }

theorem eplace_le (l : List Entry) (s : List UInt8) : eplace l s ≤ l.length := (bsearch_le _ _ _ _ (Nat.zero_le _)).2

/-- names rise -/
def EUp (l : List Entry) : Prop := l.Pairwise fun a b => a.name < b.name

theorem EUp.lt {l : List Entry} (h : EUp l) {i j : Nat} (hij : i < j) (hj : j < l.length) : (l.getD i default).name < (l.getD j default).name := by
  have := List.pairwise_iff_getElem.1 h i j (by omega) hj hij
  rw [List.getD_eq_getElem?_getD, List.getD_eq_getElem?_getD, List.getElem?_eq_getElem (by omega), List.getElem?_eq_getElem hj]
  exact this

theorem EUp.place {l : List Entry} (h : EUp l) (s : List UInt8) : (∀ i, i < eplace l s → (l.getD i default).name < s) ∧ ∀ i, eplace l s ≤ i → i < l.length → ¬ (l.getD i default).name < s := by
  have := bsearch_spec (eltAt l s) l.length (fun i j hij hj hl => by
    rcases Nat.lt_or_eq_of_le hij with h1 | rfl
    · exact decide_eq_true (strans (h.lt h1 hj) (of_decide_eq_true hl))
    · exact hl) l.length 0 l.length (by omega) (by omega) (Nat.le_refl _) (fun i hi => by omega) (fun i h1 h2 => by omega)
  obtain ⟨_, h2, h3⟩ := this
  exact ⟨fun i hi => of_decide_eq_true (h2 i hi), fun i hi hl => of_decide_eq_false (h3 i hi hl)⟩

theorem egetD_of {l : List Entry} {x : Entry} {i : Nat} (h : l[i]? = some x) : l.getD i default = x := by rw [List.getD_eq_getElem?_getD, h]; rfl

theorem isE_iff {l : List Entry} (h : EUp l) (s : List UInt8) : isE l s = true ↔ ∃ e, e ∈ l ∧ e.name = s := by
  obtain ⟨p1, p2⟩ := h.place s
  unfold isE
  rw [Bool.and_eq_true, decide_eq_true_eq, decide_eq_true_eq]
  constructor
  · rintro ⟨h1, h2⟩; exact ⟨_, getD_mem h1, h2⟩
  · rintro ⟨e, he, rfl⟩
    obtain ⟨i, hi⟩ := List.getElem?_of_mem he
    have hil : i < l.length := (List.getElem?_eq_some_iff.1 hi).1
    have hix := egetD_of hi
    have hpi : eplace l e.name = i := by
      rcases Nat.lt_trichotomy (eplace l e.name) i with h1 | h1 | h1
      · have := p2 _ (Nat.le_refl _) (by omega)
        have h3 := h.lt h1 hil
        rw [hix] at h3
        exact absurd h3 this
      · exact h1
      · have := p1 i h1
        rw [hix] at this
        exact absurd this (sirr _)
    rw [hpi, hix]
    exact ⟨hil, rfl⟩

/-- what is before the place is lower, what is from it on is higher, if the name isn't there -/
theorem EUp.parts {l : List Entry} (h : EUp l) {s : List UInt8} (hs : isE l s = false) : (∀ e, e ∈ l.take (eplace l s) → e.name < s) ∧ ∀ e, e ∈ l.drop (eplace l s) → s < e.name := by
  obtain ⟨p1, p2⟩ := h.place s
  refine ⟨fun e he => ?_, fun e he => ?_⟩
  · obtain ⟨i, hi⟩ := List.getElem?_of_mem he
    rw [List.getElem?_take] at hi
    split at hi
    · rename_i hip
      have := p1 i hip
      rwa [egetD_of hi] at this
    · cases hi
  · obtain ⟨i, hi⟩ := List.getElem?_of_mem he
    rw [List.getElem?_drop] at hi
    have h1 := p2 (eplace l s + i) (by omega) (List.getElem?_eq_some_iff.1 hi).1
    rw [egetD_of hi] at h1
    by_cases h2 : s < e.name
    · exact h2
    · have h3 := stri h1 h2
      have : isE l s = true := (isE_iff h s).2 ⟨e, List.mem_of_getElem? hi, h3⟩
      rw [hs] at this; cases this

theorem enterE_up {l : List Entry} (h : EUp l) {s : List UInt8} (hs : isE l s = false) (f : Int) : EUp (enterE l s f) ∧ (∀ e, e ∈ enterE l s f ↔ e = ⟨s, f⟩ ∨ e ∈ l) ∧ leaveE (enterE l s f) s = l := by
  obtain ⟨h1, h2⟩ := h.parts hs
  unfold enterE leaveE
  rw [hs, if_neg (by simp)]
  generalize eplace l s = p at *
  have hmem : ∀ x, x ∈ l ↔ x ∈ l.take p ∨ x ∈ l.drop p := fun x => by
    have := List.mem_append (a := x) (s := l.take p) (t := l.drop p)
    rw [List.take_append_drop] at this
    exact this
  refine ⟨?_, fun e => ?_, ?_⟩
  · refine List.pairwise_append.2 ⟨h.sublist (List.take_sublist _ _), List.pairwise_cons.2 ⟨h2, h.sublist (List.drop_sublist _ _)⟩, fun a ha b hb => ?_⟩
    rcases List.mem_cons.1 hb with rfl | hb
    · exact h1 a ha
    · exact strans (h1 a ha) (h2 b hb)
  · rw [hmem, List.mem_append, List.mem_cons]
    constructor
    · rintro (h | h | h)
      · exact .inr (.inl h)
      · exact .inl h
      · exact .inr (.inr h)
    · rintro (h | h | h)
      · exact .inr (.inl h)
      · exact .inl h
      · exact .inr (.inr h)
  · rw [List.filter_append, List.filter_cons, List.filter_eq_self.2 (fun e he => ?_), List.filter_eq_self.2 (fun e he => ?_)]
    · simp
    · have : e.name ≠ s := by rintro rfl; exact sirr _ (h2 e he)
      simpa using this
    · have : e.name ≠ s := by rintro rfl; exact sirr _ (h1 e he)
      simpa using this

theorem EUp.same {l : List Entry} (h : EUp l) {a b : Entry} (ha : a ∈ l) (hb : b ∈ l) (hn : a.name = b.name) : a = b := by
  obtain ⟨i, hi⟩ := List.getElem?_of_mem ha
  obtain ⟨j, hj⟩ := List.getElem?_of_mem hb
  have hil := (List.getElem?_eq_some_iff.1 hi).1
  have hjl := (List.getElem?_eq_some_iff.1 hj).1
  rcases Nat.lt_trichotomy i j with h1 | h1 | h1
  · have := h.lt h1 hjl
    rw [egetD_of hi, egetD_of hj, hn] at this
    exact absurd this (sirr _)
  · subst h1
    rw [hi] at hj; injection hj
  · have := h.lt h1 hil
    rw [egetD_of hi, egetD_of hj, hn] at this
    exact absurd this (sirr _)

theorem entryN_some {n : Node} (h : EUp n.entries) {s : List UInt8} {f : Int} : entryN n s = some f ↔ ⟨s, f⟩ ∈ n.entries := by
  unfold entryN
  constructor
  · intro hf
    split at hf
    · rename_i hc
      unfold isE at hc
      rw [Bool.and_eq_true, decide_eq_true_eq, decide_eq_true_eq] at hc
      have := getD_mem hc.1
      injection hf with hf
      have e : n.entries.getD (eplace n.entries s) default = ⟨s, f⟩ := by
        cases h0 : n.entries.getD (eplace n.entries s) default with
        | mk a b => rw [h0] at hf hc; simp only at hf hc; rw [← hf, ← hc.2]
      rw [← e]; exact this
    · cases hf
  · intro hm
    have hi := (isE_iff h s).2 ⟨_, hm, rfl⟩
    rw [if_pos hi]
    unfold isE at hi
    rw [Bool.and_eq_true, decide_eq_true_eq, decide_eq_true_eq] at hi
    have := h.same (getD_mem hi.1) hm hi.2
    rw [this]
theorem entryN_none {n : Node} (h : EUp n.entries) {s : List UInt8} : entryN n s = none ↔ ∀ e, e ∈ n.entries → e.name ≠ s := by
  unfold entryN
  constructor
  · intro hf e he hn
    rw [if_pos ((isE_iff h s).2 ⟨e, he, hn⟩)] at hf; cases hf
  · intro hn
    rw [if_neg]
    intro hi
    obtain ⟨e, he, h1⟩ := (isE_iff h s).1 hi
    exact hn e he h1

/-! ### What the law TreeEnters asks -/
theorem enters_leads {n : Node} (h : EUp n.entries) {s : List UInt8} (hs : isE n.entries s = false) (f : Int) : entryN (enterN n s f) s = some f := by
  obtain ⟨h1, h2, _⟩ := enterE_up h hs f
  exact (entryN_some (n := enterN n s f) h1).2 ((h2 _).2 (.inl rfl))
theorem enters_leaves {n : Node} (h : EUp n.entries) {s : List UInt8} (hs : isE n.entries s = false) (f : Int) : leaveN (enterN n s f) s = n := by
  unfold leaveN enterN
  simp only
  rw [(enterE_up h hs f).2.2]
end La

namespace La
open Go Go.Eng

structure Kept where
  node : Node
  dirty : Bool
  worth : Int
  last : Int
deriving DecidableEq, Inhabited
structure Verdict where
  err : Int
  fid : Int
deriving DecidableEq, Inhabited
structure Past where
  client : Int
  act : Act
deriving DecidableEq, Inhabited

def keptRow (k : Kept) : List AV := [.int .i64 k.node.fid, .bool k.node.dir, .sl (k.node.data.map byteRow), .sl (k.node.entries.map entryRow), .int .i64 k.node.version, .bool k.dirty, .int .i64 k.worth, .int .i64 k.last]
def strRow (s : List UInt8) : List AV := [.str s]
def verdictRow (v : Verdict) : List AV := [.int .i64 v.err, .int .i64 v.fid]
def pastRow (p : Past) : List AV := [.int .i64 p.client, .int .i64 p.act.kind, .int .i64 p.act.fid, .int .i64 p.act.dir, .str p.act.name, .int .i64 p.act.to, .str p.act.toName, .sl (p.act.data.map byteRow)]
theorem fam_keptRow : Fam keptRow 8 := ⟨fun _ => rfl, fun _ => rfl, fun _ => rfl, fun _ => rfl⟩
@[go_sem, simp] theorem keptRow_rowsOf (l : List _) : Eng.rowsOf 8 (l.map keptRow) := fam_keptRow.rowsOf l
@[go_sem, simp] theorem keptRow_leaf (l : List _) : ((l.map keptRow).all fun row => row.all AV.leaf) = true := fam_keptRow.allLeaf l
@[go_sem, simp] theorem keptRow_pure (l : List _) : ((l.map keptRow).all fun row => row.all AV.pureB) = true := fam_keptRow.allPure l
@[go_sem, simp] theorem keptRow_noRef (id : Nat) (l : List _) : ((l.map keptRow).all fun row => row.all fun x => !(refs x).contains id) = true := fam_keptRow.noRef id l
@[go_sem, simp] theorem keptRow_refsB (e s : Nat) (l : List _) : refsB (.cells e s (l.map keptRow)) = [] := fam_keptRow.refsB e s l
@[go_sem, simp] theorem keptRow_renL (off : Nat) (l : List _) : (l.map keptRow).map (renL off) = l.map keptRow := Fam.renL (fun _ _ => rfl) off l
@[go_sem, simp] theorem keptRow_frzL (id s : Nat) (rows : List (List AV)) (l : List _) : (l.map keptRow).map (frzL id s rows) = l.map keptRow := Fam.frzL (fun _ _ _ _ => rfl) id s rows l
@[go_sem, simp] theorem keptRow_refsL (a) : refsL (keptRow a) = [] := fam_keptRow.free a
theorem fam_verdictRow : Fam verdictRow 2 := ⟨fun _ => rfl, fun _ => rfl, fun _ => rfl, fun _ => rfl⟩
@[go_sem, simp] theorem verdictRow_rowsOf (l : List _) : Eng.rowsOf 2 (l.map verdictRow) := fam_verdictRow.rowsOf l
@[go_sem, simp] theorem verdictRow_leaf (l : List _) : ((l.map verdictRow).all fun row => row.all AV.leaf) = true := fam_verdictRow.allLeaf l
@[go_sem, simp] theorem verdictRow_pure (l : List _) : ((l.map verdictRow).all fun row => row.all AV.pureB) = true := fam_verdictRow.allPure l
@[go_sem, simp] theorem verdictRow_noRef (id : Nat) (l : List _) : ((l.map verdictRow).all fun row => row.all fun x => !(refs x).contains id) = true := fam_verdictRow.noRef id l
@[go_sem, simp] theorem verdictRow_refsB (e s : Nat) (l : List _) : refsB (.cells e s (l.map verdictRow)) = [] := fam_verdictRow.refsB e s l
@[go_sem, simp] theorem verdictRow_renL (off : Nat) (l : List _) : (l.map verdictRow).map (renL off) = l.map verdictRow := Fam.renL (fun _ _ => rfl) off l
@[go_sem, simp] theorem verdictRow_frzL (id s : Nat) (rows : List (List AV)) (l : List _) : (l.map verdictRow).map (frzL id s rows) = l.map verdictRow := Fam.frzL (fun _ _ _ _ => rfl) id s rows l
@[go_sem, simp] theorem verdictRow_refsL (a) : refsL (verdictRow a) = [] := fam_verdictRow.free a
theorem fam_pastRow : Fam pastRow 8 := ⟨fun _ => rfl, fun _ => rfl, fun _ => rfl, fun _ => rfl⟩
@[go_sem, simp] theorem pastRow_rowsOf (l : List _) : Eng.rowsOf 8 (l.map pastRow) := fam_pastRow.rowsOf l
@[go_sem, simp] theorem pastRow_leaf (l : List _) : ((l.map pastRow).all fun row => row.all AV.leaf) = true := fam_pastRow.allLeaf l
@[go_sem, simp] theorem pastRow_pure (l : List _) : ((l.map pastRow).all fun row => row.all AV.pureB) = true := fam_pastRow.allPure l
@[go_sem, simp] theorem pastRow_noRef (id : Nat) (l : List _) : ((l.map pastRow).all fun row => row.all fun x => !(refs x).contains id) = true := fam_pastRow.noRef id l
@[go_sem, simp] theorem pastRow_refsB (e s : Nat) (l : List _) : refsB (.cells e s (l.map pastRow)) = [] := fam_pastRow.refsB e s l
@[go_sem, simp] theorem pastRow_renL (off : Nat) (l : List _) : (l.map pastRow).map (renL off) = l.map pastRow := Fam.renL (fun _ _ => rfl) off l
@[go_sem, simp] theorem pastRow_frzL (id s : Nat) (rows : List (List AV)) (l : List _) : (l.map pastRow).map (frzL id s rows) = l.map pastRow := Fam.frzL (fun _ _ _ _ => rfl) id s rows l
@[go_sem, simp] theorem pastRow_refsL (a) : refsL (pastRow a) = [] := fam_pastRow.free a
theorem fam_strRow : Fam strRow 1 := ⟨fun _ => rfl, fun _ => rfl, fun _ => rfl, fun _ => rfl⟩
@[go_sem, simp] theorem strRow_rowsOf (l : List _) : Eng.rowsOf 1 (l.map strRow) := fam_strRow.rowsOf l
@[go_sem, simp] theorem strRow_leaf (l : List _) : ((l.map strRow).all fun row => row.all AV.leaf) = true := fam_strRow.allLeaf l
@[go_sem, simp] theorem strRow_pure (l : List _) : ((l.map strRow).all fun row => row.all AV.pureB) = true := fam_strRow.allPure l
@[go_sem, simp] theorem strRow_noRef (id : Nat) (l : List _) : ((l.map strRow).all fun row => row.all fun x => !(refs x).contains id) = true := fam_strRow.noRef id l
@[go_sem, simp] theorem strRow_refsB (e s : Nat) (l : List _) : refsB (.cells e s (l.map strRow)) = [] := fam_strRow.refsB e s l
@[go_sem, simp] theorem strRow_renL (off : Nat) (l : List _) : (l.map strRow).map (renL off) = l.map strRow := Fam.renL (fun _ _ => rfl) off l
@[go_sem, simp] theorem strRow_frzL (id s : Nat) (rows : List (List AV)) (l : List _) : (l.map strRow).map (frzL id s rows) = l.map strRow := Fam.frzL (fun _ _ _ _ => rfl) id s rows l
@[go_sem, simp] theorem strRow_refsL (a) : refsL (strRow a) = [] := fam_strRow.free a
end La

namespace La
open Go Go.Eng Go.Proofs
set_option maxRecDepth 10000
set_option linter.unusedSimpArgs false
set_option linter.unusedVariables false

def okC (c : UInt8) : Bool := (decide (97 ≤ c.toNat) && decide (c.toNat ≤ 122)) || (decide (48 ≤ c.toNat) && decide (c.toNat ≤ 57))
def nameB (s : List UInt8) : Bool := decide (1 ≤ s.length) && decide (s.length ≤ 8) && s.all okC

theorem name_ok (s : List UInt8) (hs : s.length ≤ 100000000) : FnOK Tryd.prog 11 [.str s] [] (fun r _ => r = .bool (nameB s)) := by
  refine fn_of_cwW tabOK (Go.Proofs.Tryd.func11) rfl (fun C => ?_)
  simp only [Go.Proofs.Tryd.ntmps11, Go.Proofs.Tryd.results11, go_sem]
  refine cw_goR 99 (by simp only [go_sem]; try exact rfl) ?_
  refine cw_runN tabOK 1 (by simp only [go_sem]; exact rfl) (by simp only [go_sem]; exact rfl) (by simp only [go_sem]; try exact rfl) (by simp [go_sem]) ?_
  refine cw_goR 99 (by simp only [go_sem]; try exact rfl) ?_
  cases e1 : decide ((s.length : Int) < 1) with
  | true =>
    have hno : nameB s = false := by
      have h1 := of_decide_eq_true e1
      unfold nameB
      rw [show decide (1 ≤ s.length) = false from decide_eq_false (by omega)]; rfl
    refine cw_go tabOK 99 (by simp only [go_sem, e1]; try exact rfl) (by simp [go_sem, e1]) ?_
    refine cw_cond (by simp only [go_sem]; try exact rfl) trivial (fun h => ?_) (fun h => ?_)
    · refine cw_go tabOK 99 (by simp only [go_sem]; try exact rfl) (by simp [go_sem]) ?_
      refine cw_ret ⟨_, _, (by simp only [go_sem]; try exact rfl), by simp [go_sem], _, .inr (.inl rfl), ?_⟩
      rw [hno]
    · cases h
  | false =>
    have h1 := of_decide_eq_false e1
    cases e2 : decide ((s.length : Int) > 8) with
    | true =>
      have hno : nameB s = false := by
        have h2 := of_decide_eq_true e2
        unfold nameB
        rw [show decide (s.length ≤ 8) = false from decide_eq_false (by omega), Bool.and_false]; rfl
      refine cw_go tabOK 99 (by simp only [go_sem, e1, e2]; try exact rfl) (by simp [go_sem, e1, e2]) ?_
      refine cw_cond (by simp only [go_sem]; try exact rfl) trivial (fun h => ?_) (fun h => ?_)
      · refine cw_go tabOK 99 (by simp only [go_sem]; try exact rfl) (by simp [go_sem]) ?_
        refine cw_ret ⟨_, _, (by simp only [go_sem]; try exact rfl), by simp [go_sem], _, .inr (.inl rfl), ?_⟩
        rw [hno]
      · cases h
    | false =>
      have h2 := of_decide_eq_false e2
      have hyes : nameB s = s.all okC := by
        unfold nameB
        rw [show decide (1 ≤ s.length) = true from decide_eq_true (by omega), show decide (s.length ≤ 8) = true from decide_eq_true (by omega)]; rfl
      rw [hyes]
      refine cw_go tabOK 99 (by simp only [go_sem, e1, e2]; try exact rfl) (by simp [go_sem, e1, e2]) ?_
      refine cw_cond (by simp only [go_sem]; try exact rfl) trivial (fun h => ?_) (fun h => ?_)
      · cases h
      refine cw_go tabOK 99 (by simp only [go_sem]; try exact rfl) (by simp [go_sem]) ?_
      refine cw_loopS (fun i : Nat => i ≤ s.length ∧ ∀ j, j < i → okC (s.getD j 0) = true) (fun i => s.length - i) (fun i => [(3, .any), (4, .any), (15, .int .i64 i), (16, .any), (17, .any), (18, .any), (19, .any), (20, .any), (21, .any), (22, .any), (23, .any), (24, .any), (25, .any), (26, .any), (27, .any), (28, .any), (29, .any), (30, .any), (31, .any), (32, .any), (33, .any), (34, .any), (35, .any)]) (fun _ => []) 0 ⟨by omega, by omega⟩ ?_ fun i hi => ?_
      · simp only [go_sem]
        exact le_sub (by simp [go_sem]) (by simp [go_sem]) (by simp [go_sem])
      obtain ⟨hi, hs⟩ := hi
      simp only [go_sem]
      refine cw_go tabOK 99 (by simp only [go_sem]; try exact rfl) (by simp [go_sem]) ?_
      refine cw_cond (by simp only [go_sem]; try exact rfl) trivial (fun h => ?_) (fun h => ?_)
      · have hlt : i < s.length := by simp at h; omega
        have hw : IntKind.i64.wrap ((i : Int) + 1) = ((i + 1 : Nat) : Int) := by rw [Eng.wrap_small (by omega) (by omega)]; rfl
        have hno : okC (s.getD i 0) = false → s.all okC = false := fun h0 => by
          cases e : s.all okC with
          | false => rfl
          | true =>
            have := List.all_eq_true.1 e (s.getD i 0) (by rw [List.getD_eq_getElem?_getD, List.getElem?_eq_getElem hlt]; exact List.getElem_mem hlt)
            rw [this] at h0; cases h0
        have hyes : okC (s.getD i 0) = true → ∀ j, j < i + 1 → okC (s.getD j 0) = true := fun h0 j hj => by
          rcases Nat.lt_succ_iff_lt_or_eq.1 hj with h1 | rfl
          · exact hs j h1
          · exact h0
        refine cw_goR 99 (by simp only [go_sem]; try exact rfl) ?_
        refine cw_runN tabOK 2 (by simp only [go_sem]; exact rfl) (by simp only [go_sem]; exact rfl) (by simp only [go_sem]; try exact rfl) (by simp [go_sem]) ?_
        refine cw_goR 99 (by simp only [go_sem]; try exact rfl) ?_
        refine cw_runN tabOK 2 (by simp only [go_sem]; exact rfl) (by simp only [go_sem]; exact rfl) (by simp only [go_sem]; try exact rfl) (by simp [go_sem]) ?_
        refine cw_runN tabOK 1 (by simp only [go_sem]; exact rfl) (by simp only [go_sem]; exact rfl) (by simp only [go_sem]; try exact rfl) ?_ ?_
        · simp; omega
        refine cw_runN tabOK 1 (by simp only [go_sem]; exact rfl) (by simp only [go_sem]; exact rfl) (by simp only [go_sem]; try exact rfl) (by simp [go_sem]) ?_
        refine cw_goR 99 (by simp only [go_sem]; try exact rfl) ?_
        generalize s.getD i 0 = c at hno hyes
        have hc : okC c = ((!(decide ((c.toNat : Int) < 97)) && !(decide ((c.toNat : Int) > 122))) || (!(decide ((c.toNat : Int) < 48)) && !(decide ((c.toNat : Int) > 57)))) := by
          unfold okC
          rw [Bool.eq_iff_iff]
          simp only [Bool.or_eq_true, Bool.and_eq_true, decide_eq_true_eq, Bool.not_eq_true', decide_eq_false_iff_not]
          omega
        generalize hf1 : decide ((c.toNat : Int) < 97) = f1 at hc
        generalize hf2 : decide ((c.toNat : Int) > 122) = f2 at hc
        generalize hf3 : decide ((c.toNat : Int) < 48) = f3 at hc
        generalize hf4 : decide ((c.toNat : Int) > 57) = f4 at hc
        refine cw_runN tabOK 14 (by simp only [go_sem]; exact rfl) (by simp only [go_sem]; exact rfl) (by simp only [go_sem, hf1, hf2, hf3, hf4]; try exact rfl) ?_ ?_
        · cases f1 <;> cases f2 <;> cases f3 <;> cases f4 <;> simp
        have hb : (bif (bif f1 then true else f2) then (bif f3 then true else f4) else false) = !okC c := by
          rw [hc]; cases f1 <;> cases f2 <;> cases f3 <;> cases f4 <;> rfl
        simp only [go_sem, hb]
        refine cw_cond (by simp only [go_sem]; try exact rfl) trivial (fun h => ?_) (fun h => ?_)
        · have h0 : okC c = false := by simpa using h
          refine cw_go tabOK 99 (by simp only [go_sem]; try exact rfl) (by simp [go_sem]) ?_
          refine cw_ret ⟨_, _, (by simp only [go_sem]; try exact rfl), by simp [go_sem], _, .inr (.inl rfl), ?_⟩
          rw [hno h0]
        · have h0 : okC c = true := by simpa using h
          refine cw_go tabOK 99 (by simp only [go_sem, hw]; try exact rfl) (by simp [go_sem, hw]) ?_
          refine cw_back ⟨i + 1, ⟨by omega, hyes h0⟩, by omega, le_sub ?_ ?_ ?_⟩
          · simp [go_sem]
          · simp [go_sem]
          · simp [go_sem]
      · have e : i = s.length := by simp at h; omega
        have : s.all okC = true := List.all_eq_true.2 fun x hx => by
          obtain ⟨j, hj⟩ := List.getElem?_of_mem hx
          have := hs j (by rw [e]; exact (List.getElem?_eq_some_iff.1 hj).1)
          rwa [List.getD_eq_getElem?_getD, hj] at this
        refine cw_go tabOK 99 (by simp only [go_sem]; try exact rfl) (by simp [go_sem]) ?_
        refine cw_ret ⟨_, _, (by simp only [go_sem]; try exact rfl), by simp [go_sem], _, .inr (.inl rfl), ?_⟩
        rw [this]
end La

namespace Go.Proofs
open Go.Shelf
def Tryd.lays156_ren : Go.Shelf.Ren := ⟨fun | 156 => 26 | 165 => 43 | 166 => 32 | 169 => 34 | 240 => 45 | 241 => 53 | 276 => 55 | 277 => 65 | n => n, fun | 31 => 22 | 9 => 9 | 3 => 3 | 4 => 4 | 0 => 0 | 20 => 20 | 72 => 57 | 76 => 60 | 70 => 55 | 37 => 32 | 75 => 59 | 127 => 82 | 164 => 87 | 5 => 5 | 80 => 63 | n => n, fun | n => n⟩
theorem Tryd.lays156 : Go.Proofs.Lays.n156 Tryd.prog Tryd.lays156_ren := {
  mixed := by kernel_rfl
  f156 := Tryd.func26.trans (congrArg some (by kernel_rfl))
  f165 := Tryd.func43.trans (congrArg some (by kernel_rfl))
  f166 := Tryd.func32.trans (congrArg some (by kernel_rfl))
  f169 := Tryd.func34.trans (congrArg some (by kernel_rfl))
  f240 := Tryd.func45.trans (congrArg some (by kernel_rfl))
  f241 := Tryd.func53.trans (congrArg some (by kernel_rfl))
  f276 := Tryd.func55.trans (congrArg some (by kernel_rfl))
  f277 := Tryd.func65.trans (congrArg some (by kernel_rfl))
  t0 := Tryd.underlying0
  a0 := Tryd.isAgg0
  z0 := Tryd.sizeOf0
  v0 := Tryd.zeroValue0
  t3 := Tryd.underlying3
  a3 := Tryd.isAgg3
  z3 := Tryd.sizeOf3
  v3 := Tryd.zeroValue3
  t4 := Tryd.underlying4
  a4 := Tryd.isAgg4
  z4 := Tryd.sizeOf4
  v4 := Tryd.zeroValue4
  t9 := Tryd.underlying9
  a9 := Tryd.isAgg9
  z9 := Tryd.sizeOf9
  v9 := Tryd.zeroValue9
  t20 := Tryd.underlying20
  a20 := Tryd.isAgg20
  z20 := Tryd.sizeOf20
  v20 := Tryd.zeroValue20
  t31 := Tryd.underlying22
  a31 := Tryd.isAgg22
  z31 := Tryd.sizeOf22
  v31 := Tryd.zeroValue22
  t37 := Tryd.underlying32
  a37 := Tryd.isAgg32
  z37 := Tryd.sizeOf32
  v37 := Tryd.zeroValue32
  t70 := Tryd.underlying55
  a70 := Tryd.isAgg55
  z70 := Tryd.sizeOf55
  v70 := Tryd.zeroValue55
  t72 := Tryd.underlying57
  a72 := Tryd.isAgg57
  z72 := Tryd.sizeOf57
  v72 := Tryd.zeroValue57
  t75 := Tryd.underlying59
  a75 := Tryd.isAgg59
  z75 := Tryd.sizeOf59
  v75 := Tryd.zeroValue59
  t76 := Tryd.underlying60
  a76 := Tryd.isAgg60
  z76 := Tryd.sizeOf60
  v76 := Tryd.zeroValue60
  t127 := Tryd.underlying82
  a127 := Tryd.isAgg82
  z127 := Tryd.sizeOf82
  v127 := Tryd.zeroValue82
  t164 := Tryd.underlying87
  a164 := Tryd.isAgg87
  z164 := Tryd.sizeOf87
  v164 := Tryd.zeroValue87 }
theorem Tryd.Builder_Extra_156 : Builder.Extra Tryd.prog Tryd.lays156_ren := {
  sizeBuilder := by kernel_rfl
  liesBuilder := by kernel_rfl
  t5 := Tryd.underlying5
  a5 := Tryd.isAgg5
  z5 := Tryd.sizeOf5
  v5 := Tryd.zeroValue5
  infoByte := by kernel_rfl
  cellsByte := by kernel_rfl
  sizeByte := by kernel_rfl
  neB5 := by decide }
open Go.RowKit in
/-- No element: the empty string; the world is as it was. (Whatever the slice's address and capacity: a nil slice too.) (LAID: no walk: one application.) -/
theorem Tryd.strings_Join_none (a : Option Addr) (c : Nat) (sep : ByteArray) (w : World) :
    Calls Tryd.prog 26 #[.slice a 0 c, .string sep] w fun e w' => e = .returned (.string ⟨#[]⟩) ∧ w' = w := Any.strings_Join_none Tryd.lays156 Tryd.Builder_Extra_156 a c sep w
open Go.RowKit in
/-- strings.Join: "Join concatenates the elements of its first argument to create a single string. The separator string sep is placed between elements in the resulting string.": HOWEVER MANY ELEMENTS. Below the heap's end the world is as it was. (LAID: no walk: one application.) -/
theorem Tryd.strings_Join (bk o c : Nat) (xs : List ByteArray) (sep : ByteArray) (w : World) (hcells : ∀ (j : Nat) x, xs[j]? = some x → w.cell? ⟨bk, o + j, none⟩ = some (.string x)) (hbk : bk < w.heap.size) (hN : xs.length ≤ 140737488355328) (hcap : xs.length ≤ c) (hlen : (Lib.join (xs.map (·.data.toList)) sep.data.toList).length ≤ 140737488355328) :
    Calls Tryd.prog 26 #[.slice (some ⟨bk, o, none⟩) xs.length c, .string sep] w fun e w' => e = .returned (.string ⟨(Lib.join (xs.map (·.data.toList)) sep.data.toList).toArray⟩) ∧ Below w.heap.size w w' := Any.strings_Join Tryd.lays156 Tryd.Builder_Extra_156 bk o c xs sep w hcells hbk hN hcap hlen
def Tryd.lays143_ren : Go.Shelf.Ren := ⟨fun | 143 => 52 | 219 => 61 | 217 => 73 | 225 => 74 | 224 => 75 | 267 => 76 | 266 => 85 | 314 => 86 | n => n, fun | 9 => 9 | 3 => 3 | 4 => 4 | 5 => 5 | 46 => 81 | 146 => 122 | 51 => 114 | n => n, fun | 1 => 2 | n => n⟩
theorem Tryd.lays143 : Go.Proofs.Lays.n143 Tryd.prog Tryd.lays143_ren := {
  mixed := by kernel_rfl
  f143 := Tryd.func52.trans (congrArg some (by kernel_rfl))
  f217 := Tryd.func73.trans (congrArg some (by kernel_rfl))
  f219 := Tryd.func61.trans (congrArg some (by kernel_rfl))
  f224 := Tryd.func75.trans (congrArg some (by kernel_rfl))
  f225 := Tryd.func74.trans (congrArg some (by kernel_rfl))
  f266 := Tryd.func85.trans (congrArg some (by kernel_rfl))
  f267 := Tryd.func76.trans (congrArg some (by kernel_rfl))
  f314 := Tryd.func86.trans (congrArg some (by kernel_rfl))
  t3 := Tryd.underlying3
  a3 := Tryd.isAgg3
  z3 := Tryd.sizeOf3
  v3 := Tryd.zeroValue3
  t4 := Tryd.underlying4
  a4 := Tryd.isAgg4
  z4 := Tryd.sizeOf4
  v4 := Tryd.zeroValue4
  t5 := Tryd.underlying5
  a5 := Tryd.isAgg5
  z5 := Tryd.sizeOf5
  v5 := Tryd.zeroValue5
  t9 := Tryd.underlying9
  a9 := Tryd.isAgg9
  z9 := Tryd.sizeOf9
  v9 := Tryd.zeroValue9
  t46 := Tryd.underlying81
  a46 := Tryd.isAgg81
  z46 := Tryd.sizeOf81
  v46 := Tryd.zeroValue81
  t51 := Tryd.underlying114
  a51 := Tryd.isAgg114
  z51 := Tryd.sizeOf114
  v51 := Tryd.zeroValue114
  t146 := Tryd.underlying122
  a146 := Tryd.isAgg122
  z146 := Tryd.sizeOf122
  v146 := Tryd.zeroValue122
  g1 := by kernel_rfl }
open Go.RowKit Go.Lib in
/-- strings.Index: "Index returns the index of the first instance of substr in s, or -1 if substr is not present in s.": AT A substr OF ONE BYTE c: IT RETURNS 'Lib.indexByte s c'; the world is as it was. (LAID: no walk: one application.) -/
theorem Tryd.strings_Index_one (s : ByteArray) (c : UInt8) (w : World) :
    Calls Tryd.prog 52 #[.string s, .string ⟨#[c]⟩] w fun e w' => e = .returned (.int .i64 (Lib.indexByte s.data.toList c)) ∧ w' = w := Any.strings_Index_one Tryd.lays143 s c w
def Tryd.lays138_ren : Go.Shelf.Ren := ⟨fun | 138 => 51 | 195 => 62 | 218 => 64 | 143 => 52 | 219 => 61 | 217 => 73 | 225 => 74 | 224 => 75 | 267 => 76 | 266 => 85 | 314 => 86 | n => n, fun | 9 => 9 | 3 => 3 | 4 => 4 | 5 => 5 | 0 => 0 | 46 => 81 | 146 => 122 | 51 => 114 | n => n, fun | 1 => 2 | n => n⟩
theorem Tryd.lays138 : Go.Proofs.Lays.n138 Tryd.prog Tryd.lays138_ren := {
  mixed := by kernel_rfl
  f138 := Tryd.func51.trans (congrArg some (by kernel_rfl))
  f143 := Tryd.func52.trans (congrArg some (by kernel_rfl))
  f195 := Tryd.func62.trans (congrArg some (by kernel_rfl))
  f217 := Tryd.func73.trans (congrArg some (by kernel_rfl))
  f218 := Tryd.func64.trans (congrArg some (by kernel_rfl))
  f219 := Tryd.func61.trans (congrArg some (by kernel_rfl))
  f224 := Tryd.func75.trans (congrArg some (by kernel_rfl))
  f225 := Tryd.func74.trans (congrArg some (by kernel_rfl))
  f266 := Tryd.func85.trans (congrArg some (by kernel_rfl))
  f267 := Tryd.func76.trans (congrArg some (by kernel_rfl))
  f314 := Tryd.func86.trans (congrArg some (by kernel_rfl))
  t0 := Tryd.underlying0
  a0 := Tryd.isAgg0
  z0 := Tryd.sizeOf0
  v0 := Tryd.zeroValue0
  t3 := Tryd.underlying3
  a3 := Tryd.isAgg3
  z3 := Tryd.sizeOf3
  v3 := Tryd.zeroValue3
  t4 := Tryd.underlying4
  a4 := Tryd.isAgg4
  z4 := Tryd.sizeOf4
  v4 := Tryd.zeroValue4
  t5 := Tryd.underlying5
  a5 := Tryd.isAgg5
  z5 := Tryd.sizeOf5
  v5 := Tryd.zeroValue5
  t9 := Tryd.underlying9
  a9 := Tryd.isAgg9
  z9 := Tryd.sizeOf9
  v9 := Tryd.zeroValue9
  t46 := Tryd.underlying81
  a46 := Tryd.isAgg81
  z46 := Tryd.sizeOf81
  v46 := Tryd.zeroValue81
  t51 := Tryd.underlying114
  a51 := Tryd.isAgg114
  z51 := Tryd.sizeOf114
  v51 := Tryd.zeroValue114
  t146 := Tryd.underlying122
  a146 := Tryd.isAgg122
  z146 := Tryd.sizeOf122
  v146 := Tryd.zeroValue122
  g1 := by kernel_rfl }
open Go.RowKit Go.Lib in
/-- strings.Count AT A substr OF ONE BYTE ('hp'): "Count counts the number of non-overlapping instances of substr in s.": IT RETURNS 'Lib.countByte s (that byte)'; the world is as it was. ✋ NO CONTRACT HERE YET at an empty substr (utf8.RuneCountInString) or at a longer one (a loop over strings.Index). (LAID: no walk: one application.) -/
theorem Tryd.strings_Count_one (s : ByteArray) (c : UInt8) (w : World) :
    Calls Tryd.prog 51 #[.string s, .string ⟨#[c]⟩] w fun e w' => e = .returned (.int .i64 (Lib.countByte s.data.toList c)) ∧ w' = w := Any.strings_Count_one Tryd.lays138 s c w
def Tryd.lays221_ren : Go.Shelf.Ren := ⟨fun | 221 => 42 | 268 => 50 | 138 => 51 | 143 => 52 | 195 => 62 | 197 => 63 | 218 => 64 | 219 => 61 | 260 => 77 | 217 => 73 | 225 => 74 | 224 => 75 | 267 => 76 | 266 => 85 | 314 => 86 | n => n, fun | 9 => 9 | 3 => 3 | 31 => 22 | 4 => 4 | 0 => 0 | 105 => 95 | 21 => 21 | 5 => 5 | 46 => 81 | 119 => 124 | 139 => 127 | 138 => 126 | 146 => 122 | 51 => 114 | n => n, fun | 1 => 2 | 3 => 4 | 4 => 5 | n => n⟩
theorem Tryd.lays221 : Go.Proofs.Lays.n221 Tryd.prog Tryd.lays221_ren := {
  mixed := by kernel_rfl
  f138 := Tryd.func51.trans (congrArg some (by kernel_rfl))
  f143 := Tryd.func52.trans (congrArg some (by kernel_rfl))
  f195 := Tryd.func62.trans (congrArg some (by kernel_rfl))
  f197 := Tryd.func63.trans (congrArg some (by kernel_rfl))
  f217 := Tryd.func73.trans (congrArg some (by kernel_rfl))
  f218 := Tryd.func64.trans (congrArg some (by kernel_rfl))
  f219 := Tryd.func61.trans (congrArg some (by kernel_rfl))
  f221 := Tryd.func42.trans (congrArg some (by kernel_rfl))
  f224 := Tryd.func75.trans (congrArg some (by kernel_rfl))
  f225 := Tryd.func74.trans (congrArg some (by kernel_rfl))
  f260 := Tryd.func77.trans (congrArg some (by kernel_rfl))
  f266 := Tryd.func85.trans (congrArg some (by kernel_rfl))
  f267 := Tryd.func76.trans (congrArg some (by kernel_rfl))
  f268 := Tryd.func50.trans (congrArg some (by kernel_rfl))
  f314 := Tryd.func86.trans (congrArg some (by kernel_rfl))
  t0 := Tryd.underlying0
  a0 := Tryd.isAgg0
  z0 := Tryd.sizeOf0
  v0 := Tryd.zeroValue0
  t3 := Tryd.underlying3
  a3 := Tryd.isAgg3
  z3 := Tryd.sizeOf3
  v3 := Tryd.zeroValue3
  t4 := Tryd.underlying4
  a4 := Tryd.isAgg4
  z4 := Tryd.sizeOf4
  v4 := Tryd.zeroValue4
  t5 := Tryd.underlying5
  a5 := Tryd.isAgg5
  z5 := Tryd.sizeOf5
  v5 := Tryd.zeroValue5
  t9 := Tryd.underlying9
  a9 := Tryd.isAgg9
  z9 := Tryd.sizeOf9
  v9 := Tryd.zeroValue9
  t21 := Tryd.underlying21
  a21 := Tryd.isAgg21
  z21 := Tryd.sizeOf21
  v21 := Tryd.zeroValue21
  t31 := Tryd.underlying22
  a31 := Tryd.isAgg22
  z31 := Tryd.sizeOf22
  v31 := Tryd.zeroValue22
  t46 := Tryd.underlying81
  a46 := Tryd.isAgg81
  z46 := Tryd.sizeOf81
  v46 := Tryd.zeroValue81
  t51 := Tryd.underlying114
  a51 := Tryd.isAgg114
  z51 := Tryd.sizeOf114
  v51 := Tryd.zeroValue114
  t105 := Tryd.underlying95
  a105 := Tryd.isAgg95
  z105 := Tryd.sizeOf95
  v105 := Tryd.zeroValue95
  t119 := Tryd.underlying124
  a119 := Tryd.isAgg124
  z119 := Tryd.sizeOf124
  t138 := Tryd.underlying126
  a138 := Tryd.isAgg126
  z138 := Tryd.sizeOf126
  v138 := Tryd.zeroValue126
  t139 := Tryd.underlying127
  a139 := Tryd.isAgg127
  z139 := Tryd.sizeOf127
  v139 := Tryd.zeroValue127
  t146 := Tryd.underlying122
  a146 := Tryd.isAgg122
  z146 := Tryd.sizeOf122
  v146 := Tryd.zeroValue122
  g1 := by kernel_rfl
  g3 := by kernel_rfl
  g4 := by kernel_rfl }
end Go.Proofs

namespace La
open Go Go.Lib

/-- a text, cut at a byte -/
def cutL (c : UInt8) : List UInt8 → List (List UInt8)
  | [] => [[]]
  | x :: r => if x = c then [] :: cutL c r else ((x :: (cutL c r).headD []) :: (cutL c r).tail)

theorem cutL_ne (c : UInt8) (s : List UInt8) : cutL c s ≠ [] := by
  cases s with
  | nil => simp [cutL]
  | cons x r => unfold cutL; split <;> simp

theorem cutL_eq (c : UInt8) (s : List UInt8) : (cutL c s).headD [] :: (cutL c s).tail = cutL c s := by
  cases e : cutL c s with
  | nil => exact absurd e (cutL_ne c s)
  | cons p ps => rfl

theorem splitK_cut (c : UInt8) : ∀ s : List UInt8, splitK [c] 0 (count s [c]) s = cutL c s
  | [] => by rw [count_miss (by simp [index])]; rfl
  | x :: r => by
    by_cases h : x = c
    · subst h
      have hix : index (x :: r) [x] = ((0 : Nat) : Int) := by rw [index]; simp [List.isPrefixOf]
      rw [count_cons_eq, Nat.add_comm, splitK, hix]
      simp only [cutL, if_true]
      rw [← splitK_cut x r]
      simp
    · have ih := splitK_cut c r
      have hp : ([c] : List UInt8).isPrefixOf (x :: r) = false := by simp [List.isPrefixOf, Ne.symm h]
      have hix : index (x :: r) [c] = if index r [c] == -1 then -1 else index r [c] + 1 := by rw [index, hp]; simp
      rw [count_cons_ne x c r h]
      simp only [cutL, if_neg h, ← ih]
      cases e : count r [c] with
      | zero => simp [splitK]
      | succ k =>
        have hm : ¬ index r [c] = -1 := fun e2 => by rw [count_miss e2] at e; cases e
        have hge := index_ge r [c]
        obtain ⟨j, hj⟩ : ∃ j : Nat, index r [c] = j := ⟨(index r [c]).toNat, by omega⟩
        have hix' : index (x :: r) [c] = ((j + 1 : Nat) : Int) := by rw [hix, if_neg (fun e => hm (beq_iff_eq.1 e)), hj]; omega
        simp only [splitK, hix', hj]
        have h1 : ((((j + 1 : Nat) : Int)) == -1) = false := beq_eq_false_iff_ne.2 (by omega)
        have h2 : (((j : Nat) : Int) == -1) = false := beq_eq_false_iff_ne.2 (by omega)
        simp only [h1, h2]
        simp

theorem splitB_cut (c : UInt8) (s : ByteArray) : (splitB ⟨#[c]⟩ 0 (countB s ⟨#[c]⟩) s).map (·.data.toList) = cutL c s.data.toList := by
  rw [splitB_data, ← splitK_cut]

theorem countB_cut (c : UInt8) (s : ByteArray) : countB s ⟨#[c]⟩ + 1 = (cutL c s.data.toList).length := by
  rw [← splitB_cut, List.length_map, splitB_all ⟨#[c]⟩ (Nat.le_refl 1) 0 _ s rfl]

/-- as it is done byte by byte -/
def cutA (c : UInt8) : List (List UInt8) → List UInt8 → List UInt8 → List (List UInt8)
  | done, cur, [] => done ++ [cur]
  | done, cur, x :: r => if x = c then cutA c (done ++ [cur]) [] r else cutA c done (cur ++ [x]) r

theorem cutA_eq (c : UInt8) : ∀ (s : List UInt8) (done : List (List UInt8)) (cur : List UInt8), cutA c done cur s = done ++ ((cur ++ (cutL c s).headD []) :: (cutL c s).tail)
  | [], done, cur => by simp [cutA, cutL]
  | x :: r, done, cur => by
    simp only [cutA, cutL]
    split
    · rw [cutA_eq c r]
      have := cutL_eq c r
      simp only [List.nil_append, this, List.append_assoc, List.headD_cons, List.append_nil, List.tail_cons, List.singleton_append]
    · rw [cutA_eq c r]; simp

theorem cutA_cut (c : UInt8) (s : List UInt8) : cutA c [] [] s = cutL c s := by
  rw [cutA_eq, List.nil_append, List.nil_append, cutL_eq]

theorem cutL_le (c : UInt8) : ∀ s : List UInt8, (cutL c s).length ≤ s.length + 1
  | [] => by simp [cutL]
  | x :: r => by
    have := cutL_le c r
    unfold cutL
    split
    · simp; omega
    · simp; omega

theorem cutL_part (c : UInt8) : ∀ (s p : List UInt8), p ∈ cutL c s → p.length ≤ s.length
  | [], p, h => by simp [cutL] at h; subst h; simp
  | x :: r, p, h => by
    unfold cutL at h
    have ih := cutL_part c r
    split at h
    · rcases List.mem_cons.1 h with rfl | h
      · simp
      · have := ih p h; simp; omega
    · rcases List.mem_cons.1 h with rfl | h
      · have : (cutL c r).headD [] ∈ cutL c r := by
          have := cutL_eq c r
          rw [← this]; simp
        have := ih _ this; simp only [List.length_cons]; omega
      · have := ih p (List.mem_of_mem_tail h); simp; omega

/-- joined again it is the text -/
theorem join_cut (c : UInt8) : ∀ s : List UInt8, join (cutL c s) [c] = s
  | [] => by simp [cutL, join_one]
  | x :: r => by
    have ih := join_cut c r
    have he := cutL_eq c r
    unfold cutL
    split
    · rename_i h
      subst h
      rw [join_cons]
      rw [← he, join_cons] at ih
      rw [← he]
      simp only [joinTail, List.map_cons, List.flatten_cons, List.nil_append, List.cons_append] at ih ⊢
      rw [ih]
    · rw [← he, join_cons] at ih
      rw [join_cons]
      simp only [List.cons_append]
      rw [ih]

/-- texts without the byte, joined, are cut the same -/
theorem cut_plain (c : UInt8) : ∀ (p : List UInt8), c ∉ p → cutL c p = [p]
  | [], _ => rfl
  | x :: r, h => by
    simp only [List.mem_cons, not_or] at h
    rw [cutL, if_neg (fun e => h.1 e.symm), cut_plain c r h.2]
    rfl

theorem cut_app (c : UInt8) : ∀ (p s : List UInt8), c ∉ p → cutL c (p ++ c :: s) = p :: cutL c s
  | [], s, _ => by simp [cutL]
  | x :: r, s, h => by
    simp only [List.mem_cons, not_or] at h
    rw [List.cons_append, cutL, if_neg (fun e => h.1 e.symm), cut_app c r s h.2]
    rfl

theorem cut_join (c : UInt8) : ∀ (p : List UInt8) (l : List (List UInt8)), (∀ x, x ∈ p :: l → c ∉ x) → cutL c (join (p :: l) [c]) = p :: l
  | p, [], h => by rw [join_one, cut_plain c p (h p (by simp))]
  | p, q :: l, h => by
    have ih := cut_join c q l (fun x hx => h x (List.mem_cons_of_mem _ hx))
    have e : join (p :: q :: l) [c] = p ++ c :: join (q :: l) [c] := by
      rw [join_cons, join_cons]
      simp [joinTail]
    rw [e, cut_app c p _ (h p (by simp)), ih]

/-- a path as the law builds it -/
def pathF (l : List (List UInt8)) : List UInt8 := (l.map fun n => 47 :: n).flatten

theorem path_join (p : List UInt8) (l : List (List UInt8)) : (47 : UInt8) :: join (p :: l) [47] = pathF (p :: l) := by
  rw [join_cons]
  simp [joinTail, pathF]

theorem join_len (c : UInt8) : ∀ l : List (List UInt8), (join l [c]).length ≤ lens l + l.length
  | [] => by simp [join_nil, lens]
  | p :: l => by
    rw [join_cons, List.length_append, joinTail_length]
    simp [lens]; omega
end La

namespace La
open Go Go.Eng Go.Proofs Go.RowKit
set_option maxRecDepth 10000
set_option linter.unusedSimpArgs false
set_option linter.unusedVariables false


theorem bytes_eq {b : ByteArray} {l : List UInt8} (h : b.data.toList = l) : b = ⟨l.toArray⟩ := by
  subst h
  cases b
  simp

theorem frm_below {A : Nat → Prop} {w w' : World} (h : Below w.heap.size w w') : Frm A w w' := ⟨h.os, h.tape, h.output, h.size, fun b hb _ => h.block b hb⟩

/-- what a call gives that makes its answer of nothing that it holds -/
theorem fn_done {μ : Nat → Option Nat} {R0 : Nat → Prop} {w0 w' : World} {v : Value} {x : AV} {H : List (Nat × Blk)} {S' : Nat → Prop} (hH : HpOK μ R0 w0 H) (hv : RdP S' w' v x) (hw : Below w0.heap.size w0 w')
    (hS : ∀ b, S' b → b < w'.heap.size ∧ (R0 b ∨ w0.heap.size ≤ b)) :
    ∃ v' r H' μ' S'', Ending.returned v = .returned v' ∧ r = x ∧ Rd μ' S'' w' v' r ∧ HpOK μ' S'' w' H' ∧ Frm (fun g => ∃ id, μ id = some g) w0 w' ∧
      (∀ id g, μ' id = some g → (∃ id', μ id' = some g) ∨ w0.heap.size ≤ g) ∧ (∀ b, S'' b → b < w'.heap.size ∧ (R0 b ∨ (∃ id, μ id = some b) ∨ w0.heap.size ≤ b)) :=
  ⟨v, x, [], fun _ => none, S', rfl, rfl, .pure hv, ⟨fun id b h => by simp [hget] at h, fun id g h => (by cases h), fun id id' g h => (by cases h), (hH.glob.frm (frm_below hw) (fun id g h => .inl ⟨id, h⟩)).nil⟩, frm_below hw, fun id g h => (by cases h),
    fun b hb => ⟨(hS b hb).1, (hS b hb).2.elim .inl (fun h => .inr (.inr h))⟩⟩

/-- WHAT IS HANDED BACK READS WITH EMPTY SLICES IN PLACE OF NIL ONES, whichever way it came. -/
theorem fn_nrmP {P : Program} {f : FuncId} {args : List AV} {H : List (Nat × Blk)} {Y : AV} (h : FnOK P f args H fun r _ => Eng.nrm r = Y) : FnOK P f args H fun r _ => r = Y := by
  intro R0 μ w0 vs hl ha hH hR
  refine (h R0 μ w0 vs hl ha hH hR).mono ?_
  rintro e' w' ⟨v, r, H', μ', S', rfl, rfl, h4, h5⟩
  exact ⟨v, _, H', μ', S', rfl, rfl, h4.nrm, h5⟩

theorem nrm_strs (l : List (List UInt8)) : Eng.nrmR (l.map strRow) = l.map strRow := by
  rw [nrmR_map, List.map_map]
  exact List.map_congr_left fun x _ => rfl

theorem genSplit_ok (s : List UInt8) (c : UInt8) (hs : s.length < 4294967281) : FnOK Tryd.prog 42 [.str s, .str [c], .int .i64 0, .int .i64 (-1)] [] (fun r _ => r = .sl ((cutL c s).map strRow)) := by
  intro R0 μ w0 vs hl ha hH hR
  match vs, hl with
  | [v0, v1, v2, v3], _ =>
  obtain ⟨b, h0, hb⟩ := (ha 0 _ rfl).inv_str
  obtain ⟨b1, h1, hb1⟩ := (ha 1 _ rfl).inv_str
  have h2 := (ha 2 _ rfl).inv_int
  have h3 := (ha 3 _ rfl).inv_int
  simp only [List.getD_cons_zero, List.getD_cons_succ] at h0 h1 h2 h3
  subst h0 h1 h2 h3 hb
  obtain rfl := bytes_eq hb1
  have hsz : b.size < 4294967281 := by rw [Lib.size_eq]; exact hs
  have hI : ∀ (x : ByteArray) (arr : Array Value), x.size ≤ b.size → Calls Tryd.prog 52 #[.string x, .string ⟨#[c]⟩] (w0.alloc (.cells arr 9)) fun e w' => e = .returned (.int .i64 (Lib.indexB x ⟨#[c]⟩)) ∧ w' = w0.alloc (.cells arr 9) := fun x arr _ =>
    (Tryd.strings_Index_one x c _).mono fun e w' ⟨h1, h2⟩ => ⟨by rw [h1, ← Lib.index_one], h2⟩
  have hC : Calls Tryd.prog 51 #[.string b, .string ⟨#[c]⟩] w0 fun e w' => e = .returned (.int .i64 (Lib.countB b ⟨#[c]⟩)) ∧ w' = w0 :=
    (Tryd.strings_Count_one b c _).mono fun e w' ⟨h1, h2⟩ => ⟨by rw [h1]; show _ = Ending.returned (Value.int .i64 ((Lib.count b.data.toList [c] : Nat) : Int)); rw [Lib.count_one]; rfl, h2⟩
  have hle : Lib.countB b ⟨#[c]⟩ ≤ b.size := Lib.countB_le ⟨#[c]⟩ (Nat.le_refl 1) b.size b (Nat.le_refl _)
  have key : Calls Tryd.prog 42 #[.string b, .string ⟨#[c]⟩, .int .i64 0, .int .i64 (-1)] w0 fun e w' =>
      e = .returned (.slice (some ⟨w0.heap.size, 0, none⟩) (Lib.splitB ⟨#[c]⟩ 0 (Lib.countB b ⟨#[c]⟩ + 1 - 1) b).length (Lib.countB b ⟨#[c]⟩ + 1)) ∧ w' = w0.alloc (.cells (Lib.cellsOf (Lib.splitB ⟨#[c]⟩ 0 (Lib.countB b ⟨#[c]⟩ + 1 - 1) b) (Lib.countB b ⟨#[c]⟩ + 1)) 9) :=
    Any.strings_genSplit_core Tryd.lays221 (by kernel_rfl) b ⟨#[c]⟩ 0 (-1) (Lib.countB b ⟨#[c]⟩ + 1) w0 hsz (Nat.le_refl 1) (Nat.zero_le _) hI hC (by decide) (by decide) (by rw [if_pos (by decide)]; omega)
  rw [Nat.add_sub_cancel] at key
  have hlen := Lib.splitB_all ⟨#[c]⟩ (Nat.le_refl 1) 0 _ b rfl
  have e2 : Lib.cellsOf (Lib.splitB ⟨#[c]⟩ 0 (Lib.countB b ⟨#[c]⟩) b) (Lib.countB b ⟨#[c]⟩ + 1) = ((Lib.splitB ⟨#[c]⟩ 0 (Lib.countB b ⟨#[c]⟩) b).map Value.string).toArray := by rw [← hlen]; exact Lib.cellsOf_full _
  rw [e2] at key
  have hcut := splitB_cut c b
  generalize Lib.splitB ⟨#[c]⟩ 0 (Lib.countB b ⟨#[c]⟩) b = L at key hlen hcut
  refine Calls.mono key fun e w' ⟨he, hw⟩ => ?_
  rw [he, hw]
  refine fn_done hH (S' := fun g => g = w0.heap.size) ?_ (Below.alloc (Below.refl _ _) (Nat.le_refl _) _) (fun g hg => ?_)
  · refine .sl _ _ _ _ 1 w0.heap.size 0 (fun i j => .string (L.getD i ⟨#[]⟩)) ?_ (by omega) ?_ (fun _ => ⟨rfl, rfl⟩) ?_ ?_
    · rw [List.length_map, ← hcut, List.length_map]
    · intro row hrow
      obtain ⟨x, _, rfl⟩ := List.mem_map.1 hrow
      rfl
    · intro i j hi hj
      obtain rfl : j = 0 := by omega
      have hi' : i < L.length := by omega
      rw [World.cell?_alloc_new]
      simp [List.getD_eq_getElem?_getD, List.getElem?_eq_getElem hi']
    · intro i row hi j x hx
      rw [List.getElem?_map] at hi
      obtain ⟨y, hy, rfl⟩ := Option.map_eq_some_iff.1 hi
      rw [← hcut, List.getElem?_map] at hy
      obtain ⟨z, hz, rfl⟩ := Option.map_eq_some_iff.1 hy
      match j, hx with
      | 0, hx =>
        simp only [strRow, List.getElem?_cons_zero, Option.some.injEq] at hx
        subst hx
        rw [List.getD_eq_getElem?_getD, hz]
        exact .str _ _ rfl
      | j + 1, hx => simp [strRow] at hx
  · subst hg
    exact ⟨by show _ < (w0.heap.push _).size; rw [Array.size_push]; omega, .inr (Nat.le_refl _)⟩

theorem strSplit_ok (s : List UInt8) (c : UInt8) (hs : s.length < 4294967281) : FnOK Tryd.prog 24 [.str s, .str [c]] [] (fun r _ => r = .sl ((cutL c s).map strRow)) := by
  refine fn_of_cwW tabOK (Go.Proofs.Tryd.func24) rfl (fun C => ?_)
  simp only [Go.Proofs.Tryd.ntmps24, Go.Proofs.Tryd.results24, go_sem]
  refine cw_goR 99 (by simp only [go_sem]; try exact rfl) ?_
  refine cw_runN tabOK 1 (by simp only [go_sem]; exact rfl) (by simp only [go_sem]; exact rfl) (by simp only [go_sem]; try exact rfl) (by simp [go_sem]) ?_
  refine cw_goR 99 (by simp only [go_sem]; try exact rfl) ?_
  refine cw_runN tabOK 2 (by simp only [go_sem]; exact rfl) (by simp only [go_sem]; exact rfl) (by simp only [go_sem]; try exact rfl) (by simp [go_sem]) ?_
  refine cw_call rfl rfl (by simp only [go_sem]; try exact rfl) (by simp [go_sem]) ⟨_, Go.Proofs.Tryd.func42, by kernel_rfl, rfl⟩ (by simp [go_sem]) (genSplit_ok s c hs) (by simp [go_sem]) (by simp only [go_sem]; exact rfl) ?_
  refine cw_go tabOK 99 (by simp only [go_sem]; try exact rfl) (by simp [go_sem]) ?_
  refine cw_ret ⟨_, _, (by simp only [go_sem]; try exact rfl), by simp [go_sem], _, .inr (.inl rfl), ?_⟩
  rfl

theorem strJoin_ok (l : List (List UInt8)) (c : UInt8) (hl : l.length ≤ 1000000000) (hs : (Lib.join l [c]).length ≤ 140737488355328) : FnOK Tryd.prog 26 [.sl (l.map strRow), .str [c]] [] (fun r _ => r = .str (Lib.join l [c])) := by
  intro R0 μ w0 vs hl0 ha hH hR
  match vs, hl0 with
  | [v0, v1], _ =>
  have h0 := (ha 0 _ rfl).inv_sl
  obtain ⟨b1, h1, hb1⟩ := (ha 1 _ rfl).inv_str
  simp only [List.getD_cons_zero, List.getD_cons_succ] at h0 h1
  subst h1
  obtain rfl := bytes_eq hb1
  obtain ⟨A, cap, size, g, off, vals, rfl, hc, hsz, hA, hcell, hr⟩ := h0.inv_sl
  rw [List.length_map] at hc hA hcell
  cases l with
  | nil =>
    refine (Tryd.strings_Join_none A cap ⟨#[c]⟩ w0).mono fun e w' ⟨he, hw⟩ => ?_
    rw [he, hw]
    exact fn_done hH (S' := R0) (.str _ _ rfl) (Below.refl _ _) (fun g hg => ⟨hR g hg, .inl hg⟩)
  | cons p l =>
    obtain ⟨rfl, hg⟩ := hA (by simp)
    obtain rfl : 1 = size := hsz (strRow p) (by simp)
    have hkey : ∀ (j : Nat) x, ((p :: l).map fun s : List UInt8 => (⟨s.toArray⟩ : ByteArray))[j]? = some x → w0.cell? ⟨g, off + j, none⟩ = some (.string x) := by
      intro j x hx
      rw [List.getElem?_map] at hx
      obtain ⟨y, hy, rfl⟩ := Option.map_eq_some_iff.1 hx
      have hj := (List.getElem?_eq_some_iff.1 hy).1
      have hv := hr j (strRow y) (by rw [List.getElem?_map, hy]; rfl) 0 (.str y) rfl
      obtain ⟨b, e1, e2⟩ := Rd.inv_str (μ := μ) (.pure hv)
      have := hcell j 0 hj (by omega)
      rw [e1, bytes_eq e2] at this
      simpa using this
    have hm : (((p :: l).map fun s : List UInt8 => (⟨s.toArray⟩ : ByteArray)).map (·.data.toList)) = p :: l := by
      rw [List.map_map]
      exact (List.map_congr_left fun x _ => rfl).trans (List.map_id _)
    have key := Tryd.strings_Join g off cap ((p :: l).map fun s => ⟨s.toArray⟩) ⟨#[c]⟩ w0 hkey (hR g hg) (by rw [List.length_map]; omega) (by rw [List.length_map]; exact hc) (by rw [hm]; exact hs)
    rw [hm, List.length_map] at key
    rw [List.length_map]
    refine key.mono fun e w' ⟨he, hw⟩ => ?_
    rw [he]
    exact fn_done hH (S' := R0) (.str _ _ rfl) hw (fun g hg => ⟨Nat.lt_of_lt_of_le (hR g hg) hw.size, .inl hg⟩)
end La

namespace La
open Go Go.Eng Go.Proofs

theorem idxI_any {α : Type} {p : α → Bool} (l : List α) : decide (idxI (l.findIdx? p) ≥ 0) = l.any p := by
  cases h : l.findIdx? p with
  | none =>
    rw [List.findIdx?_eq_none_iff] at h
    have : l.any p = false := by rw [List.any_eq_false]; intro x hx; simp [h x hx]
    rw [this]; rfl
  | some k =>
    have : l.any p = true := by
      obtain ⟨hk, h1, _⟩ := List.findIdx?_eq_some_iff_getElem.1 h
      exact List.any_eq_true.2 ⟨_, List.getElem_mem hk, h1⟩
    rw [this]
    simp [idxI]

/-- a view of closures hands on what they hold -/
theorem viewL_pure : ∀ {l : List AV}, (l.all AV.pureB) = true → ∃ q, (∀ h, viewL h l = some (q, l)) ∧ q
  | [], _ => ⟨True, fun _ => rfl, trivial⟩
  | x :: r, hp => by
    simp only [List.all_cons, Bool.and_eq_true] at hp
    obtain ⟨q, h1, h2⟩ := viewL_pure hp.2
    have hx : ∀ h, view h x = some (True, x) := fun h => by
      cases x with
      | osl => cases hp.1
      | ptr => cases hp.1
      | mp => cases hp.1
      | fn => cases hp.1
      | agg => cases hp.1
      | any => cases hp.1
      | tup => cases hp.1
      | cnd => cases hp.1
      | exs => cases hp.1
      | _ => rfl
    exact ⟨True ∧ q, fun h => by simp only [viewL, hx, h1], trivial, h2⟩

theorem refsL_pure : ∀ {l : List AV}, (l.all AV.pureB) = true → refsL l = []
  | [], _ => rfl
  | x :: r, hp => by
    simp only [List.all_cons, Bool.and_eq_true] at hp
    have hx : refs x = [] := by cases x <;> first | rfl | cases hp.1
    simp only [refsL, hx, refsL_pure hp.2, List.append_nil]

theorem filter_split {α : Type} {l : List α} {p : α → Bool} {j : Nat} (h : l.findIdx? p = some j) : (l.take (j + 1)).filter (fun x => !p x) = l.take j := by
  obtain ⟨hk, h1, h2⟩ := List.findIdx?_eq_some_iff_getElem.1 h
  rw [List.take_succ_eq_append_getElem hk, List.filter_append]
  have e1 : (l.take j).filter (fun x => !p x) = l.take j := List.filter_eq_self.2 fun x hx => by
    obtain ⟨i, hi⟩ := List.getElem?_of_mem hx
    rw [List.getElem?_take] at hi
    split at hi
    · rename_i hij
      have := h2 i hij
      have e : l[i]? = some l[i] := List.getElem?_eq_getElem (by omega)
      rw [e] at hi; injection hi with hi
      rw [← hi]; simpa using this
    · cases hi
  rw [e1]
  simp [h1]
/-- where DeleteFunc's second loop is: 'j' looked at, what stays is ahead -/
structure DelInv {α : Type} (p : α → Bool) (l : List α) (j : Nat) (L : List α) : Prop where
  le : j ≤ l.length
  len : L.length = l.length
  drop : L.drop j = l.drop j
  take : L.take ((l.take j).filter fun x => !p x).length = (l.take j).filter fun x => !p x
  lt : ((l.take j).filter fun x => !p x).length < j

theorem DelInv.start {α : Type} {p : α → Bool} {l : List α} {k : Nat} (h : l.findIdx? p = some k) : DelInv p l (k + 1) l := by
  have hk : k < l.length := (List.findIdx?_eq_some_iff_getElem.1 h).1
  have e := filter_split h
  have el : (l.take k).length = k := by simp; omega
  refine ⟨hk, rfl, rfl, ?_, ?_⟩
  · rw [e, el]
  · rw [e, el]; omega

theorem DelInv.get {α : Type} [Inhabited α] {p : α → Bool} {l L : List α} {j : Nat} (h : DelInv p l j L) (hj : j < l.length) : L.getD j default = l.getD j default := by
  have := h.drop
  rw [drop_getD hj, drop_getD (show j < L.length by rw [h.len]; exact hj)] at this
  injection this

theorem DelInv.skip {α : Type} [Inhabited α] {p : α → Bool} {l L : List α} {j : Nat} (h : DelInv p l j L) (hj : j < l.length) (hp : p (l.getD j default) = true) : DelInv p l (j + 1) L := by
  have e : (l.take (j + 1)).filter (fun x => !p x) = (l.take j).filter fun x => !p x := by
    rw [take_succ_getD hj, List.filter_append]; simp only [List.filter_cons, hp, List.filter_nil, Bool.not_true, Bool.false_eq_true, if_false, List.append_nil]
  refine ⟨hj, h.len, ?_, ?_, ?_⟩
  · rw [← List.drop_drop, ← List.drop_drop, h.drop]
  · rw [e]; exact h.take
  · rw [e]; have := h.lt; omega

theorem DelInv.keep {α : Type} [Inhabited α] {p : α → Bool} {l L : List α} {j : Nat} (h : DelInv p l j L) (hj : j < l.length) (hp : p (l.getD j default) = false) :
    DelInv p l (j + 1) (L.set ((l.take j).filter fun x => !p x).length (l.getD j default)) ∧ ((l.take (j + 1)).filter fun x => !p x).length = ((l.take j).filter fun x => !p x).length + 1 := by
  have e : (l.take (j + 1)).filter (fun x => !p x) = (l.take j).filter (fun x => !p x) ++ [l.getD j default] := by
    rw [take_succ_getD hj, List.filter_append]; simp only [List.filter_cons, hp, List.filter_nil, Bool.not_false, if_true]
  have hlt := h.lt
  have hlen := h.len
  have htk := h.take
  generalize hd : (l.take j).filter (fun x => !p x) = d at *
  refine ⟨⟨hj, by simp [hlen], ?_, ?_, ?_⟩, by rw [e]; simp⟩
  · have : (L.set d.length (l.getD j default)).drop (j + 1) = L.drop (j + 1) := by
      rw [List.drop_set]; rw [if_pos (by omega)]
    rw [this, ← List.drop_drop, ← List.drop_drop, h.drop]
  · rw [e]
    simp only [List.length_append, List.length_cons, List.length_nil, Nat.zero_add]
    rw [List.take_succ_eq_append_getElem (by simp; omega), List.take_set_of_le (Nat.le_refl _), htk]
    simp
  · rw [e]; simp; omega

theorem DelInv.fin {α : Type} {p : α → Bool} {l L : List α} (h : DelInv p l l.length L) : L.take (l.filter fun x => !p x).length = l.filter fun x => !p x := by
  have := h.take
  rwa [List.take_length] at this

theorem set_map {α : Type} (f : α → List AV) (l : List α) (i : Nat) (x : α) : (l.map f).set i (f x) = (l.set i x).map f := by rw [List.map_set]
theorem clear_rows {α : Type} (f : α → List AV) {L : List α} {d : List α} (z : List AV) (h : L.take d.length = d) (hd : d.length ≤ L.length) :
    overRows (L.map f) d.length (List.replicate (L.length - d.length) z) = d.map f ++ List.replicate (L.length - d.length) z := by
  unfold overRows
  rw [← List.map_take, h, List.drop_eq_nil_of_le (by simp; omega), List.append_nil]
@[go_sem, simp] theorem refsB_append (e s : Nat) (a b : List (List AV)) : Eng.refsB (.cells e s (a ++ b)) = Eng.refsB (.cells e s a) ++ Eng.refsB (.cells e s b) := by
  simp only [Eng.refsB, List.flatMap_append]
@[go_sem, simp] theorem refsB_rep (e s n : Nat) (z : List AV) (h : refsL z = []) : Eng.refsB (.cells e s (List.replicate n z)) = [] := by
  simp only [Eng.refsB]
  induction n with
  | zero => rfl
  | succ n ih => simp only [List.replicate_succ, List.flatMap_cons, h, ih, List.append_nil]
attribute [go_sem] List.map_append List.map_replicate
theorem take_app {α : Type} {a b : List α} {n : Nat} (h : n = a.length) : (a ++ b).take n = a := by subst h; simp
theorem rep_pure (n : Nat) {z : List AV} (h : (z.all AV.pureB) = true) : ((List.replicate n z).all fun row => row.all AV.pureB) = true := by
  rw [List.all_eq_true]
  intro row hr
  rw [(List.mem_replicate.1 hr).2]
  exact h
end La

namespace La
open Go Go.Eng Go.Proofs
set_option maxRecDepth 10000
set_option linter.unusedSimpArgs false
set_option linter.unusedVariables false


/-- a path's names, and what is wrong -/
def splitR (s : List UInt8) : List (List UInt8) × Int :=
  if 40 < s.length then ([], 4) else if s = [47] then ([], 0) else if s.head? ≠ some 47 then ([], 2) else
    if (cutL 47 (s.drop 1)).all nameB then (cutL 47 (s.drop 1), 0) else ([], 7)

def splitA (p : List (List UInt8) × Int) : AV := .tup [.sl (p.1.map strRow), .int .i64 p.2]


theorem split_raw (s : List UInt8) (hs : s.length ≤ 100000000) : FnOK Tryd.prog 8 [.str s] [] (fun r _ => Eng.nrm r = splitA (splitR s)) := by
  refine fn_of_cwW tabOK (Go.Proofs.Tryd.func8) rfl (fun C => ?_)
  simp only [Go.Proofs.Tryd.ntmps8, Go.Proofs.Tryd.results8, go_sem]
  refine cw_goR 99 (by simp only [go_sem]; try exact rfl) ?_
  refine cw_runN tabOK 2 (by simp only [go_sem]; exact rfl) (by simp only [go_sem]; exact rfl) (by simp only [go_sem]; try exact rfl) (by simp [go_sem]) ?_
  refine cw_go tabOK 99 (by simp only [go_sem]; try exact rfl) (by simp [go_sem]) ?_
  refine cw_cond (by simp only [go_sem]; try exact rfl) trivial (fun h => ?_) (fun h => ?_)
  · have h1 : 40 < s.length := by simp at h; omega
    refine cw_go tabOK 99 (by simp only [go_sem]; try exact rfl) (by simp [go_sem]) ?_
    refine cw_ret ⟨_, _, by simp only [go_sem]; try exact rfl, by simp [go_sem], _, .inr (.inl rfl), ?_⟩
    simp [splitR, h1, splitA, Eng.nrm, Eng.nrmL]
  have h1 : ¬ 40 < s.length := by simp at h; omega
  refine cw_go tabOK 99 (by simp only [go_sem]; try exact rfl) (by simp [go_sem]) ?_
  refine cw_cond (by simp only [go_sem]; try exact rfl) trivial (fun h => ?_) (fun h => ?_)
  · have h2 : s = [47] := by simpa using h
    refine cw_go tabOK 99 (by simp only [go_sem]; try exact rfl) (by simp [go_sem]) ?_
    refine cw_ret ⟨_, _, by simp only [go_sem]; try exact rfl, by simp [go_sem], _, .inr (.inl rfl), ?_⟩
    simp [splitR, h1, h2, splitA, Eng.nrm, Eng.nrmL]
  have h2 : s ≠ [47] := by simpa using h
  refine cw_goR 99 (by simp only [go_sem]; try exact rfl) ?_
  refine cw_runN tabOK 3 (by simp only [go_sem]; exact rfl) (by simp only [go_sem]; exact rfl) (by simp only [go_sem]; try exact rfl) (by simp [go_sem]) ?_
  cases s with
  | nil =>
    refine cw_go tabOK 99 (by simp only [go_sem]; try exact rfl) (by simp [go_sem]) ?_
    refine cw_cond (by simp only [go_sem]; try exact rfl) trivial (fun h => ?_) (fun h => ?_)
    · refine cw_go tabOK 99 (by simp only [go_sem]; try exact rfl) (by simp [go_sem]) ?_
      refine cw_ret ⟨_, _, by simp only [go_sem]; try exact rfl, by simp [go_sem], _, .inr (.inl rfl), ?_⟩
      simp [splitR, splitA, Eng.nrm, Eng.nrmL]
    · cases h
  | cons x r =>
    refine cw_go tabOK 99 (by simp only [go_sem]; try exact rfl) (by simp [go_sem]) ?_
    refine cw_cond (by simp only [go_sem]; try exact rfl) trivial (fun h => ?_) (fun h => ?_)
    · have h3 : ¬ x = 47 := fun e => by subst e; simp at h
      have h1' : ¬ 40 < r.length + 1 := h1
      refine cw_go tabOK 99 (by simp only [go_sem]; try exact rfl) (by simp [go_sem]) ?_
      refine cw_ret ⟨_, _, by simp only [go_sem]; try exact rfl, by simp [go_sem], _, .inr (.inl rfl), ?_⟩
      simp [splitR, h1', h3, splitA, Eng.nrm, Eng.nrmL]
    have h3 : x = 47 := UInt8.toNat_inj.1 (by have : ((x.toNat : Nat) : Int) = 47 := by simpa using h
                                              show x.toNat = 47; omega)
    subst h3
    have hsl : ((47 : UInt8) :: r).drop 1 = r := rfl
    refine cw_goR 99 (by simp only [go_sem]; try exact rfl) ?_
    refine cw_runN tabOK 2 (by simp only [go_sem]; exact rfl) (by simp only [go_sem]; exact rfl) (by simp only [go_sem]; try exact rfl) (by simp [go_sem]) ?_
    refine cw_call rfl rfl (by simp only [go_sem]; try exact rfl) (by simp [go_sem]) ⟨_, Go.Proofs.Tryd.func24, by kernel_rfl, rfl⟩ (by simp [go_sem]) (strSplit_ok r 47 (by simp at hs; omega)) (by simp [go_sem]) (by simp only [go_sem]; exact rfl) ?_
    refine cw_go tabOK 99 (by simp only [go_sem]; try exact rfl) (by simp [go_sem]) ?_
    have hR : splitR (47 :: r) = if (cutL 47 r).all nameB then (cutL 47 r, 0) else ([], 7) := by
      simp only [splitR, if_neg h1, if_neg h2, List.head?_cons, ne_eq, not_true_eq_false, if_false, List.drop_succ_cons, List.drop_zero]
    have hcl := cutL_le 47 r
    have hcp := cutL_part 47 r
    rw [hR]
    generalize cutL 47 r = L at hcl hcp
    simp only [List.length_cons] at hs
    refine cw_loopS (fun i : Nat => i ≤ L.length ∧ (L.take i).all nameB = true) (fun i => L.length - i) (fun i => [(6, .any), (27, .int .i64 i), (28, .any), (29, .any), (30, .any), (31, .any), (32, .any), (33, .any), (34, .any)]) (fun _ => []) 0 ⟨by omega, by simp⟩ ?_ fun i hi => ?_
    · simp only [go_sem]
      exact le_sub (by simp [go_sem]) (by simp [go_sem]) (by simp [go_sem])
    obtain ⟨hi, hs2⟩ := hi
    simp only [go_sem]
    refine cw_go tabOK 99 (by simp only [go_sem]; try exact rfl) (by simp [go_sem]) ?_
    refine cw_cond (by simp only [go_sem]; try exact rfl) trivial (fun h => ?_) (fun h => ?_)
    · have hlt : i < L.length := by simp at h; omega
      have hw : IntKind.i64.wrap ((i : Int) + 1) = ((i + 1 : Nat) : Int) := by rw [Eng.wrap_small (by omega) (by omega)]; rfl
      have hg : (L.map strRow).getD i [] = strRow (L.getD i default) := Fam.getD hlt
      have htk := take_succ_getD hlt
      have hmem : L.getD i default ∈ L := by rw [List.getD_eq_getElem?_getD, List.getElem?_eq_getElem hlt]; exact List.getElem_mem hlt
      have hxl := hcp _ hmem
      have hno : nameB (L.getD i default) = false → L.all nameB = false := fun h0 => by
        cases e : L.all nameB with
        | false => rfl
        | true => rw [List.all_eq_true.1 e _ hmem] at h0; cases h0
      generalize L.getD i default = x at hg htk hxl hno hmem
      refine cw_go tabOK 99 (by simp only [go_sem, hg, strRow]; try exact rfl) ?_ ?_
      · simp [hg, strRow, hlt]
      refine cw_call rfl rfl (by simp only [go_sem]; try exact rfl) (by simp [go_sem]) ⟨_, Go.Proofs.Tryd.func11, by kernel_rfl, rfl⟩ (by simp [go_sem]) (name_ok x (by omega)) (by simp [go_sem]) (by simp only [go_sem]; exact rfl) ?_
      refine cw_go tabOK 99 (by simp only [go_sem]; try exact rfl) (by simp [go_sem]) ?_
      refine cw_cond (by simp only [go_sem]; try exact rfl) trivial (fun h => ?_) (fun h => ?_)
      · have h0 : nameB x = false := by simpa using h
        refine cw_go tabOK 99 (by simp only [go_sem]; try exact rfl) (by simp [go_sem]) ?_
        refine cw_ret ⟨_, _, by simp only [go_sem]; try exact rfl, by simp [go_sem], _, .inr (.inl rfl), ?_⟩
        simp [hno h0, splitA, Eng.nrm, Eng.nrmL]
      · have h0 : nameB x = true := by simpa using h
        refine cw_go tabOK 99 (by simp only [go_sem, hw]; try exact rfl) (by simp [go_sem, hw]) ?_
        refine cw_back ⟨i + 1, ⟨by omega, by rw [htk, List.all_append, hs2]; simp [h0]⟩, by omega, le_sub ?_ ?_ ?_⟩
        · simp [go_sem]
        · simp [go_sem]
        · simp [go_sem]
    · have e : i = L.length := by simp at h; omega
      subst e
      rw [List.take_length] at hs2
      refine cw_go tabOK 99 (by simp only [go_sem]; try exact rfl) (by simp [go_sem]) ?_
      refine cw_ret ⟨_, _, by simp only [go_sem]; try exact rfl, by simp [go_sem], _, .inr (.inl rfl), ?_⟩
      simp [hs2, splitA, Eng.nrm, Eng.nrmL, nrm_strs]
theorem split_ok (s : List UInt8) (hs : s.length ≤ 100000000) : FnOK Tryd.prog 8 [.str s] [] (fun r _ => r = splitA (splitR s)) := fn_nrmP (split_raw s hs)

theorem join_ok (l : List (List UInt8)) (hl : l.length ≤ 100000000) (hs : (Lib.join l [47]).length ≤ 100000000) : FnOK Tryd.prog 13 [.sl (l.map strRow)] [] (fun r _ => r = .str (47 :: Lib.join l [47])) := by
  refine fn_of_cwW tabOK (Go.Proofs.Tryd.func13) rfl (fun C => ?_)
  simp only [Go.Proofs.Tryd.ntmps13, Go.Proofs.Tryd.results13, go_sem]
  refine cw_goR 99 (by simp only [go_sem]; try exact rfl) ?_
  refine cw_runN tabOK 1 (by simp only [go_sem]; exact rfl) (by simp only [go_sem]; exact rfl) (by simp only [go_sem]; try exact rfl) (by simp [go_sem]) ?_
  refine cw_goR 99 (by simp only [go_sem]; try exact rfl) ?_
  refine cw_runN tabOK 1 (by simp only [go_sem]; exact rfl) (by simp only [go_sem]; exact rfl) (by simp only [go_sem]; try exact rfl) (by simp [go_sem]) ?_
  refine cw_call rfl rfl (by simp only [go_sem]; try exact rfl) (by simp [go_sem]) ⟨_, Go.Proofs.Tryd.func26, by kernel_rfl, rfl⟩ (by simp [go_sem]) (strJoin_ok l 47 (by omega) (by omega)) (by simp [go_sem]) (by simp only [go_sem]; exact rfl) ?_
  refine cw_go tabOK 99 (by simp only [go_sem]; try exact rfl) ?_ ?_
  · simp; omega
  refine cw_ret ⟨_, _, (by simp only [go_sem]; try exact rfl), by simp [go_sem], _, .inr (.inl rfl), ?_⟩
  rfl

theorem sameTexts_ok (a b : List (List UInt8)) (ha : a.length ≤ 100000000) (hb : b.length ≤ 100000000) : FnOK Tryd.prog 10 [.sl (a.map strRow), .sl (b.map strRow)] [] (fun r _ => r = .bool (decide (a = b))) := by
  refine fn_of_cwW tabOK (Go.Proofs.Tryd.func10) rfl (fun C => ?_)
  simp only [Go.Proofs.Tryd.ntmps10, Go.Proofs.Tryd.results10, go_sem]
  refine cw_go tabOK 99 (by simp only [go_sem]; try exact rfl) (by simp [go_sem]) ?_
  refine cw_cond (by simp only [go_sem]; try exact rfl) trivial (fun h => ?_) (fun h => ?_)
  · have hne : a ≠ b := by rintro rfl; simp at h
    refine cw_go tabOK 99 (by simp only [go_sem]; try exact rfl) (by simp [go_sem]) ?_
    refine cw_ret ⟨_, _, (by simp only [go_sem]; try exact rfl), by simp [go_sem], _, .inr (.inl rfl), ?_⟩
    simp [hne]
  have hl : a.length = b.length := by simp at h; omega
  refine cw_go tabOK 99 (by simp only [go_sem]; try exact rfl) (by simp [go_sem]) ?_
  refine cw_loopS (fun i : Nat => i ≤ a.length ∧ a.take i = b.take i) (fun i => a.length - i) (fun i => [(5, .any), (13, .int .i64 i), (14, .any), (15, .any), (16, .any), (17, .any), (18, .any), (19, .any), (20, .any), (21, .any), (22, .any), (23, .any), (24, .any), (25, .any)]) (fun _ => []) 0 ⟨by omega, by simp⟩ ?_ fun i hi => ?_
  · simp only [go_sem]
    exact le_sub (by simp [go_sem]) (by simp [go_sem]) (by simp [go_sem])
  obtain ⟨hi, hs⟩ := hi
  simp only [go_sem]
  refine cw_go tabOK 99 (by simp only [go_sem]; try exact rfl) (by simp [go_sem]) ?_
  refine cw_cond (by simp only [go_sem]; try exact rfl) trivial (fun h => ?_) (fun h => ?_)
  · have hlt : i < a.length := by simp at h; omega
    have hltb : i < b.length := by omega
    have hw : IntKind.i64.wrap ((i : Int) + 1) = ((i + 1 : Nat) : Int) := by rw [Eng.wrap_small (by omega) (by omega)]; rfl
    have hga : (a.map strRow).getD i [] = strRow (a.getD i default) := Fam.getD hlt
    have hgb : (b.map strRow).getD i [] = strRow (b.getD i default) := Fam.getD hltb
    have hta := take_succ_getD hlt
    have htb := take_succ_getD hltb
    have htd : a.getD i default ≠ b.getD i default → a ≠ b := by rintro e rfl; exact e rfl
    generalize a.getD i default = x at hga hta htd
    generalize b.getD i default = y at hgb htb htd
    refine cw_go tabOK 99 (by simp only [go_sem]; try exact rfl) (by simp [go_sem]) ?_
    refine cw_drawn tabOK mixed (by simp only [go_sem, hga, hgb, strRow]; try exact rfl) ?_ (by simp only [go_sem, hga, hgb, strRow]; exact rfl) (by kernel_rfl) ?_
    · simp [hga, hgb, strRow, hlt, hltb]
    refine cw_cond (by simp only [go_sem]; try exact rfl) trivial (fun h => ?_) (fun h => ?_)
    · have h0 : x ≠ y := by simpa using h
      refine cw_go tabOK 99 (by simp only [go_sem]; try exact rfl) (by simp [go_sem]) ?_
      refine cw_ret ⟨_, _, (by simp only [go_sem]; try exact rfl), by simp [go_sem], _, .inr (.inl rfl), ?_⟩
      simp [htd h0]
    · have h0 : x = y := by simpa using h
      refine cw_go tabOK 99 (by simp only [go_sem, hw]; try exact rfl) (by simp [go_sem, hw]) ?_
      refine cw_back ⟨i + 1, ⟨by omega, by rw [hta, htb, hs, h0]⟩, by omega, le_sub ?_ ?_ ?_⟩
      · simp [go_sem]
      · simp [go_sem]
      · simp [go_sem]
  · have e : i = a.length := by simp at h; omega
    subst e
    rw [List.take_length, hl, List.take_length] at hs
    refine cw_go tabOK 99 (by simp only [go_sem]; try exact rfl) (by simp [go_sem]) ?_
    refine cw_ret ⟨_, _, (by simp only [go_sem]; try exact rfl), by simp [go_sem], _, .inr (.inl rfl), ?_⟩
    simp [hs]
end La

namespace La
open Go Go.Eng Go.Proofs
set_option maxRecDepth 10000
set_option linter.unusedSimpArgs false
set_option linter.unusedVariables false

theorem cond_and (a b : Bool) : (bif a then b else false) = (a && b) := by cases a <;> rfl

theorem rname_ok (s : List UInt8) (hs : s.length ≤ 100000000) : FnOK Tryd.prog 12 [.str s] [] (fun r _ => r = .bool (nameB s)) := by
  refine fn_of_cwW tabOK (Go.Proofs.Tryd.func12) rfl (fun C => ?_)
  simp only [Go.Proofs.Tryd.ntmps12, Go.Proofs.Tryd.results12, go_sem]
  refine cw_go tabOK 99 (by simp only [go_sem]; try exact rfl) (by simp [go_sem]) ?_
  refine cw_loopS (fun i : Nat => i ≤ s.length ∧ ∀ j, j < i → okC (s.getD j 0) = true) (fun i => s.length - i) (fun i => [(3, .any), (4, .any), (7, .int .i64 i), (8, .any), (9, .any), (10, .any), (11, .any), (12, .any), (13, .any), (14, .any), (15, .any), (16, .any), (17, .any), (18, .any), (19, .any), (20, .any), (21, .any), (22, .any), (23, .any), (24, .any), (25, .any), (26, .any), (27, .any), (28, .any), (29, .any), (30, .any), (31, .any), (32, .any), (33, .any), (34, .any), (35, .any), (36, .any)]) (fun _ => []) 0 ⟨by omega, by omega⟩ ?_ fun i hi => ?_
  · simp only [go_sem]
    exact le_sub (by simp [go_sem]) (by simp [go_sem]) (by simp [go_sem])
  obtain ⟨hi, hs2⟩ := hi
  simp only [go_sem]
  refine cw_go tabOK 99 (by simp only [go_sem]; try exact rfl) (by simp [go_sem]) ?_
  refine cw_cond (by simp only [go_sem]; try exact rfl) trivial (fun h => ?_) (fun h => ?_)
  · have hlt : i < s.length := by simp at h; omega
    have hw : IntKind.i64.wrap ((i : Int) + 1) = ((i + 1 : Nat) : Int) := by rw [Eng.wrap_small (by omega) (by omega)]; rfl
    have hno : okC (s.getD i 0) = false → nameB s = false := fun h0 => by
      cases e : s.all okC with
      | false => unfold nameB; rw [e, Bool.and_false]
      | true =>
        have := List.all_eq_true.1 e (s.getD i 0) (by rw [List.getD_eq_getElem?_getD, List.getElem?_eq_getElem hlt]; exact List.getElem_mem hlt)
        rw [this] at h0; cases h0
    have hyes : okC (s.getD i 0) = true → ∀ j, j < i + 1 → okC (s.getD j 0) = true := fun h0 j hj => by
      rcases Nat.lt_succ_iff_lt_or_eq.1 hj with h1 | rfl
      · exact hs2 j h1
      · exact h0
    refine cw_goR 99 (by simp only [go_sem]; try exact rfl) ?_
    refine cw_runN tabOK 2 (by simp only [go_sem]; exact rfl) (by simp only [go_sem]; exact rfl) (by simp only [go_sem]; try exact rfl) (by simp [go_sem]) ?_
    refine cw_goR 99 (by simp only [go_sem]; try exact rfl) ?_
    refine cw_runN tabOK 2 (by simp only [go_sem]; exact rfl) (by simp only [go_sem]; exact rfl) (by simp only [go_sem]; try exact rfl) (by simp [go_sem]) ?_
    refine cw_runN tabOK 1 (by simp only [go_sem]; exact rfl) (by simp only [go_sem]; exact rfl) (by simp only [go_sem]; try exact rfl) ?_ ?_
    · simp; omega
    refine cw_runN tabOK 1 (by simp only [go_sem]; exact rfl) (by simp only [go_sem]; exact rfl) (by simp only [go_sem]; try exact rfl) (by simp [go_sem]) ?_
    refine cw_goR 99 (by simp only [go_sem]; try exact rfl) ?_
    generalize s.getD i 0 = c at hno hyes
    have hc : okC c = ((decide ((c.toNat : Int) ≥ 97) && decide ((c.toNat : Int) ≤ 122)) || (decide ((c.toNat : Int) ≥ 48) && decide ((c.toNat : Int) ≤ 57))) := by
      unfold okC
      rw [Bool.eq_iff_iff]
      simp only [Bool.or_eq_true, Bool.and_eq_true, decide_eq_true_eq]
      omega
    generalize hf1 : decide ((c.toNat : Int) ≥ 97) = f1 at hc
    generalize hf2 : decide ((c.toNat : Int) ≤ 122) = f2 at hc
    generalize hf3 : decide ((c.toNat : Int) ≥ 48) = f3 at hc
    generalize hf4 : decide ((c.toNat : Int) ≤ 57) = f4 at hc
    refine cw_runN tabOK 14 (by simp only [go_sem]; exact rfl) (by simp only [go_sem]; exact rfl) (by simp only [go_sem, hf1, hf2, hf3, hf4]; try exact rfl) ?_ ?_
    · cases f1 <;> cases f2 <;> cases f3 <;> cases f4 <;> simp
    have hb : (bif (bif f1 then f2 else false) then true else (bif f3 then f4 else false)) = okC c := by
      rw [hc]; cases f1 <;> cases f2 <;> cases f3 <;> cases f4 <;> rfl
    simp only [go_sem, hb]
    refine cw_go tabOK 99 (by simp only [go_sem]; try exact rfl) (by simp [go_sem]) ?_
    refine cw_cond (by simp only [go_sem]; try exact rfl) trivial (fun h => ?_) (fun h => ?_)
    · have h0 : okC c = false := by simpa using h
      refine cw_go tabOK 99 (by simp only [go_sem]; try exact rfl) (by simp [go_sem]) ?_
      refine cw_ret ⟨_, _, (by simp only [go_sem]; try exact rfl), by simp [go_sem], _, .inr (.inl rfl), ?_⟩
      rw [hno h0]
    · have h0 : okC c = true := by simpa using h
      refine cw_go tabOK 99 (by simp only [go_sem, hw]; try exact rfl) (by simp [go_sem, hw]) ?_
      refine cw_back ⟨i + 1, ⟨by omega, hyes h0⟩, by omega, le_sub ?_ ?_ ?_⟩
      · simp [go_sem]
      · simp [go_sem]
      · simp [go_sem]
  · have e : i = s.length := by simp at h; omega
    have : s.all okC = true := List.all_eq_true.2 fun x hx => by
      obtain ⟨j, hj⟩ := List.getElem?_of_mem hx
      have := hs2 j (by rw [e]; exact (List.getElem?_eq_some_iff.1 hj).1)
      rwa [List.getD_eq_getElem?_getD, hj] at this
    refine cw_go tabOK 99 (by simp only [go_sem]; try exact rfl) (by simp [go_sem]) ?_
    refine cw_ret ⟨_, _, (by simp only [go_sem]; try exact rfl), by simp [go_sem], _, .inr (.inl rfl), ?_⟩
    unfold nameB
    rw [this, cond_and, Bool.and_true]
    have h1 : decide ((s.length : Int) > 0) = decide (1 ≤ s.length) := by rw [Bool.eq_iff_iff]; simp only [decide_eq_true_eq]; omega
    have h2 : decide ((s.length : Int) ≤ 8) = decide (s.length ≤ 8) := by rw [Bool.eq_iff_iff]; simp only [decide_eq_true_eq]; omega
    rw [h1, h2]
end La

namespace Go.Eng
section
variable {P : Program} {T : Tab} {C : Ctx} {σ σ' : St} {Ret : St → Prop} {k : List It} {μ : Nat → Option Nat} {S : Nat → Prop} {a : Act} {w : World}

theorem Rd.inv_exs {v : Value} {id size off len cap : Nat} (h : Rd μ S w v (.exs id size off len cap)) : ∃ g e n, v = .slice (some ⟨g, off * size, none⟩) len cap ∧ len ≤ cap ∧ μ id = some g ∧ rowSize w g = some (e, n) ∧ (off + cap) * size = n := by
  cases h with
  | pure h => cases h
  | exs _ _ _ _ _ g e n hc hg hr hn => exact ⟨g, e, n, rfl, hc, hg, hr, hn⟩

/-- THE FIRST OF A SLICE, AND ALL ITS ROOM. -/
theorem trip_sliceX (hT : TabOK P T) {o : Oper} {x hi : Operand} {t e : TypeId} (ho : o.op = .slice t x none (some hi) none) (ht : T.und t = .sl e) {id s len h j N : Nat} (hx : evS σ x = (True, .osl id s 0 len)) (hh : evS σ hi = (True, .int .i64 (h : Nat)))
    (hcap : hget σ.hp j = some (.cap id s N)) (hN : h ≤ N) (h0 : 0 < len) (hs : T.siz e = s) (hs0 : s ≠ 0) : Trip P C o σ (σ.put o.dst (.exs id s 0 h N)) := by
  refine trip_value fun μ S a w hi' => ?_
  have hv := hi'.evS x (by rw [hx]; trivial)
  have hu := hi'.evS hi (by rw [hh]; trivial)
  rw [hx] at hv; rw [hh] at hu
  obtain ⟨A, cap, hv', hc, hor⟩ := hv.inv_osl
  have hu' := hu.inv_int
  have hty : P.underlying t = some (.slice e) := by have := hT.und t; rw [ht] at this; exact this
  rcases hor with ⟨h1, _⟩ | ⟨g, n, m, h1, hA, h3, h4⟩
  · omega
  · obtain ⟨_, g', e', k1, k2⟩ := hi'.hp j _ hcap
    rw [k1] at h1; injection h1 with h1; subst h1
    rw [h3] at k2
    simp only [Option.some.injEq, Prod.mk.injEq] at k2
    have hNc : 0 + cap = N := Nat.eq_of_mul_eq_mul_right (Nat.pos_of_ne_zero hs0) (h4.trans k2.2)
    rw [Nat.zero_add] at hNc
    subst hNc
    subst hA
    have hrun : (Instr.sliceAt t (.slice (some ⟨g', 0 * s, none⟩) len cap) none (some (.int .i64 (h : Nat))) none).run P w = .ok (.slice (some ⟨g', 0 * s, none⟩) h cap) w := by
      have hb := run_bounds (P := P) (w := w) true len cap 0 h none (some (.int .i64 (h : Nat))) (show BoundIs none 0 0 from rfl) (show BoundIs (some (.int .i64 (h : Nat))) len h from ⟨.i64, rfl⟩) (Nat.zero_le _) (by omega)
      by_cases hc0 : cap = 0
      · subst hc0
        simp [Instr.sliceAt, Instr.slice, run_underlying hty, hb, sizeOf_of hT (t := e) (by rw [hs]; exact hs0)]
      · simp [Instr.sliceAt, Instr.slice, run_underlying hty, hb, sizeOf_of hT (t := e) (by rw [hs]; exact hs0), hc0, Addr.add]
    refine ⟨.slice (some ⟨g', 0 * s, none⟩) h cap, ?_, .exs id s 0 h cap g' n m (by omega) k1 h3 h4⟩
    have e1 : a.eval x = .slice (some ⟨g', 0 * s, none⟩) len cap := hv'
    have e2 : a.eval hi = .int .i64 (h : Nat) := hu'
    simp only [execOp, ho, e1, Option.map_none, Option.map_some, e2, Sem.run_bind, hrun]
    rfl

/-- WHAT LIES BEHIND COMES AHEAD: append of a part of a block behind a part of the same one, where there is room. -/
theorem trip_appendIn (hT : TabOK P T) {o : Oper} {x y : Operand} {t e : TypeId} (ho : o.op = .call { callee := .builtin .append, args := #[x, y], argTypes := #[t, t] }) (ht : T.und t = .sl e)
    {id s i j m N e' : Nat} {R : List (List AV)} (hx : evS σ x = (True, .exs id s 0 i N)) (hy : evS σ y = (True, .osl id s j m)) (hb : hget σ.hp id = some (.cells e' s R)) (hj : j + m ≤ R.length) (hij : i + m ≤ R.length) (hN : i + m ≤ N)
    (hs : T.siz e = s) (hs0 : s ≠ 0) (hrl : rowsOf s R) (hlf' : rowsLeaf ((R.drop j).take m) = true) :
    Trip P C o σ (St.put ⟨σ.tm, hset σ.hp id (.cells e' s (overRows R i ((R.drop j).take m)))⟩ o.dst (.exs id s 0 (i + m) N)) := by
  subst hs
  intro a w K Q ⟨μ, S, hi⟩ hK
  have hv := hi.evS x (by rw [hx]; trivial)
  have hvy := hi.evS y (by rw [hy]; trivial)
  rw [hx] at hv; rw [hy] at hvy
  have hty : P.underlying t = some (.slice e) := by have := hT.und t; rw [ht] at this; exact this
  obtain ⟨g, e2, n, hv', hc, hg, h3, h4⟩ := hv.inv_exs
  have hrows : ((R.drop j).take m).length = m := by simp; omega
  have hrl' : rowsOf (T.siz e) ((R.drop j).take m) := fun row hr => hrl row (List.mem_of_mem_drop (List.mem_of_mem_take hr))
  obtain ⟨vs, hvs⟩ := src_of hi (x := .osl id (T.siz e) j m) (rows := (R.drop j).take m) (size := T.siz e) (by simp [srcRows, hb]) hvy hrl' (fun _ _ _ _ h => by injection h with _ _ _ h; rw [hrows, h])
  have hr := run_append_in (ty := o.type) (A := some ⟨g, 0 * T.siz e, none⟩) (len := i) (cap := N) hT hty hs0 hvs (by rw [hrows]; exact hN)
  rw [hrows] at hr
  obtain ⟨w', r1, r2⟩ := write_rows (P := P) hi (off := i) (new := (R.drop j).take m) (vs := vs) hb hg (by rw [hrows]; exact hij) hvs.len hrl' (vals_leaf hvs hlf') (fun i row hi j x hx => hvs.rd i row hi j x hx)
  have hfr : (execOp a.eval o).run P w = .ok (.value (.slice (some ⟨g, 0 * T.siz e, none⟩) (i + m) N)) w' := by
    have e1 : a.eval x = .slice (some ⟨g, 0 * T.siz e, none⟩) i N := hv'
    simp only [Nat.zero_mul, add_plain, Nat.zero_add, r1, Result.andThen_ok] at hr
    simp only [Nat.zero_mul] at e1 ⊢
    simp [execOp, ho, e1, resolve, invoke, builtin, hr]
  have he : evS ⟨σ.tm, hset σ.hp id (.cells e' (T.siz e) (overRows R i ((R.drop j).take m)))⟩ x = evS σ x := by cases x <;> rfl
  have hv2 := r2.evS x (by rw [he, hx]; trivial)
  rw [he, hx] at hv2
  obtain ⟨g2, e3, n2, hv3, _, hg2, h5, h6⟩ := hv2.inv_exs
  unfold Oper.wp
  rw [hfr]
  show K (a.put o.dst _) _
  rw [hg] at hg2; injection hg2 with hg2; subst hg2
  exact hK _ _ ⟨μ, S, Inv.put r2 o.dst (.exs id _ 0 (i + m) N g e3 n2 hN hg h5 h6)⟩

/-- A SLICE'S ROOM: whatever it is. -/
theorem cw_room (d : Nat) {id s off len e' : Nat} {rows : List (List AV)} {t : Nat} (hx : σ.tm.getD t .any = .osl id s off len) (hb : hget σ.hp id = some (.cells e' s rows)) (h0 : 0 < len) (hs : s ≠ 0) (hf : hget σ.hp d = none)
    (h : ∀ N : Nat, off + len ≤ N → rows.length ≤ N → Cw P C Ret k ⟨σ.tm, (d, .cap id s N) :: σ.hp⟩) : Cw P C Ret k σ := by
  intro a w ⟨μ, S, hi⟩
  have hlt : t < σ.tm.length := by
    by_cases h : t < σ.tm.length
    · exact h
    · rw [List.getD_eq_getElem?_getD, List.getElem?_eq_none (by omega)] at hx; cases hx
  have hv := hi.tm t (σ.tm.getD t .any) (by rw [List.getD_eq_getElem?_getD, List.getElem?_eq_getElem hlt]; rfl)
  rw [hx] at hv
  obtain ⟨A, cap, hv', hc, hor⟩ := hv.inv_osl
  rcases hor with ⟨h1, _⟩ | ⟨g, n, m, h1, _, h3, h4⟩
  · omega
  · have hle : rows.length ≤ off + cap := by
      rcases hi.hp id _ hb with ⟨rfl, _⟩ | ⟨g', c, k1, k2, k3, _⟩
      · simp
      · rw [k1] at h1; injection h1 with h1; subst h1
        rw [rowSize, k2] at h3
        simp only [Option.some.injEq, Prod.mk.injEq] at h3
        exact Nat.le_of_mul_le_mul_right (by rw [h4, ← h3.2]; exact k3) (Nat.pos_of_ne_zero hs)
    refine h (off + cap) (by omega) hle a w ⟨μ, S, hi.size, hi.defers, hi.tm, fun i b hb' => ?_, fun i q hq => ?_, hi.inj, hi.frm, hi.sb⟩
    · simp only [hget] at hb'
      split at hb'
      · rename_i hd
        injection hb' with hb'
        subst hd hb'
        exact ⟨hi.fresh hf, g, n, h1, by rw [h3, h4]⟩
      · exact hi.hp i b hb'
    · obtain ⟨⟨b, h1⟩, h2⟩ := hi.dom i q hq
      refine ⟨?_, h2⟩
      simp only [hget]
      split
      · exact ⟨_, rfl⟩
      · exact ⟨b, h1⟩

/-- A SLICE OF A SLICE, ITS ROOM BOUNDED: what it is is forgotten. -/
theorem trip_slice3 (hT : TabOK P T) {o : Oper} {x lo hi mx : Operand} {t e : TypeId} (ho : o.op = .slice t x (some lo) (some hi) (some mx)) (ht : T.und t = .sl e) {id s off len l h m : Nat} (hx : evS σ x = (True, .osl id s off len))
    (hl : evS σ lo = (True, .int .i64 (l : Nat))) (hh : evS σ hi = (True, .int .i64 (h : Nat))) (hm : evS σ mx = (True, .int .i64 (m : Nat))) (h1 : l ≤ h) (h2 : h ≤ m) (h3 : m ≤ len) (h0 : 0 < len) (hs : T.siz e = s) (hs0 : s ≠ 0) : Trip P C o σ (σ.put o.dst .any) := by
  refine trip_value fun μ S a w hi' => ?_
  have hv := hi'.evS x (by rw [hx]; trivial)
  have hu1 := hi'.evS lo (by rw [hl]; trivial)
  have hu2 := hi'.evS hi (by rw [hh]; trivial)
  have hu3 := hi'.evS mx (by rw [hm]; trivial)
  rw [hx] at hv; rw [hl] at hu1; rw [hh] at hu2; rw [hm] at hu3
  obtain ⟨A, cap, hv', hc, hor⟩ := hv.inv_osl
  have hty : P.underlying t = some (.slice e) := by have := hT.und t; rw [ht] at this; exact this
  rcases hor with ⟨h1, _⟩ | ⟨g, n, m', k1, hA, k3, k4⟩
  · omega
  · subst hA
    have hb : (Instr.sliceBounds true len cap (some (.int .i64 (l : Nat))) (some (.int .i64 (h : Nat))) (some (.int .i64 (m : Nat)))).run P w = .ok (l, h, m) w := by
      simp [Instr.sliceBounds, Instr.sliceBound, asIntOf, h1, h2, show m ≤ cap by omega]
    have e1 : a.eval x = .slice (some ⟨g, off * s, none⟩) len cap := hv'
    have e2 : a.eval lo = .int .i64 (l : Nat) := hu1.inv_int
    have e3 : a.eval hi = .int .i64 (h : Nat) := hu2.inv_int
    have e4 : a.eval mx = .int .i64 (m : Nat) := hu3.inv_int
    by_cases hml : m = l
    · subst hml
      exact ⟨.slice (some ⟨g, off * s, none⟩) (h - m) (m - m), by simp [execOp, ho, e1, e2, e3, e4, Instr.sliceAt, Instr.slice, run_underlying hty, hb, sizeOf_of hT (t := e) (by rw [hs]; exact hs0)], .any _⟩
    · exact ⟨.slice (some (Addr.add ⟨g, off * s, none⟩ (l * T.siz e))) (h - l) (m - l), by simp [execOp, ho, e1, e2, e3, e4, Instr.sliceAt, Instr.slice, run_underlying hty, hb, sizeOf_of hT (t := e) (by rw [hs]; exact hs0), hml], .any _⟩

/-- THE FIRST OF A SLICE, AND ALL ITS ROOM, IN A REGION THAT DRAWS. -/
theorem seg_sliceX (hT : TabOK P T) {ops : Array Oper} {Q : Exit → Act → World → Prop} {k n : Nat} {acc : Skel} {o : Oper} {L : List Oper} {x hi : Operand} {t e : TypeId} (ho : o.op = .slice t x none (some hi) none) (hgd : o.guard = none) (ht : T.und t = .sl e) {id s len h j N : Nat}
    (hx : evS σ x = (True, .osl id s 0 len)) (hh : evS σ hi = (True, .int .i64 (h : Nat))) (hcap : hget σ.hp j = some (.cap id s N)) (hN : h ≤ N) (h0 : 0 < len) (hs : T.siz e = s) (hs0 : s ≠ 0)
    {sk : List Loc × List Loc} (hsk : ((Sp.mk o.dst (.exs id s 0 h N) [] (locsL σ [x, hi] ++ [Loc.blk j])).wr, locsL σ [x, hi] ++ [Loc.blk j]) = sk) (ha : σ.put o.dst (.exs id s 0 h N) = σ') (hk : SegFrom P C ops Q k n (acc ++ [sk]) L σ') : SegFrom P C ops Q k n acc (o :: L) σ := by
  have hgd' : guardOf ops σ o.guard = some true := by rw [hgd]; rfl
  have key := rob_trip (P := P) (C := C) (o := o) (ops := ops) (x := .exs id s 0 h N) (rd := locsL σ [x, hi] ++ [Loc.blk j]) hgd' (.inl rfl) (fun _ s' hag => by
    have h1 : evS s' x = evS σ x := evS_agree fun z hz => hag z (by simp [locsL, hz])
    have h2 : evS s' hi = evS σ hi := evS_agree fun z hz => hag z (by simp [locsL, hz])
    have h3 : hget s'.hp j = hget σ.hp j := hag (Loc.blk j) (by simp)
    exact trip_sliceX hT ho ht (h1.trans hx) (h2.trans hh) (h3.trans hcap) hN h0 hs hs0)
  have e0 : locsG ops o.guard = [] := by rw [hgd]; rfl
  rw [e0, List.nil_append] at key
  exact seg_rob key rfl (by rw [← hsk]) (by rw [← ha]; simp [Sp.app]) hk

/-- A PART OF A SLICE, UP TO ITS ROOM. -/
theorem trip_sliceXX (hT : TabOK P T) {o : Oper} {x lo hi : Operand} {t e : TypeId} (ho : o.op = .slice t x (some lo) (some hi) none) (ht : T.und t = .sl e) {id s len cap l h : Nat} (hx : evS σ x = (True, .exs id s 0 len cap)) (hl : evS σ lo = (True, .int .i64 (l : Nat))) (hh : evS σ hi = (True, .int .i64 (h : Nat)))
    (h1 : l < h) (h2 : h ≤ cap) (hs : T.siz e = s) (hs0 : s ≠ 0) : Trip P C o σ (σ.put o.dst (.osl id s l (h - l))) := by
  refine trip_value fun μ S a w hi' => ?_
  have hv := hi'.evS x (by rw [hx]; trivial)
  have hu1 := hi'.evS lo (by rw [hl]; trivial)
  have hu2 := hi'.evS hi (by rw [hh]; trivial)
  rw [hx] at hv; rw [hl] at hu1; rw [hh] at hu2
  obtain ⟨g, n, m, hv', hc, k1, k3, k4⟩ := hv.inv_exs
  have hty : P.underlying t = some (.slice e) := by have := hT.und t; rw [ht] at this; exact this
  have hb := run_bounds (P := P) (w := w) true len cap l h (some (.int .i64 (l : Nat))) (some (.int .i64 (h : Nat))) (show BoundIs (some (.int .i64 (l : Nat))) 0 l from ⟨.i64, rfl⟩) (show BoundIs (some (.int .i64 (h : Nat))) len h from ⟨.i64, rfl⟩) (by omega) h2
  have e1 : a.eval x = .slice (some ⟨g, 0 * s, none⟩) len cap := hv'
  have e2 : a.eval lo = .int .i64 (l : Nat) := hu1.inv_int
  have e3 : a.eval hi = .int .i64 (h : Nat) := hu2.inv_int
  have hcl : cap ≠ l := by omega
  refine ⟨.slice (some (Addr.add ⟨g, 0 * s, none⟩ (l * s))) (h - l) (cap - l), by simp [execOp, ho, e1, e2, e3, Instr.sliceAt, Instr.slice, run_underlying hty, hb, sizeOf_of hT (t := e) (by rw [hs]; exact hs0), hs, hcl], ?_⟩
  refine .osl id s l (h - l) (cap - l) _ (by omega) (.inr ⟨g, n, m, k1, by rw [add_plain, Nat.zero_mul, Nat.zero_add], k3, ?_⟩)
  rw [← k4]
  congr 1; omega

/-- THE GREATER ONE OF TWO. -/
theorem trip_max {o : Oper} {x y : Operand} {ts : Array TypeId} (ho : o.op = .call { callee := .builtin .max, args := #[x, y], argTypes := ts }) {k k' : IntKind} {n m : Int} (hx : evS σ x = (True, .int k n)) (hy : evS σ y = (True, .int k' m)) :
    Trip P C o σ (σ.put o.dst (.int k (if m > n then m else n))) := by
  refine trip_value fun μ S a w hi' => ?_
  have hv := hi'.evS x (by rw [hx]; trivial)
  have hu := hi'.evS y (by rw [hy]; trivial)
  rw [hx] at hv; rw [hy] at hu
  have e1 : a.eval x = .int k n := hv.inv_int
  have e2 : a.eval y = .int k' m := hu.inv_int
  exact ⟨_, by simp [execOp, ho, e1, e2, resolve, invoke, builtin, run_max_int2], .pure (.int _ _)⟩
theorem seg_max {ops : Array Oper} {Q : Exit → Act → World → Prop} {k n : Nat} {acc : Skel} {o : Oper} {L : List Oper} {x y : Operand} {ts : Array TypeId} (ho : o.op = .call { callee := .builtin .max, args := #[x, y], argTypes := ts }) (hgd : o.guard = none) {q q' : IntKind} {u v : Int}
    (hx : evS σ x = (True, .int q u)) (hy : evS σ y = (True, .int q' v))
    {sk : List Loc × List Loc} (hsk : ((Sp.mk o.dst (.int q (if v > u then v else u)) [] (locsL σ [x, y])).wr, locsL σ [x, y]) = sk) (ha : σ.put o.dst (.int q (if v > u then v else u)) = σ') (hk : SegFrom P C ops Q k n (acc ++ [sk]) L σ') : SegFrom P C ops Q k n acc (o :: L) σ := by
  have hgd' : guardOf ops σ o.guard = some true := by rw [hgd]; rfl
  have key := rob_trip (P := P) (C := C) (o := o) (ops := ops) (x := .int q (if v > u then v else u)) (rd := locsL σ [x, y]) hgd' (.inl rfl) (fun _ s' hag => by
    have h1 : evS s' x = evS σ x := evS_agree fun z hz => hag z (by simp [locsL, hz])
    have h2 : evS s' y = evS σ y := evS_agree fun z hz => hag z (by simp [locsL, hz])
    exact trip_max ho (h1.trans hx) (h2.trans hy))
  have e0 : locsG ops o.guard = [] := by rw [hgd]; rfl
  rw [e0, List.nil_append] at key
  exact seg_rob key rfl (by rw [← hsk]) (by rw [← ha]; simp [Sp.app]) hk

/-- an exact slice is a slice -/
theorem le_exs (t : Nat) {id s off len cap : Nat} (h : σ.tm.getD t .any = .exs id s off len cap) : Le C σ ⟨σ.tm.set t (.osl id s off len), σ.hp⟩ := by
  intro a w ⟨μ, S, hi⟩
  refine ⟨μ, S, by simpa using hi.size, hi.defers, fun u x hx => ?_, hi.hp, hi.dom, hi.inj, hi.frm, hi.sb⟩
  rw [List.getElem?_set] at hx
  split at hx
  · rename_i e
    subst e
    split at hx
    · rename_i hlt
      injection hx with hx
      subst hx
      have := hi.tm t (σ.tm.getD t .any) (by rw [List.getD_eq_getElem?_getD, List.getElem?_eq_getElem hlt]; rfl)
      rw [h] at this
      obtain ⟨g, e, n, h1, h2, h3, h4, h5⟩ := this.inv_exs
      rw [h1]
      exact .osl id s off len cap _ h2 (.inr ⟨g, e, n, h3, rfl, h4, h5⟩)
    · cases hx
  · exact hi.tm u x hx
end
end Go.Eng

namespace Go.Eng

def renE (f : Nat → Nat) (e : Edge) : Edge := ⟨f e.on, e.ground⟩
def renOp (f : Nat → Nat) (o : Oper) : Oper := ⟨o.dst, o.op, o.type, o.pos, o.after.map (renE f), o.guard.map fun g => (f g.1, g.2)⟩
def permOps (p q : List Nat) (l : List Oper) : List Oper := p.map fun i => renOp (fun j => q.getD j j) (l.getD i default)
def permOK (p q : List Nat) (n : Nat) : Bool := p.length == n && q.length == n && (List.range n).all fun i => decide (q.getD i i < n) && p.getD (q.getD i i) 0 == i && (decide (p.getD i i < n) && q.getD (p.getD i i) (p.getD i i) == i)

section
variable {P : Program} {C : Ctx} {σ σ' : St}

def asEmpty (id s : Nat) : AV → AV
  | .nils => .osl id s 0 0
  | x => x
theorem wk_asEmpty (id s : Nat) (x : AV) : wk x (asEmpty id s x) := by
  cases x
  case nils => exact .inr (.inr ⟨rfl, .inr ⟨id, s, 0, rfl⟩⟩)
  all_goals exact .inr (.inl rfl)
/-- NIL SLICES IN A BLOCK'S CELLS, AS EMPTY ONES THAT WILL BE HELD. -/
theorem le_nilB (id' s' id : Nat) {e s : Nat} {rows rows' : List (List AV)} (hb : hget σ.hp id = some (.cells e s rows)) (hr : rows.map (fun row => row.map (asEmpty id' s')) = rows') : Le C σ ⟨σ.tm, hset σ.hp id (.cells e s rows')⟩ := by
  subst hr
  rintro a w ⟨μ, S, hi⟩
  refine ⟨μ, S, hi.size, hi.defers, hi.tm, fun i b hb' => ?_, fun i q hq => ?_, hi.inj, hi.frm, hi.sb⟩
  · simp only [hget_hset] at hb'
    split at hb'
    · rename_i h1
      injection hb' with hb'
      subst h1 hb'
      rcases hi.hp id _ hb with ⟨rfl, k2⟩ | ⟨g, c, k1, k2, k3, k4, k5⟩
      · exact .inl ⟨by simp, k2⟩
      · refine .inr ⟨g, c, k1, k2, by rw [List.length_map]; exact k3, fun row hrow => ?_, fun i row hi' q x hx => ?_⟩
        · obtain ⟨r0, h0, rfl⟩ := List.mem_map.1 hrow
          rw [List.length_map]; exact k4 r0 h0
        · rw [List.getElem?_map] at hi'
          cases e0 : rows[i]? with
          | none => rw [e0] at hi'; cases hi'
          | some r0 =>
            rw [e0] at hi'
            simp only [Option.map_some, Option.some.injEq] at hi'
            subst hi'
            rw [List.getElem?_map] at hx
            cases e1 : r0[q]? with
            | none => rw [e1] at hx; cases hx
            | some y =>
              rw [e1] at hx
              simp only [Option.map_some, Option.some.injEq] at hx
              subst hx
              exact (k5 i r0 e0 q y e1).wk (wk_asEmpty id' s' y)
    · exact hi.hp i b hb'
  · obtain ⟨⟨b, h1⟩, h2⟩ := hi.dom i q hq
    refine ⟨?_, h2⟩
    simp only [hget_hset]
    split
    · exact ⟨_, rfl⟩
    · exact ⟨b, h1⟩
theorem draw_le {ops : Array Oper} {Q : Exit → Act → World → Prop} {k : Nat} (h : Le C σ σ') (hk : DrawOK P C ops Q k σ') : DrawOK P C ops Q k σ := fun a w hr => hk a w (h a w hr)

theorem perm_facts {p q : List Nat} {n : Nat} (h : permOK p q n = true) : p.length = n ∧ q.length = n ∧ ∀ i, i < n → q.getD i i < n ∧ p.getD (q.getD i i) 0 = i ∧ p.getD i i < n ∧ q.getD (p.getD i i) (p.getD i i) = i := by
  unfold permOK at h
  simp only [Bool.and_eq_true, beq_iff_eq] at h
  obtain ⟨⟨h1, h2⟩, h3⟩ := h
  refine ⟨h1, h2, fun i hi => ?_⟩
  have := List.all_eq_true.1 h3 i (List.mem_range.2 hi)
  simp only [Bool.and_eq_true, decide_eq_true_eq, beq_iff_eq] at this
  exact ⟨this.1.1, this.1.2, this.2.1, this.2.2⟩

theorem perm_get {p q : List Nat} {ops : Array Oper} (h : permOK p q ops.size = true) {i : Nat} {o : Oper} (ho : ops[i]? = some o) :
    (permOps p q ops.toList).toArray[q.getD i i]? = some (renOp (fun j => q.getD j j) o) := by
  obtain ⟨h1, h2, h3⟩ := perm_facts h
  have hi : i < ops.size := (Array.getElem?_eq_some_iff.1 ho).1
  obtain ⟨h4, h5, _⟩ := h3 i hi
  rw [List.getElem?_toArray, permOps, List.getElem?_map]
  have hp : p[q.getD i i]? = some i := by
    rw [List.getD_eq_getElem?_getD, List.getElem?_eq_getElem (by omega)] at h5
    rw [List.getElem?_eq_getElem (by omega)]
    exact congrArg some h5
  rw [hp]
  simp only [Option.map_some]
  rw [List.getD_eq_getElem?_getD, Array.getElem?_toList, ho]
  rfl
theorem perm_none {p q : List Nat} {ops : Array Oper} (h : permOK p q ops.size = true) {i : Nat} (ho : ops[i]? = none) : (permOps p q ops.toList).toArray[q.getD i i]? = none := by
  obtain ⟨h1, h2, _⟩ := perm_facts h
  have hi : ops.size ≤ i := Array.getElem?_eq_none_iff.1 ho
  have e : q.getD i i = i := by rw [List.getD_eq_getElem?_getD, List.getElem?_eq_none (by omega)]; rfl
  rw [e, List.getElem?_toArray, permOps, List.getElem?_map, List.getElem?_eq_none (by omega)]
  rfl
theorem perm_inj {p q : List Nat} {n : Nat} (h : permOK p q n = true) {i j : Nat} (he : q.getD i i = q.getD j j) : i = j := by
  obtain ⟨h1, h2, h3⟩ := perm_facts h
  have hbig : ∀ k, n ≤ k → q.getD k k = k := fun k hk => by rw [List.getD_eq_getElem?_getD, List.getElem?_eq_none (by omega)]; rfl
  by_cases hi : i < n
  · by_cases hj : j < n
    · have e1 := (h3 i hi).2.1
      rw [he, (h3 j hj).2.1] at e1
      exact e1.symm
    · have := (h3 i hi).1
      rw [he, hbig j (by omega)] at this
      omega
  · by_cases hj : j < n
    · have := (h3 j hj).1
      rw [← he, hbig i (by omega)] at this
      omega
    · rw [hbig i (by omega), hbig j (by omega)] at he; exact he

theorem perm_yielded {p q : List Nat} {ops : Array Oper} (h : permOK p q ops.size = true) (t : Array Value) (j : Nat) : yielded (permOps p q ops.toList).toArray t (q.getD j j) = yielded ops t j := by
  unfold yielded
  cases ho : ops[j]? with
  | none => rw [perm_none h ho]
  | some o => rw [perm_get h ho]; rfl

theorem perm_any {p q : List Nat} {ops : Array Oper} (h : permOK p q ops.size = true) {Q : Exit → Act → World → Prop} : ∀ (f : Nat) (L L' : Array Bool) (a : Act) (w : World), L.size = ops.size → L'.size = ops.size →
    (∀ i, L'.getD (q.getD i i) false = L.getD i false) → wpAny P .any (permOps p q ops.toList).toArray Q f L' a w → wpAny P .any ops Q f L a w := by
  obtain ⟨h1, h2, h3⟩ := perm_facts h
  have hrd : ∀ (L L' : Array Bool), L.size = ops.size → L'.size = ops.size → (∀ i, L'.getD (q.getD i i) false = L.getD i false) → ∀ i, i ∈ Region.ready .any ops L → q.getD i i ∈ Region.ready .any (permOps p q ops.toList).toArray L' := fun L L' hL hL' hg i hi => by
    obtain ⟨k1, o, k2, k3⟩ := mem_ready.1 hi
    have hlt : i < ops.size := (Array.getElem?_eq_some_iff.1 k2).1
    refine mem_ready.2 ⟨?_, _, perm_get h k2, fun e he hb => ?_⟩
    · have e1 : L.getD i true = L.getD i false := by rw [Array.getD_eq_getD_getElem?, Array.getD_eq_getD_getElem?, Array.getElem?_eq_getElem (by omega)]; rfl
      have e2 : L'.getD (q.getD i i) true = L'.getD (q.getD i i) false := by
        have := (h3 i hlt).1
        rw [Array.getD_eq_getD_getElem?, Array.getD_eq_getD_getElem?, Array.getElem?_eq_getElem (by omega)]; rfl
      rw [e2, hg, ← e1]; exact k1
    · simp only [renOp] at he
      obtain ⟨e0, he0, rfl⟩ := Array.mem_map.1 he
      show L'.getD (q.getD e0.on e0.on) false = true
      rw [hg]
      exact k3 e0 he0 hb
  intro f
  induction f with
  | zero =>
    intro L L' a w hL hL' hg hw
    refine ⟨List.eq_nil_iff_forall_not_mem.2 fun i hi => ?_, hw.2⟩
    have := hrd L L' hL hL' hg i hi
    rw [hw.1] at this
    cases this
  | succ f ih =>
    intro L L' a w hL hL' hg hw
    refine ⟨fun h0 => ?_, fun i hi => ?_⟩
    · by_cases hr : Region.ready .any (permOps p q ops.toList).toArray L' = []
      · exact hw.1 hr
      · exfalso
        obtain ⟨j, hj⟩ := List.exists_mem_of_ne_nil _ hr
        obtain ⟨k1, o, k2, k3⟩ := mem_ready.1 hj
        -- a new place is the place of an old one
        have hjn : j < ops.size := by
          have := (Array.getElem?_eq_some_iff.1 k2).1
          simp only [List.size_toArray, permOps, List.length_map] at this
          omega
        have hpj : ∃ i, i < ops.size ∧ q.getD i i = j := ⟨p.getD j j, (h3 j hjn).2.2.1, (h3 j hjn).2.2.2⟩
        obtain ⟨i, hi, rfl⟩ := hpj
        have : i ∈ Region.ready .any ops L := by
          obtain ⟨oi, hoi⟩ : ∃ oi, ops[i]? = some oi := ⟨_, Array.getElem?_eq_getElem hi⟩
          rw [perm_get h hoi] at k2
          injection k2 with k2
          refine mem_ready.2 ⟨?_, oi, hoi, fun e he hb => ?_⟩
          · have e1 : L.getD i true = L.getD i false := by rw [Array.getD_eq_getD_getElem?, Array.getD_eq_getD_getElem?, Array.getElem?_eq_getElem (by omega)]; rfl
            have e2 : L'.getD (q.getD i i) true = L'.getD (q.getD i i) false := by
              rw [Array.getD_eq_getD_getElem?, Array.getD_eq_getD_getElem?, Array.getElem?_eq_getElem (by omega)]; rfl
            rw [e1, ← hg, ← e2]; exact k1
          · rw [← hg]
            exact k3 (renE (fun j => q.getD j j) e) (by rw [← k2]; exact Array.mem_map.2 ⟨e, he, rfl⟩) hb
        rw [h0] at this
        cases this
    · have hri := hrd L L' hL hL' hg i hi
      have hop := hw.2 _ hri
      obtain ⟨_, o, hoi, _⟩ := mem_ready.1 hi
      have hlt : i < ops.size := (Array.getElem?_eq_some_iff.1 hoi).1
      have hnext : ∀ a' w', wpAny P .any (permOps p q ops.toList).toArray Q f (L'.setIfInBounds (q.getD i i) true) a' w' → wpAny P .any ops Q f (L.setIfInBounds i true) a' w' := fun a' w' hk =>
        ih _ _ a' w' (by simpa using hL) (by simpa using hL') (fun j => by
          have hji : q.getD j j = q.getD i i ↔ j = i := ⟨fun e => perm_inj h e, fun e => by rw [e]⟩
          have hqi := (h3 i hlt).1
          have := hg j
          rw [Array.getD_eq_getD_getElem?, Array.getD_eq_getD_getElem?] at this
          rw [Array.getD_eq_getD_getElem?, Array.getD_eq_getD_getElem?, Array.getElem?_setIfInBounds, Array.getElem?_setIfInBounds]
          by_cases e : j = i
          · subst e
            rw [if_pos rfl, if_pos rfl, if_pos (by omega), if_pos (by omega)]
          · rw [if_neg (fun e2 => e (hji.1 e2.symm)), if_neg (fun e2 => e e2.symm)]
            exact this) hk
      have hop2 := wpOp_mono hnext hop
      unfold wpOp at hop2 ⊢
      rw [perm_get h hoi] at hop2
      rw [hoi]
      simp only at hop2 ⊢
      have hwant : Region.wanted (renOp (fun j => q.getD j j) o) (yielded (permOps p q ops.toList).toArray a.tmps) = Region.wanted o (yielded ops a.tmps) := by
        unfold Region.wanted renOp
        cases o.guard with
        | none => rfl
        | some g =>
          obtain ⟨j, b⟩ := g
          simp only [Option.map_some]
          rw [perm_yielded h]
      rw [hwant] at hop2
      exact hop2

/-- A REGION THAT DRAWS, ITS OPERATIONS LISTED IN ANOTHER ORDER. -/
theorem draw_perm (p q : List Nat) {ops ops' : Array Oper} {Q : Exit → Act → World → Prop} (h : permOK p q ops.size = true) (he : (permOps p q ops.toList).toArray = ops') (hk : DrawOK P C ops' Q 0 σ) : DrawOK P C ops Q 0 σ := by
  subst he
  intro a w hr
  have hs : (permOps p q ops.toList).toArray.size = ops.size := by
    obtain ⟨h1, _, _⟩ := perm_facts h
    simp [permOps, h1]
  have := hk a w hr
  rw [hs] at this
  refine perm_any h _ _ _ a w (by simp [doneTo]) (by simp [doneTo]) (fun i => ?_) this
  rw [doneTo_get, doneTo_get]
  split <;> split <;> rfl
end
attribute [go_sem] asEmpty
end Go.Eng

namespace Go.Eng

def remOp (r : Nat) (f : Nat → Nat) (o : Oper) : Oper := ⟨o.dst, o.op, o.type, o.pos, (o.after.filter fun e => !(e.on == r)).map (renE f), o.guard.map fun g => (f g.1, g.2)⟩
def remOps (r : Nat) (p q : List Nat) (l : List Oper) : List Oper := p.map fun i => remOp r (fun j => q.getD j j) (l.getD i default)
def isSel : Op → Bool
  | .select .. => true
  | _ => false
def remOK (r : Nat) (p q : List Nat) (ops : Array Oper) : Bool :=
  p.length + 1 == ops.size && q.length == ops.size && (decide (r < ops.size) && (List.range ops.size).all fun i => i == r || (decide (q.getD i i + 1 < ops.size) && p.getD (q.getD i i) 0 == i)) &&
  ((List.range p.length).all fun j => decide (p.getD j 0 < ops.size) && !(p.getD j 0 == r) && q.getD (p.getD j 0) 0 == j) &&
  ops.toList.all fun o => (match o.guard with | some g => !(g.1 == r) | none => true) && !isSel o.op
def firstOK (r : Nat) (o : Oper) (ops : Array Oper) : Bool :=
  o.after.isEmpty && (List.range ops.size).all fun j => j == r || (match ops[j]? with | some oj => (oj.after.any fun e => Region.binds .any e && e.on == r) || o.apart ops oj | none => true)

section
variable {P : Program} {T : Tab} {C : Ctx} {σ σ' : St} {μ : Nat → Option Nat} {S : Nat → Prop} {a : Act} {w : World}

theorem field_any (hT : TabOK P T) {t : TypeId} {v : Value} {x r : AV} {j : Nat} (h : fieldAddrAV T t x j = some r) (hv : Rd μ S w v x) :
    ∃ u, (∀ w', (Instr.fieldAt t v j).run P w' = .ok u w') ∧ Rd μ S w u r := by
  unfold fieldAddrAV at h
  split at h
  · rename_i q o cells off hf
    injection h with h; subst h
    obtain ⟨F, f, h1, h2, h3, h4, h5⟩ := hT.fld _ _ _ _ hf
    obtain ⟨g, o', vals, rfl, hS, hc, hr⟩ := hv.inv_rp.inv_rp
    refine ⟨.pointer (some ⟨g, o' + (off + o), none⟩), fun w' => ?_, .pure (.rp g o' (off + o) cells vals hS hc hr)⟩
    simp [Instr.fieldAt, run_underlying h1, h2, Instr.sureAddr, fieldPlace, h3, sizeOf_of hT h5, h5, h4, add_plain, Nat.add_assoc]
  · rename_i q o id size row off hf
    injection h with h; subst h
    obtain ⟨F, f, h1, h2, h3, h4, h5⟩ := hT.fld _ _ _ _ hf
    obtain ⟨g, hg, rfl⟩ := hv.inv_ptr
    refine ⟨.pointer (some ⟨g, row * size + (off + o), none⟩), fun w' => ?_, .ptr id size row (off + o) g hg⟩
    simp [Instr.fieldAt, run_underlying h1, h2, Instr.sureAddr, fieldPlace, h3, sizeOf_of hT h5, h5, h4, add_plain, Nat.add_assoc]
  · cases h

structure RemF (r : Nat) (p q : List Nat) (ops : Array Oper) : Prop where
  pl : p.length + 1 = ops.size
  ql : q.length = ops.size
  rl : r < ops.size
  to : ∀ i, i < ops.size → i ≠ r → q.getD i i + 1 < ops.size ∧ p.getD (q.getD i i) 0 = i
  fro : ∀ j, j < p.length → p.getD j 0 < ops.size ∧ p.getD j 0 ≠ r ∧ q.getD (p.getD j 0) 0 = j
  gd : ∀ (i : Nat) o j b, ops[i]? = some o → o.guard = some (j, b) → j ≠ r
  sel : ∀ (i : Nat) o cs b, ops[i]? = some o → o.op ≠ .select cs b

theorem rem_facts {r : Nat} {p q : List Nat} {ops : Array Oper} (h : remOK r p q ops = true) : RemF r p q ops := by
  unfold remOK at h
  simp only [Bool.and_eq_true, beq_iff_eq, decide_eq_true_eq] at h
  obtain ⟨⟨⟨⟨h1, h2⟩, h3, h4⟩, h5⟩, h6⟩ := h
  have hall : ∀ (i : Nat) o, ops[i]? = some o → ((match o.guard with | some g => !(g.1 == r) | none => true) && !isSel o.op) = true := fun i o ho =>
    List.all_eq_true.1 h6 o (by rw [Array.mem_toList_iff]; exact Array.mem_of_getElem? ho)
  refine ⟨h1, h2, h3, fun i hi hne => ?_, fun j hj => ?_, fun i o j b ho hg e => ?_, fun i o cs b ho e => ?_⟩
  · have := List.all_eq_true.1 h4 i (List.mem_range.2 hi)
    simp only [Bool.or_eq_true, Bool.and_eq_true, beq_iff_eq, decide_eq_true_eq] at this
    rcases this with h | h
    · exact absurd h hne
    · exact h
  · have := List.all_eq_true.1 h5 j (List.mem_range.2 hj)
    simp only [Bool.and_eq_true, beq_iff_eq, decide_eq_true_eq, Bool.not_eq_true', beq_eq_false_iff_ne] at this
    exact ⟨this.1.1, this.1.2, this.2⟩
  · have := hall i o ho
    rw [hg] at this
    simp only [Bool.and_eq_true, Bool.not_eq_true', beq_eq_false_iff_ne] at this
    exact this.1 e
  · have := hall i o ho
    rw [e] at this
    simp [isSel] at this

theorem RemF.get {r : Nat} {p q : List Nat} {ops : Array Oper} (h : RemF r p q ops) {i : Nat} (hne : i ≠ r) {o : Oper} (ho : ops[i]? = some o) :
    (remOps r p q ops.toList).toArray[q.getD i i]? = some (remOp r (fun j => q.getD j j) o) := by
  have hi : i < ops.size := (Array.getElem?_eq_some_iff.1 ho).1
  obtain ⟨h4, h5⟩ := h.to i hi hne
  have hpl := h.pl
  rw [List.getElem?_toArray, remOps, List.getElem?_map]
  have hp : p[q.getD i i]? = some i := by
    rw [List.getD_eq_getElem?_getD, List.getElem?_eq_getElem (by omega)] at h5
    rw [List.getElem?_eq_getElem (by omega)]
    exact congrArg some h5
  rw [hp]
  simp only [Option.map_some]
  rw [List.getD_eq_getElem?_getD, Array.getElem?_toList, ho]
  rfl
theorem RemF.big {r : Nat} {p q : List Nat} {ops : Array Oper} (h : RemF r p q ops) {i : Nat} (hi : ops.size ≤ i) : q.getD i i = i := by
  have := h.ql
  rw [List.getD_eq_getElem?_getD, List.getElem?_eq_none (by omega)]; rfl
theorem RemF.inj {r : Nat} {p q : List Nat} {ops : Array Oper} (h : RemF r p q ops) {i j : Nat} (hi : i ≠ r) (hj : j ≠ r) (he : q.getD i i = q.getD j j) : i = j := by
  by_cases h1 : i < ops.size
  · by_cases h2 : j < ops.size
    · have e1 := (h.to i h1 hi).2
      rw [he, (h.to j h2 hj).2] at e1
      exact e1.symm
    · have := (h.to i h1 hi).1
      rw [he, h.big (by omega)] at this
      omega
  · by_cases h2 : j < ops.size
    · have := (h.to j h2 hj).1
      rw [← he, h.big (by omega)] at this
      omega
    · rw [h.big (by omega), h.big (by omega)] at he; exact he
theorem RemF.yielded {r : Nat} {p q : List Nat} {ops : Array Oper} (h : RemF r p q ops) (t : Array Value) {j : Nat} (hj : j ≠ r) : Go.yielded (remOps r p q ops.toList).toArray t (q.getD j j) = Go.yielded ops t j := by
  unfold Go.yielded
  cases ho : ops[j]? with
  | none =>
    have hs : ops.size ≤ j := Array.getElem?_eq_none_iff.1 ho
    have hpl := h.pl
    rw [h.big hs, List.getElem?_toArray, remOps, List.getElem?_map, List.getElem?_eq_none (by omega)]
    rfl
  | some o => rw [h.get hj ho]; rfl

theorem rem_any {r : Nat} {p q : List Nat} {ops : Array Oper} (h : RemF r p q ops) {Q : Exit → Act → World → Prop} : ∀ (f : Nat) (L L' : Array Bool) (a : Act) (w : World), L.size = ops.size → L'.size + 1 = ops.size → L.getD r false = true →
    (∀ i, i ≠ r → L'.getD (q.getD i i) false = L.getD i false) → wpAny P .any (remOps r p q ops.toList).toArray Q f L' a w → wpAny P .any ops Q f L a w := by
  have hpl := h.pl
  have hTF : ∀ (L : Array Bool) (i : Nat), i < L.size → L.getD i true = L.getD i false := fun L i hi => by rw [Array.getD_eq_getD_getElem?, Array.getD_eq_getD_getElem?, Array.getElem?_eq_getElem hi]; rfl
  have hne : ∀ (L : Array Bool), L.size = ops.size → L.getD r false = true → ∀ i, i ∈ Region.ready .any ops L → i ≠ r := fun L hL hr i hi e => by
    subst e
    obtain ⟨k1, _⟩ := mem_ready.1 hi
    rw [hTF L i (by rw [hL]; exact h.rl), hr] at k1
    cases k1
  have hrd : ∀ (L L' : Array Bool), L.size = ops.size → L'.size + 1 = ops.size → L.getD r false = true → (∀ i, i ≠ r → L'.getD (q.getD i i) false = L.getD i false) → ∀ i, i ∈ Region.ready .any ops L → q.getD i i ∈ Region.ready .any (remOps r p q ops.toList).toArray L' := fun L L' hL hL' hr hg i hi => by
    have hir := hne L hL hr i hi
    obtain ⟨k1, o, k2, k3⟩ := mem_ready.1 hi
    have hlt : i < ops.size := (Array.getElem?_eq_some_iff.1 k2).1
    refine mem_ready.2 ⟨?_, _, h.get hir k2, fun e he hb => ?_⟩
    · rw [hTF L' _ (by have := (h.to i hlt hir).1; omega), hg i hir, ← hTF L i (by omega)]; exact k1
    · simp only [remOp] at he
      obtain ⟨e0, he0, rfl⟩ := Array.mem_map.1 he
      obtain ⟨he1, he2⟩ := Array.mem_filter.1 he0
      show L'.getD (q.getD e0.on e0.on) false = true
      rw [hg _ (by simpa using he2)]
      exact k3 e0 he1 hb
  intro f
  induction f with
  | zero =>
    intro L L' a w hL hL' hr hg hw
    refine ⟨List.eq_nil_iff_forall_not_mem.2 fun i hi => ?_, hw.2⟩
    have := hrd L L' hL hL' hr hg i hi
    rw [hw.1] at this
    cases this
  | succ f ih =>
    intro L L' a w hL hL' hr hg hw
    refine ⟨fun h0 => ?_, fun i hi => ?_⟩
    · by_cases hrr : Region.ready .any (remOps r p q ops.toList).toArray L' = []
      · exact hw.1 hrr
      · exfalso
        obtain ⟨j, hj⟩ := List.exists_mem_of_ne_nil _ hrr
        obtain ⟨k1, o, k2, k3⟩ := mem_ready.1 hj
        have hjn : j < p.length := by
          have := (Array.getElem?_eq_some_iff.1 k2).1
          simpa only [List.size_toArray, remOps, List.length_map] using this
        obtain ⟨f1, f2, f3⟩ := h.fro j hjn
        have hqi : q.getD (p.getD j 0) (p.getD j 0) = j := by
          have hq := h.ql
          rw [List.getD_eq_getElem?_getD, List.getElem?_eq_getElem (by omega)] at f3 ⊢
          exact f3
        obtain ⟨oi, hoi⟩ : ∃ oi, ops[p.getD j 0]? = some oi := ⟨_, Array.getElem?_eq_getElem f1⟩
        have hget := h.get f2 hoi
        rw [hqi] at hget
        rw [hget] at k2
        injection k2 with k2
        have : p.getD j 0 ∈ Region.ready .any ops L := by
          refine mem_ready.2 ⟨?_, oi, hoi, fun e he hb => ?_⟩
          · rw [hTF L _ (by omega), ← hg _ f2, hqi, ← hTF L' j (by omega)]; exact k1
          · by_cases her : e.on = r
            · rw [her]; exact hr
            · rw [← hg _ her]
              exact k3 (renE (fun j => q.getD j j) e) (by rw [← k2]; exact Array.mem_map.2 ⟨e, Array.mem_filter.2 ⟨he, by simpa using her⟩, rfl⟩) hb
        rw [h0] at this
        cases this
    · have hir := hne L hL hr i hi
      have hri := hrd L L' hL hL' hr hg i hi
      have hop := hw.2 _ hri
      obtain ⟨_, o, hoi, _⟩ := mem_ready.1 hi
      have hlt : i < ops.size := (Array.getElem?_eq_some_iff.1 hoi).1
      have hnext : ∀ a' w', wpAny P .any (remOps r p q ops.toList).toArray Q f (L'.setIfInBounds (q.getD i i) true) a' w' → wpAny P .any ops Q f (L.setIfInBounds i true) a' w' := fun a' w' hk =>
        ih _ _ a' w' (by simpa using hL) (by simpa using hL') (by
          rw [Array.getD_eq_getD_getElem?, Array.getElem?_setIfInBounds, if_neg hir, ← Array.getD_eq_getD_getElem?]; exact hr) (fun j hj => by
          have hqi := (h.to i hlt hir).1
          have := hg j hj
          rw [Array.getD_eq_getD_getElem?, Array.getD_eq_getD_getElem?] at this
          rw [Array.getD_eq_getD_getElem?, Array.getD_eq_getD_getElem?, Array.getElem?_setIfInBounds, Array.getElem?_setIfInBounds]
          by_cases e : j = i
          · subst e
            rw [if_pos rfl, if_pos rfl, if_pos (by omega), if_pos (by omega)]
          · rw [if_neg (fun e2 => e (h.inj hj hir e2.symm)), if_neg (fun e2 => e e2.symm)]
            exact this) hk
      have hop2 := wpOp_mono hnext hop
      unfold wpOp at hop2 ⊢
      rw [h.get hir hoi] at hop2
      rw [hoi]
      simp only at hop2 ⊢
      have hwant : Region.wanted (remOp r (fun j => q.getD j j) o) (Go.yielded (remOps r p q ops.toList).toArray a.tmps) = Region.wanted o (Go.yielded ops a.tmps) := by
        unfold Region.wanted remOp
        cases hgd : o.guard with
        | none => rfl
        | some g =>
          obtain ⟨j, b⟩ := g
          simp only [Option.map_some]
          rw [h.yielded a.tmps (h.gd i o j b hoi hgd)]
      rw [hwant] at hop2
      exact hop2

/-- THE ADDRESS OF A FIELD, AHEAD OF ALL ELSE. -/
theorem draw_early (hT : TabOK P T) (r : Nat) (p q : List Nat) {ops ops' : Array Oper} {Q : Exit → Act → World → Prop} {o : Oper} {t : TypeId} {x : Operand} {j : Nat} {y : AV} (ho : ops[r]? = some o) (hop : o.op = .fieldAddr t x j) (hg : o.guard = none)
    (hQ : ∀ c a w, ¬ Q (.panic c) a w) (h1 : remOK r p q ops = true) (h2 : firstOK r o ops = true) (he : (remOps r p q ops.toList).toArray = ops') {z : AV} (hx : evS σ x = (True, z)) (hy : fieldAddrAV T t z j = some y)
    (hk : DrawOK P C ops' Q 0 (σ.put o.dst y)) : DrawOK P C ops Q 0 σ := by
  subst he
  have hF := rem_facts h1
  have hrl := hF.rl
  have hpl := hF.pl
  intro a w ⟨μ, S, hi⟩
  have hv := hi.evS x (by rw [hx]; trivial)
  rw [hx] at hv
  obtain ⟨u, hu, hr⟩ := field_any hT hy hv
  have hrel : Rel C (σ.put o.dst y) (a.put o.dst u) w := ⟨μ, S, hi.put o.dst hr⟩
  have hk' := hk _ _ hrel
  have hs : (remOps r p q ops.toList).toArray.size + 1 = ops.size := by simp [remOps, hpl]
  obtain ⟨n, hn⟩ : ∃ n, ops.size = n + 1 := ⟨ops.size - 1, by omega⟩
  have hsz : (remOps r p q ops.toList).toArray.size = n := by omega
  unfold firstOK at h2
  rw [Bool.and_eq_true] at h2
  have hafter : o.after = #[] := Array.isEmpty_iff.1 h2.1
  have hd0 : ∀ (m i : Nat) (d : Bool), (doneTo m 0).getD i d = if i < m then false else d := fun m i d => by rw [doneTo_get]; simp
  rw [hn, Nat.sub_zero]
  refine wpAny_first (v := u) ho hF.sel (fun c a w hc => absurd hc (hQ c _ _)) n _ a w (fun k oj hoj hkr _ hw => ?_) (mem_ready.2 ⟨?_, o, ho, fun e he => by rw [hafter] at he; simp at he⟩) (.inl ⟨by rw [Region.wanted, hg], fun w' => ?_⟩) ?_
  · have := List.all_eq_true.1 h2.2 k (List.mem_range.2 (Array.getElem?_eq_some_iff.1 hoj).1)
    rw [hoj] at this
    simp only [Bool.or_eq_true, beq_iff_eq, Array.any_eq_true', Bool.and_eq_true] at this
    rcases this with h | ⟨e, he, hb, hon⟩ | h
    · exact absurd h hkr
    · exact absurd hon (hw e he hb)
    · exact h
  · rw [← hn, hd0, if_pos hrl]
  · have e1 : a.eval x = a.eval x := rfl
    have := hu w'
    simp [execOp, hop, this]
  · rw [hsz, Nat.sub_zero] at hk'
    refine rem_any hF n _ _ _ _ (by simp [doneTo, hn]) (by simp [doneTo, hn]) ?_ (fun i hi => ?_) hk'
    · rw [Array.getD_eq_getD_getElem?, Array.getElem?_setIfInBounds, if_pos rfl, if_pos (by simp [doneTo]; omega)]; rfl
    · have e2 : ((doneTo (n + 1) 0).setIfInBounds r true).getD i false = (doneTo (n + 1) 0).getD i false := by
        rw [Array.getD_eq_getD_getElem?, Array.getElem?_setIfInBounds, if_neg (fun e => hi e.symm), ← Array.getD_eq_getD_getElem?]
      rw [e2, hd0, hd0]
      split <;> split <;> rfl
end
end Go.Eng

namespace Go.Eng
section
variable {P : Program} {T : Tab} {C : Ctx} {σ σ' : St}

theorem sub_app (ids : List Nat) : ∀ (A B : List (Nat × Blk)), sub ids (A ++ B) = sub ids A ++ sub ids B
  | [], _ => rfl
  | p :: r, B => by
    simp only [List.cons_append, sub, sub_app ids r B]
    split <;> rfl
theorem sub_sub (ids : List Nat) : ∀ A : List (Nat × Blk), sub ids (sub ids A) = sub ids A
  | [] => rfl
  | p :: r => by
    simp only [sub]
    split
    · rename_i h; simp only [sub, h, if_true, sub_sub ids r]
    · exact sub_sub ids r
theorem sub_del (ids : List Nat) : ∀ A : List (Nat × Blk), sub ids (del ids A) = []
  | [] => rfl
  | p :: r => by
    simp only [del]
    split
    · exact sub_del ids r
    · rename_i h; simp only [sub, h, sub_del ids r]; rfl

/-- what 'ids' name, put ahead -/
def front (ids : List Nat) (A : List (Nat × Blk)) (s : St) : St := ⟨s.tm, sub ids A ++ del ids s.hp⟩
theorem front_sub (ids : List Nat) (A : List (Nat × Blk)) (s : St) : sub ids (front ids A s).hp = sub ids A := by
  show sub ids (sub ids A ++ del ids s.hp) = _
  rw [sub_app, sub_sub, sub_del, List.append_nil]
theorem front_get {ids : List Nat} {A : List (Nat × Blk)} {s : St} (h : ∀ i, ids.contains i = true → hget s.hp i = hget A i) (i : Nat) : hget (front ids A s).hp i = hget s.hp i := by
  show hget (sub ids A ++ del ids s.hp) i = _
  rw [hget_append]
  by_cases hi : ids.contains i = true
  · by_cases he : ∃ b, b ∈ sub ids A ∧ b.1 = i
    · rw [if_pos he, hget_sub, if_pos hi, h i hi]
    · rw [if_neg he, hget_del, if_pos hi, h i hi]
      cases e : hget A i with
      | none => rfl
      | some b =>
        have h2 : hget (sub ids A) i = some b := by rw [hget_sub, if_pos hi]; exact e
        exact absurd ⟨_, hget_mem h2, rfl⟩ he
  · rw [if_neg, hget_del, if_neg hi]
    rintro ⟨b, hb, rfl⟩
    have : ∀ A : List (Nat × Blk), b ∈ sub ids A → ids.contains b.1 = true := fun A => by
      induction A with
      | nil => intro h; cases h
      | cons p r ih =>
        intro h
        simp only [sub] at h
        split at h
        · rename_i hc
          rcases List.mem_cons.1 h with rfl | h
          · exact hc
          · exact ih h
        · exact ih h
    exact hi (this _ hb)

theorem hget_hsetAll_app {K : List (Nat × Blk)} (hnd : (K.map (·.1)).Nodup) (A : List (Nat × Blk)) (i : Nat) : hget (hsetAll A K) i = hget (K ++ A) i := by
  rw [hget_hsetAll i K _ hnd, hget_append]
  by_cases e : ∃ b, b ∈ K ∧ b.1 = i
  · rw [if_pos e]
    obtain ⟨b, hb, rfl⟩ := e
    have : ∀ K : List (Nat × Blk), b ∈ K → (hget K b.1).isSome = true := fun K => by
      induction K with
      | nil => intro h; cases h
      | cons q r ih =>
        intro h
        simp only [hget]
        split
        · rfl
        · rename_i hne
          rcases List.mem_cons.1 h with rfl | h
          · exact absurd rfl hne
          · exact ih h
    rw [if_pos (this K hb)]
  · rw [if_neg e]
    cases e2 : hget K i with
    | none => rfl
    | some b => exact absurd ⟨_, hget_mem e2, rfl⟩ e

/-- such a call, at every state that agrees -/
theorem trip_callS {ops : Array Oper} {o : Oper} {c : Operand} {args : Array Operand} {ats : Array TypeId} (ho : o.op = .call { callee := .value c, args, argTypes := ats }) {p : Prop} {f : FuncId} {xs : List AV}
    (h : callArgs σ c args.toList = some (p, f, xs)) (hp : p) (hc : Callable P f) (ids : List Nat) {K : List (Nat × Blk)} {r : AV}
    (hck : ((refsL xs).all ids.contains && (refs r).all ids.contains && ids.all (fun i => decide (i < 5000) && (hget K i).isSome) && K.all (fun q => ids.contains q.1)) = true) (hnd : (K.map (·.1)).Nodup)
    (hpin : (ids.all fun i => match hget (sub ids σ.hp) i with | some b => pinnable b | none => false) = true) (hc1 : ((sub ids σ.hp).all fun q => (refsB q.2).all ids.contains) = true) (hc2 : (K.all fun q => (refsB q.2).all ids.contains) = true)
    (hf : ∀ G Y N : Nat → Nat, FnOK P f xs (sub ids σ.hp ++ pins ids G Y N) fun r' H' => r' = r ∧ ∀ i b, hget (K ++ pins ids G Y N) i = some b → hget H' i = some b)
    {s : St} (ha : ∀ x, x ∈ locsG ops o.guard ++ ((locsO σ c ++ locsL σ args.toList) ++ ids.map Loc.blk) → AgreeAt σ s x) {τ : St} (h1 : τ.tm = (St.put ⟨s.tm, []⟩ o.dst r).tm) (h2 : ∀ i, hget τ.hp i = hget (K ++ s.hp) i) : Trip P C o s τ := by
  have hag : ∀ i, ids.contains i = true → hget s.hp i = hget σ.hp i := fun i hi => ha (.blk i) (List.mem_append_right _ (List.mem_append_right _ (List.mem_map.2 ⟨i, by simpa using hi, rfl⟩)))
  have hca : callArgs s c args.toList = callArgs σ c args.toList := callArgs_agree fun x hx => ha x (List.mem_append_right _ (List.mem_append_left _ hx))
  have hfg := front_get (ids := ids) (A := σ.hp) (s := s) hag
  have hca2 : callArgs (front ids σ.hp s) c args.toList = some (p, f, xs) := by
    rw [← h, ← hca]
    refine callArgs_agree fun x _ => ?_
    cases x with
    | tm t => rfl
    | blk i => exact hfg i
  have hl1 : Le C s (front ids σ.hp s) := rel_same rfl (fun _ => rfl) (fun i => (hfg i).symm)
  intro a w Kp Q hrel hK
  have hs := front_sub ids σ.hp s
  refine trip_callP ho hca2 hp hc ids hs hck hnd hpin hc1 hc2 hf rfl a w Kp Q (hl1 a w hrel) fun a' w' hr' => hK a' w' (rel_same ?_ ?_ ?_ a' w' hr')
  · rw [h1]; cases o.dst <;> simp [St.put, front]
  · intro t; rw [h1]; cases o.dst <;> rfl
  · intro i
    rw [St.put_hp, h2]
    show hget (hsetAll (front ids σ.hp s).hp K) i = hget (K ++ s.hp) i
    rw [hget_hsetAll_app hnd, hget_append, hget_append, hfg]

/-- A CALL THAT TURNS WHAT 'ids' NAME IN ITS PLACE, in a region that draws. -/
theorem seg_callP {ops : Array Oper} {Q : Exit → Act → World → Prop} {k n : Nat} {acc : Skel} {o : Oper} {l : List Oper} {c : Operand} {args : Array Operand} {ats : Array TypeId} (ho : o.op = .call { callee := .value c, args, argTypes := ats }) (hg : o.guard = none) {p : Prop} {f : FuncId} {xs : List AV}
    (h : callArgs σ c args.toList = some (p, f, xs)) (hp : p) (hc : Callable P f) (ids : List Nat) {H K : List (Nat × Blk)} {r : AV} (hH : sub ids σ.hp = H)
    (hck : ((refsL xs).all ids.contains && (refs r).all ids.contains && ids.all (fun i => decide (i < 5000) && (hget K i).isSome) && K.all (fun q => ids.contains q.1)) = true) (hnd : (K.map (·.1)).Nodup)
    (hpin : (ids.all fun i => match hget H i with | some b => pinnable b | none => false) = true) (hc1 : (H.all fun q => (refsB q.2).all ids.contains) = true) (hc2 : (K.all fun q => (refsB q.2).all ids.contains) = true)
    (hf : ∀ G Y N : Nat → Nat, FnOK P f xs (H ++ pins ids G Y N) fun r' H' => r' = r ∧ ∀ i b, hget (K ++ pins ids G Y N) i = some b → hget H' i = some b)
    {sk : List Loc × List Loc} (hs : ((match o.dst with | some t => [Loc.tm t] | none => []) ++ K.map (fun b => Loc.blk b.1), locsG ops o.guard ++ ((locsO σ c ++ locsL σ args.toList) ++ ids.map Loc.blk)) = sk)
    (ha : (⟨σ.tm, hsetAll σ.hp K⟩ : St).put o.dst r = σ') (hk : SegFrom P C ops Q k n (acc ++ [sk]) l σ') : SegFrom P C ops Q k n acc (o :: l) σ := by
  subst hs ha hH
  have hKi : ∀ b, b ∈ K → ids.contains b.1 = true := fun b hb => by
    simp only [Bool.and_eq_true] at hck
    exact List.all_eq_true.1 hck.2 b hb
  have hrob : Rob P C ops o ⟨o.dst, r, K, locsG ops o.guard ++ ((locsO σ c ++ locsL σ args.toList) ++ ids.map Loc.blk)⟩ σ := by
    intro s ha _ a w Kp Q ⟨μ, S, hi⟩ hK
    have hgs : guardOf ops s o.guard = some true := by rw [hg]; rfl
    rw [wanted_of hi hgs]
    refine .inl (trip_callS ho h hp hc ids hck hnd hpin hc1 hc2 hf ha ?_ (fun i => ?_) a w Kp Q ⟨μ, S, hi⟩ hK)
    · unfold Sp.app; cases o.dst <;> rfl
    · unfold Sp.app; rw [St.put_hp]
  refine seg_robN hrob (fun b hb hno => absurd ?_ hno) rfl rfl (SegFrom.sim ⟨?_, ?_⟩ hk)
  · exact List.mem_append_right _ (List.mem_append_right _ (List.mem_map.2 ⟨b.1, by simpa using hKi b hb, rfl⟩))
  · unfold Sp.app; cases o.dst <;> rfl
  · intro i
    unfold Sp.app
    rw [St.put_hp, St.put_hp]
    exact (hget_hsetAll_app hnd σ.hp i).symm

/-- A CALL THAT LOOKS AT WHAT 'ids' NAME, and leaves it as it is, in a region that draws. -/
theorem seg_callK {ops : Array Oper} {Q : Exit → Act → World → Prop} {k n : Nat} {acc : Skel} {o : Oper} {l : List Oper} {c : Operand} {args : Array Operand} {ats : Array TypeId} (ho : o.op = .call { callee := .value c, args, argTypes := ats }) (hg : o.guard = none) {p : Prop} {f : FuncId} {xs : List AV}
    (h : callArgs σ c args.toList = some (p, f, xs)) (hp : p) (hc : Callable P f) (ids : List Nat) {H : List (Nat × Blk)} {r : AV} (hH : sub ids σ.hp = H)
    (hck : ((refsL xs).all ids.contains && (refs r).all ids.contains && ids.all (fun i => decide (i < 5000) && (hget H i).isSome) && H.all (fun q => ids.contains q.1)) = true) (hnd : (H.map (·.1)).Nodup)
    (hpin : (ids.all fun i => match hget H i with | some b => pinnable b | none => false) = true) (hc1 : (H.all fun q => (refsB q.2).all ids.contains) = true)
    (hf : ∀ G Y N : Nat → Nat, FnOK P f xs (H ++ pins ids G Y N) fun r' H' => r' = r ∧ ∀ i b, hget (H ++ pins ids G Y N) i = some b → hget H' i = some b)
    {sk : List Loc × List Loc} (hs : ((match o.dst with | some t => [Loc.tm t] | none => []), locsG ops o.guard ++ ((locsO σ c ++ locsL σ args.toList) ++ ids.map Loc.blk)) = sk)
    (ha : σ.put o.dst r = σ') (hk : SegFrom P C ops Q k n (acc ++ [sk]) l σ') : SegFrom P C ops Q k n acc (o :: l) σ := by
  subst hs ha hH
  have hrob : Rob P C ops o ⟨o.dst, r, [], locsG ops o.guard ++ ((locsO σ c ++ locsL σ args.toList) ++ ids.map Loc.blk)⟩ σ := by
    intro s ha _ a w Kp Q ⟨μ, S, hi⟩ hK
    have hgs : guardOf ops s o.guard = some true := by rw [hg]; rfl
    rw [wanted_of hi hgs]
    refine .inl (trip_callS ho h hp hc ids hck hnd hpin hc1 hc1 hf ha ?_ (fun i => ?_) a w Kp Q ⟨μ, S, hi⟩ hK)
    · unfold Sp.app; cases o.dst <;> rfl
    · unfold Sp.app
      rw [St.put_hp]
      show hget s.hp i = _
      rw [hget_append]
      split
      · rename_i he
        obtain ⟨b, hb, rfl⟩ := he
        have hib : ids.contains b.1 = true := by
          simp only [Bool.and_eq_true] at hck
          exact List.all_eq_true.1 hck.2 b hb
        rw [hget_sub, if_pos hib]
        exact ha (.blk b.1) (List.mem_append_right _ (List.mem_append_right _ (List.mem_map.2 ⟨b.1, by simpa using hib, rfl⟩)))
      · rfl
  refine seg_rob hrob rfl ?_ ?_ hk
  · unfold Sp.wr; cases o.dst <;> simp
  · unfold Sp.app; cases o.dst <;> rfl
end
end Go.Eng

namespace Go.Eng
section
variable {P : Program} {T : Tab} {C : Ctx} {σ : St} {Ret : St → Prop}

theorem leAny_kill (id : Nat) : ∀ l : List AV, leAny l (l.map (kill id))
  | [] => trivial
  | x :: l => by
    refine ⟨?_, leAny_kill id l⟩
    unfold kill
    split
    · exact .inl rfl
    · exact .inr rfl
theorem hset_hset_get (h : List (Nat × Blk)) (id : Nat) (b c : Blk) (i : Nat) : hget (hset (hset h id b) id c) i = hget (hset h id c) i := by
  simp only [hget_hset]
  split <;> rfl

/-- a block told longer than it was known: nothing is known of what lies behind -/
theorem Inv.pad {μ : Nat → Option Nat} {S : Nat → Prop} {a : Act} {w : World} (hi : Inv C μ S σ a w) {id e s m n : Nat} {R : List (List AV)} (hb : hget σ.hp id = some (.cells e s R)) {g : Nat} (hg : μ id = some g) {c : Array Value} (hc : w.heap[g]? = some (.cells c e (0, 0)))
    (hm : m ≤ R.length) (hn : (m + n) * s ≤ c.size) : Inv C μ S ⟨σ.tm, hset σ.hp id (.cells e s (R.take m ++ List.replicate n (List.replicate s .any)))⟩ a w := by
  refine ⟨hi.size, hi.defers, hi.tm, fun i b hb' => ?_, fun i q hq => ?_, hi.inj, hi.frm, hi.sb⟩
  · rw [hget_hset] at hb'
    split at hb'
    · rename_i e'
      injection hb' with hb'
      subst hb' e'
      rcases hi.hp id _ hb with ⟨_, k⟩ | ⟨g', c', k1, k2, k3, k4, k5⟩
      · rw [k] at hg; cases hg
      · rw [k1] at hg; injection hg with hg; subst hg
        rw [k2] at hc
        simp only [Option.some.injEq, Obj.cells.injEq] at hc
        obtain ⟨rfl, _⟩ := hc
        refine .inr ⟨g', c', k1, k2, ?_, fun row hr => ?_, fun i row hi' j x hx => ?_⟩
        · simp only [List.length_append, List.length_take, List.length_replicate, Nat.min_eq_left hm]; exact hn
        · rcases List.mem_append.1 hr with h | h
          · exact k4 row (List.mem_of_mem_take h)
          · rw [(List.mem_replicate.1 h).2]; simp
        · by_cases h : i < (R.take m).length
          · rw [List.getElem?_append_left h, List.getElem?_take] at hi'
            split at hi'
            · exact k5 i row hi' j x hx
            · cases hi'
          · rw [List.getElem?_append_right (by omega)] at hi'
            have h1 := (List.mem_replicate.1 (List.mem_of_getElem? hi')).2
            subst h1
            have h2 := (List.mem_replicate.1 (List.mem_of_getElem? hx)).2
            subst h2
            exact .any _
    · exact hi.hp i b hb'
  · obtain ⟨⟨b, k1⟩, k2⟩ := hi.dom i q hq
    refine ⟨?_, k2⟩
    rw [hget_hset]; split
    · exact ⟨_, rfl⟩
    · exact ⟨b, k1⟩

theorem cw_appendO (hT : TabOK P T) {k : List It} {all : Array Oper} {o : Oper} {l : List Oper} {x y : Operand} {t e : TypeId} (ho : o.op = .call { callee := .builtin .append, args := #[x, y], argTypes := #[t, t] }) (hgd : o.guard = none) (ht : T.und t = .sl e)
    {id s off len : Nat} {R rows : List (List AV)} {yv : AV} (hx : evS σ x = (True, .osl id s off len)) (hy : evS σ y = (True, yv)) (hsrc : srcRows σ yv = some rows) (hyl : ∀ id s off len, yv = .osl id s off len → rows.length = len) (hb : hget σ.hp id = some (.cells e s R))
    (hlen : 0 < len) (hR : off + len ≤ R.length) (hs : T.siz e = s) (hs0 : s ≠ 0) (hb0 : T.byt e ≠ 0) (hrl : rowsOf s rows) (hleaf : rowsLeaf rows = true) (hsz : (2 * (len + rows.length) + 768) * T.byt e ≤ 281474976710656) (hfree : HpFree id σ.hp)
    (hbf : BlkFree id (.cells e s (R ++ rows)))
    (h : ∀ off' : Nat, off' = off ∨ off' = 0 → Cw P C Ret (.ops all l :: k) (St.put ⟨σ.tm.map (kill id), hset σ.hp id (.cells e s ((R.drop (off - off')).take (off' + len) ++ rows))⟩ o.dst (.osl id s off' (len + rows.length)))) :
    Cw P C Ret (.ops all (o :: l) :: k) σ := by
  subst hs
  intro a w hrel
  show wpList P all _ (o :: l) a w
  unfold wpList
  obtain ⟨μ, S, hi⟩ := hrel
  rw [wanted_of hi (c := true) (by rw [hgd]; rfl)]
  refine .inl ?_
  have hty : P.underlying t = some (.slice e) := by have := hT.und t; rw [ht] at this; exact this
  have hvx := hi.evS x (by rw [hx]; trivial)
  have hvy := hi.evS y (by rw [hy]; trivial)
  rw [hx] at hvx; rw [hy] at hvy
  obtain ⟨vs, hvs⟩ := src_of hi hsrc hvy hrl hyl
  have hRt : ((R.drop off).take len).length = len := by simp; omega
  rcases hi.hp id _ hb with ⟨rfl, _⟩ | ⟨g', c, k1, k2, k3, k4, k5⟩
  · simp at hR; omega
  have hRl : rowsOf (T.siz e) ((R.drop off).take len) := fun row hr => k4 row (List.mem_of_mem_drop (List.mem_of_mem_take hr))
  obtain ⟨olds, hol⟩ := src_of hi (x := .osl id (T.siz e) off len) (rows := (R.drop off).take len) (size := T.siz e) (by simp [srcRows, hb]) hvx hRl (fun _ _ _ _ h => by injection h with _ _ _ h; rw [hRt, h])
  have hvx0 := hvx
  obtain ⟨A, cap, hav, hc, hor⟩ := hvx.inv_osl
  rcases hor with ⟨h1, _⟩ | ⟨g, e2, n, h1, hA, h3, h4⟩
  · omega
  rw [k1] at h1; injection h1 with h1; subst h1
  rw [rowSize, k2] at h3
  simp only [Option.some.injEq, Prod.mk.injEq] at h3
  obtain ⟨rfl, rfl⟩ := h3
  have hax : a.eval x = .slice (some ⟨g', off * T.siz e, none⟩) len cap := by rw [← hA]; exact hav
  have hno := rowsFree hbf
  have hv0 : ∀ u, u ∈ vs → u.oneCell' = true := vals_leaf hvs hleaf
  by_cases hroom : len + rows.length ≤ cap
  · -- in place
    have hr := run_append_in (ty := o.type) (A := some ⟨g', off * T.siz e, none⟩) (len := len) (cap := cap) hT hty hs0 hvs hroom
    have hcap : (off + len + rows.length) * T.siz e ≤ c.size := by
      rw [← h4]; exact Nat.mul_le_mul_right _ (by omega)
    have hi1 := hi.pad hb k1 k2 hR hcap
    have hl1 : (R.take (off + len)).length = off + len := by simp; omega
    obtain ⟨w', r1, r2⟩ := write_rows (P := P) hi1 (off := off + len) (new := rows) (vs := vs) (by rw [hget_hset, if_pos rfl]) k1 (by simp [hl1]) hvs.len hrl hv0 (fun i row hi j x hx => hvs.rd i row hi j x hx)
    have hov : overRows (R.take (off + len) ++ List.replicate rows.length (List.replicate (T.siz e) .any)) (off + len) rows = R.take (off + len) ++ rows := by
      unfold overRows
      rw [List.take_append_of_le_length (by omega), List.take_of_length_le (by omega), List.drop_eq_nil_of_le (by simp [hl1]), List.append_nil]
    rw [hov] at r2
    have hfr : (execOp a.eval o).run P w = .ok (.value (.slice (some ⟨g', off * T.siz e, none⟩) (len + rows.length) cap)) w' := by
      have e1 : off * T.siz e + len * T.siz e = (off + len) * T.siz e := by rw [Nat.add_mul]
      simp only [add_plain, e1, r1, Result.andThen_ok] at hr
      simp [execOp, ho, hax, resolve, invoke, builtin, hr]
    have r3 := r2.hpEq (H := hset σ.hp id (.cells e (T.siz e) (R.take (off + len) ++ rows))) (fun i => (hset_hset_get _ _ _ _ i).symm)
    have he : evS ⟨σ.tm, hset σ.hp id (.cells e (T.siz e) (R.take (off + len) ++ rows))⟩ x = evS σ x := by cases x <;> rfl
    have hv2 := r3.evS x (by rw [he, hx]; trivial)
    rw [he, hx, hax] at hv2
    obtain ⟨A2, cap2, hv3, _, hor2⟩ := hv2.inv_osl
    obtain ⟨μ3, S3, r4⟩ := le_any (C := C) (leAny_kill id σ.tm) a w' ⟨μ, S, r3⟩
    unfold Oper.wp
    rw [hfr]
    have hv4 := r4
    refine h off (.inl rfl) (a.put o.dst _) _ ⟨μ, S, Inv.put ?_ o.dst ?_⟩
    rw [Nat.sub_self, List.drop_zero]
    · exact ⟨by rw [r3.size]; simp, r3.defers, fun t x hx => by
        rw [List.getElem?_map] at hx
        cases e5 : σ.tm[t]? with
        | none => rw [e5] at hx; cases hx
        | some y =>
          rw [e5] at hx
          simp only [Option.map_some, Option.some.injEq] at hx
          subst hx
          have := r3.tm t y e5
          unfold kill
          split
          · exact .any _
          · exact this, r3.hp, r3.dom, r3.inj, r3.frm, r3.sb⟩
    · rcases hor2 with ⟨h5, _⟩ | ⟨g2, e3, n2, q1, q2, q3, q4⟩
      · omega
      · rw [k1] at q1; injection q1 with q1; subst q1
        injection hv3 with j1 j2 j3
        subst j3
        exact .osl id _ off _ cap _ hroom (.inr ⟨g', e3, n2, k1, rfl, q3, q4⟩)
  · -- a new block
    obtain ⟨nc, z, h1, h2, hgr⟩ := run_append_grow' (ty := o.type) hT hty hs0 hb0 (by rw [← hax]; exact hol) hvs hRt hroom hsz
    have hi1 := (hi.drop id hfree).drew
    have hfr : hget (σ.drop id).hp id = none := by simp only [St.drop, hget_hdel, if_true]
    have hnod : upd μ id none id = none := hi1.fresh hfr
    have hm : ∀ {v x}, Rd μ S w v x → id ∉ refs x → Rd (upd μ id none) S w.drew v x := fun h hn =>
      (h.other hn none).mono (fun _ _ => rfl) (fun _ h => h) (fun _ _ h => h) (fun _ _ _ => rfl)
    have hrun : (execOp a.eval o).run P w = .ok (.value (.slice (some ⟨w.heap.size, 0, none⟩) (len + rows.length) nc)) (w.drew.alloc (.cells (olds.toArray ++ vs.toArray ++ z) e)) := by
      simp [execOp, ho, hax, resolve, invoke, builtin, hgr]
    unfold Oper.wp
    rw [hrun]
    have hnew := hi1.new id hfr (.cells (olds.toArray ++ vs.toArray ++ z) e) (.cells e (T.siz e) ((R.drop off).take len ++ rows)) (.inr ⟨w.heap.size, _, by simp [upd], alloc_drew_new w _, by simp [hol.len, hvs.len, hRt, Nat.add_mul], fun row hrow => by
        rcases List.mem_append.1 hrow with h | h
        · exact hRl row h
        · exact hrl row h, ?_⟩)
    · have hnew' := hnew.hpEq (H := hset σ.hp id (.cells e (T.siz e) ((R.drop off).take len ++ rows))) (fun i => by
        simp only [St.drop, hget_hset, hget, hget_hdel]
        split <;> rfl)
      refine h 0 (.inr rfl) (a.put o.dst _) _ ⟨_, _, Inv.put (by rw [Nat.sub_zero, Nat.zero_add]; exact hnew') o.dst ?_⟩
      refine .osl id _ 0 _ nc _ h1 (.inr ⟨w.heap.size, e, _, if_pos rfl, by simp, ?_, rfl⟩)
      unfold rowSize
      rw [alloc_drew_new]
      simp only [Option.some.injEq, Prod.mk.injEq, true_and]
      simp only [Array.size_append, List.size_toArray, hol.len, hvs.len, hRt, h2, Nat.zero_add, ← Nat.add_mul]
      congr 1
      omega
    · have hup : ∀ {v x}, Rd (upd μ id none) S w.drew v x →
          Rd (upd (upd μ id none) id (some w.heap.size)) S (World.alloc w.drew (.cells (olds.toArray ++ vs.toArray ++ z) e)) v x := fun h =>
        h.mono (fun b hb => alloc_get _ _ b (hi1.sb b hb).1) (fun _ h => h) (fun i' g hg => by
          show (if i' = id then some w.heap.size else upd μ id none i') = some g
          rw [if_neg (by rintro rfl; rw [hnod] at hg; cases hg)]; exact hg) (fun i' g hg => rowSize_same (alloc_get _ _ g (hi1.dom i' g hg).2.2.2))
      have key := joined_rd (μ := upd μ id none) (S := S) (w := w.drew) (R := (R.drop off).take len) (rows := rows) (cs := olds.toArray ++ vs.toArray ++ z) (s := T.siz e) hol.len hRl hrl
        (fun i row hi' j x hx => hm (hol.rd i row hi' j x hx) (hno row (List.mem_append_left _ (List.mem_of_mem_drop (List.mem_of_mem_take (List.mem_of_getElem? hi')))) x (List.mem_of_getElem? hx)))
        (fun i row hi' j x hx => hm (hvs.rd i row hi' j x hx) (hno row (List.mem_append_right _ (List.mem_of_getElem? hi')) x (List.mem_of_getElem? hx))) hvs.len (fun k hk => by
          rw [Array.getD_eq_getD_getElem?, List.getD_eq_getElem?_getD, Array.getElem?_append_left (by simpa using hk)]
          simp [List.append_toArray])
      exact fun i row hi' j x hx => hup (key i row hi' j x hx)
end
end Go.Eng

namespace Go.Eng
section
variable {P : Program} {T : Tab} {C : Ctx} {σ : St} {Ret : St → Prop} {w : World}

/-! ### A map that is written no more -/
mutual
def frzM (id : Nat) (kvs : List (Int × AV)) : AV → AV
  | .mp i => if i = id then .rm kvs else .mp i
  | .ptr i size row off => if i = id then .any else .ptr i size row off
  | .osl i size off len => if i = id then .any else .osl i size off len
  | .exs i size off len cap => if i = id then .any else .exs i size off len cap
  | .agg cells => .agg (frzML id kvs cells)
  | .tup cells => .tup (frzML id kvs cells)
  | .fn f caps => .fn f (frzML id kvs caps)
  | .cnd c v => .cnd c (frzM id kvs v)
  | x => x
def frzML (id : Nat) (kvs : List (Int × AV)) : List AV → List AV
  | [] => []
  | x :: r => frzM id kvs x :: frzML id kvs r
end
theorem frzML_map (id : Nat) (kvs : List (Int × AV)) : ∀ l, frzML id kvs l = l.map (frzM id kvs)
  | [] => rfl
  | x :: r => by simp [frzML, frzML_map id kvs r]
def frzMB (id : Nat) (kvs : List (Int × AV)) : Blk → Blk
  | .cells e z R => .cells e z (R.map (frzML id kvs))
  | .map m => .map m
  | .iter m seen => .iter m seen
  | .cap j z N => if j = id then .cells 0 0 [] else .cap j z N
  | .pin j g z N => if j = id then .cells 0 0 [] else .pin j g z N
def frzMH (id : Nat) (kvs : List (Int × AV)) : List (Nat × Blk) → List (Nat × Blk)
  | [] => []
  | p :: r => if p.1 = id then frzMH id kvs r else (p.1, frzMB id kvs p.2) :: frzMH id kvs r
theorem hget_frzMH (id : Nat) (kvs : List (Int × AV)) (i : Nat) : ∀ H, hget (frzMH id kvs H) i = if i = id then none else (hget H i).map (frzMB id kvs)
  | [] => by simp [frzMH, hget]
  | (j, b) :: r => by
    have ih := hget_frzMH id kvs i r
    unfold frzMH
    by_cases h : j = id
    · subst h
      rw [if_pos rfl, ih]
      by_cases h2 : i = j
      · rw [if_pos h2, if_pos h2]
      · rw [if_neg h2, if_neg h2]; simp only [hget]; rw [if_neg (fun h => h2 h.symm)]
    · rw [if_neg h]
      simp only [hget]
      by_cases h2 : j = i
      · subst h2; rw [if_pos rfl, if_neg h, if_pos rfl]; rfl
      · rw [if_neg h2, if_neg h2]; exact ih
theorem RdP.frzM_eq {S : Nat → Prop} {v : Value} {x : AV} (h : RdP S w v x) (id : Nat) (kvs : List (Int × AV)) : frzM id kvs x = x := by
  have key : ∀ (l : List AV), (∀ (j : Nat) x, l[j]? = some x → frzM id kvs x = x) → frzML id kvs l = l := by
    intro l
    induction l with
    | nil => intro _; rfl
    | cons y r ih =>
      intro h
      simp only [frzML]
      rw [h 0 y rfl, ih (fun j x hj => h (j + 1) x (by simpa using hj))]
  induction h with
  | fn f vals caps hl hr ih => simp only [frzM]; rw [key caps ih]
  | agg cs cells hl hr ih => simp only [frzM]; rw [key cells ih]
  | _ => rfl
theorem frzM_list {id : Nat} {kvs : List (Int × AV)} {R' : Value → AV → Prop} {vals : Nat → Value} {cells : List AV} (h : ∀ j x, cells[j]? = some x → R' (vals j) (frzM id kvs x)) :
    ∀ j x, (frzML id kvs cells)[j]? = some x → R' (vals j) x := by
  intro j x hx
  rw [frzML_map, List.getElem?_map] at hx
  cases e : cells[j]? with
  | none => rw [e] at hx; cases hx
  | some y =>
    rw [e] at hx; simp only [Option.map_some, Option.some.injEq] at hx; subst hx
    exact h j y e

theorem inv_freezeM {l : List AV} {H : List (Nat × Blk)} {id : Nat} {kvs : List (Int × AV)} (hb : hget H id = some (.map kvs)) {μ : Nat → Option Nat} {S : Nat → Prop} {a : Act} (hi : Inv C μ S ⟨l, H⟩ a w) :
    Inv C (upd μ id none) (fun b => S b ∨ μ id = some b) ⟨l.map (frzM id kvs), frzMH id kvs H⟩ a w := by
  obtain ⟨g0, es0, clk0, vals0, b1, b2, b3, b4⟩ := hi.hp id _ hb
  let S2 : Nat → Prop := fun b => S b ∨ μ id = some b
  let μ2 : Nat → Option Nat := upd μ id none
  have hS : ∀ b, S b → S2 b := fun b h => .inl h
  have rd : ∀ {v : Value} {x : AV}, Rd μ S w v x → Rd μ2 S2 w v (frzM id kvs x) := by
    intro v x h
    induction h with
    | any v => exact .any v
    | pure h => rw [h.frzM_eq]; exact .pure (h.mono (SameOn.refl _ _) hS)
    | agg cs cells hl hr ih => simp only [frzM]; exact .agg cs _ (by rw [frzML_map, List.length_map]; exact hl) (frzM_list (R' := fun v x => Rd μ2 S2 w v x) (vals := fun j => cs.getD j undef) ih)
    | tup cs cells hl hr ih => simp only [frzM]; exact .tup cs _ (by rw [frzML_map, List.length_map]; exact hl) (frzM_list (R' := fun v x => Rd μ2 S2 w v x) (vals := fun j => cs.getD j undef) ih)
    | fn f vals cells hl hr ih => simp only [frzM]; exact .fn f vals _ (by rw [frzML_map, List.length_map]; exact hl) (frzM_list (R' := fun v x => Rd μ2 S2 w v x) (vals := fun j => vals.getD j undef) ih)
    | ptr i size row o g hg =>
      simp only [frzM]
      split
      · exact .any _
      · rename_i he
        exact .ptr i size row o g (by simp only [μ2, upd]; rw [if_neg he]; exact hg)
    | osl i size o len cap A hc h =>
      simp only [frzM]
      split
      · exact .any _
      · rename_i he
        refine .osl i size o len cap A hc ?_
        rcases h with h | ⟨g, e', n, h1, h2, h3, h4⟩
        · exact .inl h
        · exact .inr ⟨g, e', n, by simp only [μ2, upd]; rw [if_neg he]; exact h1, h2, h3, h4⟩
    | mp i g hg =>
      simp only [frzM]
      split
      · rename_i he
        subst he
        rw [b1] at hg; injection hg with hg; subst hg
        exact .pure (.rm g0 es0 clk0 kvs vals0 (.inr b1) b2 b3 (fun p hp => (b4 p hp).mono (SameOn.refl _ _) hS))
      · rename_i he
        exact .mp i g (by simp only [μ2, upd]; rw [if_neg he]; exact hg)
    | exs i size o len cap g e n hc hg hr hn =>
      simp only [frzM]
      split
      · exact .any _
      · rename_i he
        exact .exs i size o len cap g e n hc (by simp only [μ2, upd]; rw [if_neg he]; exact hg) hr hn
    | cndT v x h ih => exact .cndT v _ ih
    | cndF x => exact .cndF _
  have m2 : ∀ {i g}, μ2 i = some g → i ≠ id ∧ μ i = some g := fun {i g} hg => by
    simp only [μ2, upd] at hg
    split at hg
    · cases hg
    · exact ⟨by assumption, hg⟩
  refine ⟨by simp [hi.size], hi.defers, fun t x hx => ?_, fun i b hb' => ?_, fun i g hg => ?_, fun i j g h1 h2 => hi.inj i j g (m2 h1).2 (m2 h2).2, hi.frm, fun b hb' => ?_⟩
  · simp only [List.getElem?_map] at hx
    cases e : l[t]? with
    | none => rw [e] at hx; cases hx
    | some y =>
      rw [e] at hx
      simp only [Option.map_some, Option.some.injEq] at hx
      subst hx
      exact rd (hi.tm t y e)
  · simp only at hb'
    rw [hget_frzMH] at hb'
    split at hb'
    · cases hb'
    · rename_i he
      cases e1 : hget H i with
      | none => rw [e1] at hb'; cases hb'
      | some b0 =>
        rw [e1] at hb'
        simp only [Option.map_some, Option.some.injEq] at hb'
        subst hb'
        have hμ : μ2 i = μ i := by simp only [μ2, upd]; rw [if_neg he]
        have := hi.hp i b0 e1
        cases b0 with
        | cells e' z R =>
          rcases this with ⟨rfl, h2⟩ | ⟨g, c, h1, h2, h3, h4, h5⟩
          · exact .inl ⟨rfl, hμ.trans h2⟩
          · refine .inr ⟨g, c, hμ.trans h1, h2, by simpa using h3, fun row hrow => ?_, fun i' row hi' j x hx => ?_⟩
            · obtain ⟨r, hr, rfl⟩ := List.mem_map.1 hrow
              rw [frzML_map, List.length_map]; exact h4 r hr
            · rw [List.getElem?_map] at hi'
              cases e2 : R[i']? with
              | none => rw [e2] at hi'; cases hi'
              | some r =>
                rw [e2] at hi'; simp only [Option.map_some, Option.some.injEq] at hi'; subst hi'
                exact frzM_list (R' := fun v x => Rd μ2 S2 w v x) (vals := fun j => c.getD (i' * z + j) undef) (fun j x hx => rd (h5 i' r e2 j x hx)) j x hx
        | map kvs =>
          obtain ⟨g, es, clk, vals, h1, h2, h3, h4⟩ := this
          exact ⟨g, es, clk, vals, hμ.trans h1, h2, h3, fun p hp' => (h4 p hp').mono (SameOn.refl _ _) hS⟩
        | iter kvs seen =>
          obtain ⟨g, es, clk, vals, had, h1, h2, h4⟩ := this
          obtain ⟨m, k1, k2, k3⟩ := h2.lies
          exact ⟨g, es, clk, vals, had, hμ.trans h1, ⟨⟨m, k1, hS _ k2, k3⟩, h2.map, h2.last, h2.had⟩, fun p hp' => (h4 p hp').mono (SameOn.refl _ _) hS⟩
        | cap k z N =>
          obtain ⟨h1, g, e, h2, h3⟩ := this
          simp only [frzMB]
          split
          · exact .inl ⟨rfl, hμ.trans h1⟩
          · rename_i hk
            refine ⟨hμ.trans h1, g, e, ?_, h3⟩
            simp only [upd]
            rw [if_neg hk]; exact h2
        | pin k g z N =>
          obtain ⟨h1, h2, h3⟩ := this
          simp only [frzMB]
          split
          · exact .inl ⟨rfl, hμ.trans h1⟩
          · rename_i hk
            refine ⟨hμ.trans h1, ?_, h3⟩
            simp only [upd]
            rw [if_neg hk]; exact h2
  · obtain ⟨k1, k2⟩ := m2 hg
    obtain ⟨⟨b, h1⟩, h2, h3, h4⟩ := hi.dom i g k2
    refine ⟨⟨frzMB id kvs b, ?_⟩, h2, ?_, h4⟩
    · simp only at h1 ⊢
      rw [hget_frzMH, if_neg k1, h1]; rfl
    · rintro (h | h)
      · exact h3 h
      · exact k1 (hi.inj _ _ _ k2 h)
  · rcases hb' with h | h
    · exact hi.sb b h
    · obtain ⟨_, h2, _, h4⟩ := hi.dom id b h
      exact ⟨h4, .inr h2⟩
/-- A MAP THAT IS HELD IS WRITTEN NO MORE. -/
theorem cw_freezeM {k : List It} {l : List AV} {H : List (Nat × Blk)} (id : Nat) {kvs : List (Int × AV)} (hb : hget H id = some (.map kvs)) (h : Cw P C Ret k ⟨l.map (frzM id kvs), frzMH id kvs H⟩) : Cw P C Ret k ⟨l, H⟩ :=
  cw_le (fun _ _ ⟨_, _, hi⟩ => ⟨_, _, inv_freezeM hb hi⟩) h
attribute [go_sem] frzM frzML frzMB frzMH

/-! ### A map that is gone through -/
theorem cw_range (hT : TabOK P T) {k : List It} {all : Array Oper} {o : Oper} {l : List Oper} {t : TypeId} {x : Operand} {d : Nat} (ho : o.op = .range t x) (hd : o.dst = some d) (hg : o.guard = none) {kt et : TypeId} (ht : T.und t = .map kt et) {kvs : List (Int × AV)}
    (hx : evS σ x = (True, .rm kvs)) (hf : hget σ.hp d = none) (h : Cw P C Ret (.ops all l :: k) ⟨σ.tm.set d (.ptr d 1 0 0), (d, .iter kvs []) :: σ.hp⟩) : Cw P C Ret (.ops all (o :: l) :: k) σ := by
  refine cw_step (by rw [hg]; rfl) (fun a w K Q ⟨μ, S, hi⟩ hK => ?_) h
  have hv := hi.evS x (by rw [hx]; trivial)
  rw [hx] at hv
  obtain ⟨g, es, clk, vals, hv', h1, h2, h3, h4⟩ := (Rd.inv_rm hv).inv_rm
  have hty : P.underlying t = some (.map kt et) := by have := hT.und t; rw [ht] at this; exact this
  have hax : a.eval x = .map (some g) := hv'
  have hrun : (execOp a.eval o).run P w = .ok (.value (.pointer (some ⟨w.heap.size, 0, none⟩))) (w.alloc (.mapIter (some g) clk #[] clk)) := by
    simp [execOp, ho, hax, run_range_map w t kt et g es clk hty h2]
  unfold Oper.wp
  rw [hrun]
  have hlt := (hi.sb g h1).1
  have hnew := hi.new d hf (.mapIter (some g) clk #[] clk) (.iter kvs []) ⟨w.heap.size, es, clk, vals, #[], by simp [upd], ⟨⟨g, alloc_new w _, h1, by rw [alloc_get w _ g hlt]; exact h2⟩, h3, fun k r h => (by cases h), fun e he k hk => by simp⟩,
    fun p hp => (h4 p hp).mono (fun b hb => alloc_get w _ b (hi.sb b hb).1) (fun _ h => h)⟩
  have hput := hnew.put o.dst (u := .pointer (some ⟨w.heap.size, 0, none⟩)) (x := .ptr d 1 0 0) (by
    have := Rd.ptr (μ := upd μ d (some w.heap.size)) (S := S) (w := w.alloc (.mapIter (some g) clk #[] clk)) d 1 0 0 w.heap.size (by simp [upd])
    simpa using this)
  rw [hd] at hput
  refine hK _ _ ⟨upd μ d (some w.heap.size), S, ?_⟩
  rw [hd]
  exact hput

theorem run_next_at {g bm since c0 : Nat} {seen : Array Nat} {es : Array MapEntry} {clock : Nat} (ty : TypeId) (hg : w.heap[g]? = some (.mapIter (some bm) since seen c0)) (hb : w.heap[bm]? = some (.map es clock)) (hold : ∀ x ∈ es.toList, x.born < since) (hsc : since ≤ c0) :
    ((leftOf es seen).size = 0 ∧ (Instr.next (.pointer (some ⟨g, 0, none⟩)) false ty).run P w = .ok (.tuple #[.bool false]) w) ∨
    ∃ e ∈ (leftOf es seen).toList, ∃ w1 : World, (w1 = w ∨ w1 = w.drew) ∧ (Instr.next (.pointer (some ⟨g, 0, none⟩)) false ty).run P w =
      ((setObj g (.mapIter (some bm) since (seen.push e.born) clock)).run P w1).andThen (fun _ w' => .ok (.tuple #[.bool true, e.key, e.val]) w') := by
  simp only [Instr.next, getObj, Sem.run_bind, Sem.run, hg, hb, Result.andThen, next_test_false seen es since c0 hold hsc, Bool.false_eq_true, if_false]
  unfold leftOf
  have hmem : ∀ x ∈ (Array.filter (fun e => !seen.contains e.born) es).toList, x.born < since := fun x hx => hold x (by simp at hx ⊢; exact hx.1)
  generalize Array.filter (fun e => !seen.contains e.born) es = L at hmem ⊢
  have e1 : L.filter (fun x => decide (x.born < since)) = L := Array.filter_eq_self.2 (fun x hx => by simpa using hmem x (by simpa using hx))
  have e2 : L.filter (fun x => decide (x.born ≥ since)) = #[] := by
    rw [Array.filter_eq_empty_iff]
    intro x hx
    have := hmem x (by simpa using hx)
    simp
    omega
  simp only [e1, e2, Array.append_empty]
  by_cases h0 : L.size = 0
  · left
    have : L = #[] := Array.eq_empty_of_size_eq_zero h0
    subst this
    refine ⟨rfl, ?_⟩
    simp [choose, Sem.run, Question.forced]
  · right
    have hne : L.isEmpty = false := by simp [Array.isEmpty, h0]
    simp only [hne, Bool.false_eq_true, if_false, Array.empty_append, Array.size_map]
    have hch : ∃ (j : Nat) (w1 : World), j < L.size ∧ (w1 = w ∨ w1 = w.drew) ∧ (choose (Question.mapNext L.size)).run P w = .ok j w1 := by
      by_cases hf : L.size ≤ 1
      · exact ⟨0, w, by omega, .inl rfl, by simp [choose, Sem.run, Question.forced, hf]⟩
      · exact ⟨_, w.drew, Nat.mod_lt _ (by omega), .inr rfl, by
          simp only [choose, Sem.run, Question.forced, decide_eq_true_eq, hf, if_false, Question.cut]
          rfl⟩
    obtain ⟨j, w1, hj, hw1, hrun⟩ := hch
    refine ⟨L[j], by simp, w1, hw1, ?_⟩
    simp only [hrun, Array.getElem?_map, Array.getElem?_eq_getElem hj, Option.map_some, Sem.run_bind, Result.andThen]
    rfl

theorem cw_next {k : List It} {all : Array Oper} {o : Oper} {l : List Oper} {x : Operand} {d : Nat} (ho : o.op = .next x false) (hg : o.guard = none) {kvs : List (Int × AV)} {seen : List Int}
    (hx : evS σ x = (True, .ptr d 1 0 0)) (hb : hget σ.hp d = some (.iter kvs seen)) (h1 : (∀ p, p ∈ kvs → p.1 ∈ seen) → Cw P C Ret (.ops all l :: k) (σ.put o.dst (.tup [.bool false])))
    (h2 : ∀ n v, (n, v) ∈ kvs → n ∉ seen → Cw P C Ret (.ops all l :: k) (St.put ⟨σ.tm, hset σ.hp d (.iter kvs (n :: seen))⟩ o.dst (.tup [.bool true, .int .i64 n, v]))) : Cw P C Ret (.ops all (o :: l) :: k) σ := by
  intro a w hrel
  show wpList P all _ (o :: l) a w
  unfold wpList
  obtain ⟨μ, S, hi⟩ := hrel
  rw [wanted_of hi (c := true) (by rw [hg]; rfl)]
  refine .inl ?_
  have hv := hi.evS x (by rw [hx]; trivial)
  rw [hx] at hv
  obtain ⟨g, hμ, hax⟩ := hv.inv_ptr
  obtain ⟨g', es, clk, vals, had, q1, q2, q3⟩ := hi.hp d _ hb
  rw [hμ] at q1; injection q1 with q1; subst q1
  obtain ⟨m, k1, k2, k3⟩ := q2.lies
  have hax' : a.eval x = .pointer (some ⟨g, 0, none⟩) := by simpa using hax
  have hcase := run_next_at (P := P) o.type k1 k3 (fun e he => q2.map.born e he) (Nat.le_refl _)
  unfold Oper.wp
  rcases hcase with ⟨c1, c2⟩ | ⟨e, c1, w1, c2, c3⟩
  · have hrun : (execOp a.eval o).run P w = .ok (.value (.tuple #[.bool false])) w := by
      simp [execOp, ho, hax', c2]
    rw [hrun]
    refine h1 (fun p hp => ?_) _ _ ⟨μ, S, hi.put o.dst (.tup _ _ rfl fun j y hy => ?_)⟩
    · obtain ⟨e, he, hk⟩ := q2.map.has p hp
      refine (q2.had e he p.1 hk).1 ?_
      cases hc : had.contains e.born with
      | true => rfl
      | false =>
        have : e ∈ (leftOf es had).toList := by unfold leftOf; simp at he hc ⊢; exact ⟨he, by simpa using hc⟩
        rw [Array.eq_empty_of_size_eq_zero c1] at this
        simp at this
    · match j, hy with
      | 0, hy => injection hy with hy; subst hy; exact .pure (.bool false)
      | j + 1, hy => simp at hy
  · have he : e ∈ es.toList ∧ had.contains e.born = false := by unfold leftOf at c1; simpa using c1
    obtain ⟨n, v, e1, e2, e3⟩ := q2.map.key e he.1
    have hn : n ∉ seen := fun hm => by rw [(q2.had e he.1 n e1).2 hm] at he; cases he.2
    have hi1 : Inv C μ S σ a w1 := by
      rcases c2 with rfl | rfl
      · exact hi
      · exact hi.drew
    have hh1 : w1.heap = w.heap := by rcases c2 with rfl | rfl <;> rfl
    have hw1 : w1.heap[g]? = some (.mapIter (some m) clk had clk) := by rw [hh1]; exact k1
    obtain ⟨w', r1, r2, r3, r4, r5, r6, r7⟩ := run_setObj (P := P) (o := .mapIter (some m) clk (had.push e.born) clk) hw1 (fun _ _ _ h => nomatch h)
    have hrun : (execOp a.eval o).run P w = .ok (.value (.tuple #[.bool true, e.key, e.val])) w' := by
      rw [r1] at c3
      simp [execOp, ho, hax', c3]
    rw [hrun]
    have hS : ¬ S g := (hi.dom d g hμ).2.2.1
    have hw : SameOn S w w' := fun b hb => by rw [r6 b (by rintro rfl; exact hS hb), hh1]
    have hmg : m ≠ g := by rintro rfl; exact hS k2
    have hnd : (es.toList.map (·.key)).Nodup := q2.map.once
    have hblk : BlkOK μ S w' d (.iter kvs (n :: seen)) := by
      refine ⟨g, es, clk, vals, had.push e.born, hμ, ⟨⟨m, r7, k2, by rw [r6 m hmg, hh1]; exact k3⟩, q2.map, fun k' r' hkr => ?_, fun e' he' k' hk' => ?_⟩, fun p hp => (q3 p hp).mono hw (fun _ h => h)⟩
      · injection hkr with h1 h2
        subst h1
        exact ⟨e, he.1, e1, by simp⟩
      · rw [List.mem_cons]
        have h0 := q2.had e' he' k' hk'
        have hc : (had.push e.born).contains e'.born = (had.contains e'.born || e'.born == e.born) := by
          rw [Bool.eq_iff_iff]; simp
        rw [hc, Bool.or_eq_true, h0, beq_iff_eq]
        constructor
        · rintro (h | h)
          · exact .inr h
          · left
            -- one stamp, one entry
            have : e' = e := by
              have hb := q2.map.nodup
              obtain ⟨i, hi⟩ := List.getElem?_of_mem he'
              obtain ⟨j, hj⟩ := List.getElem?_of_mem he.1
              have h1 : (es.toList.map (·.born))[i]? = some e.born := by rw [List.getElem?_map, hi, ← h]; rfl
              have h2 : (es.toList.map (·.born))[j]? = some e.born := by rw [List.getElem?_map, hj]; rfl
              have := nodup_idx hb h1 h2
              subst this
              rw [hi] at hj; injection hj
            subst this
            rw [e1] at hk'
            injection hk' with _ hk'
            exact hk'.symm
        · rintro (h | h)
          · right
            subst h
            have : e' = e := by
              obtain ⟨i, hi⟩ := List.getElem?_of_mem he'
              obtain ⟨j, hj⟩ := List.getElem?_of_mem he.1
              have h1 : (es.toList.map (·.key))[i]? = some (.int .i64 k') := by rw [List.getElem?_map, hi, ← hk']; rfl
              have h2 : (es.toList.map (·.key))[j]? = some (.int .i64 k') := by rw [List.getElem?_map, hj, ← e1]; rfl
              have := nodup_idx hnd h1 h2
              subst this
              rw [hi] at hj; injection hj
            rw [this]
          · exact .inl h
    have hi2 := hi1.write d g hμ r2 r3 r4 r5 r6 (by simp [rowSize, r7, hw1]) _ hblk
    refine h2 n v e2 hn _ _ ⟨μ, S, Inv.put hi2 o.dst (.tup _ _ rfl fun j y hy => ?_)⟩
    match j, hy with
    | 0, hy => injection hy with hy; subst hy; exact .pure (.bool true)
    | 1, hy =>
      injection hy with hy; subst hy
      show Rd μ S w' e.key (.int .i64 n)
      rw [e1]; exact .pure (.int .i64 n)
    | 2, hy =>
      injection hy with hy; subst hy
      show Rd μ S w' e.val v
      rw [e3]; exact .pure ((q3 (n, v) e2).mono hw (fun _ h => h))
    | j + 3, hy => simp at hy

theorem cw_entry {k : List It} {all : Array Oper} {o : Oper} {l : List Oper} {x : Operand} {d : Nat} (ho : o.op = .entry x) (hg : o.guard = none) {kvs : List (Int × AV)} {n : Int} {seen : List Int} {v : AV}
    (hx : evS σ x = (True, .ptr d 1 0 0)) (hb : hget σ.hp d = some (.iter kvs (n :: seen))) (hv : (n, v) ∈ kvs) (h : Cw P C Ret (.ops all l :: k) (σ.put o.dst (.tup [.int .i64 n, v]))) : Cw P C Ret (.ops all (o :: l) :: k) σ := by
  refine cw_step (by rw [hg]; rfl) (fun a w K Q ⟨μ, S, hi⟩ hK => ?_) h
  have hvx := hi.evS x (by rw [hx]; trivial)
  rw [hx] at hvx
  obtain ⟨g, hμ, hax⟩ := hvx.inv_ptr
  obtain ⟨g', es, clk, vals, had, q1, q2, q3⟩ := hi.hp d _ hb
  rw [hμ] at q1; injection q1 with q1; subst q1
  obtain ⟨m, k1, k2, k3⟩ := q2.lies
  have hax' : a.eval x = .pointer (some ⟨g, 0, none⟩) := by simpa using hax
  obtain ⟨e, he, hk, hl⟩ := q2.last n seen rfl
  have hf : es.find? (·.born == e.born) = some e := by rw [← Array.find?_toList]; exact find_born e es.toList q2.map.nodup he
  have hrun : (execOp a.eval o).run P w = .ok (.value (.tuple #[e.key, e.val])) w := by
    have h0 : (Instr.entry (.pointer (some ⟨g, 0, none⟩))).run P w = .ok (.tuple #[e.key, e.val]) w := by
      simp only [Instr.entry, getObj, Sem.run_bind, Sem.run, k1, k3, Result.andThen, hl, bne_self_eq_false, Bool.false_eq_true, if_false, hf]
      rfl
    simp [execOp, ho, hax', h0]
  unfold Oper.wp
  rw [hrun]
  obtain ⟨n', v', e1, e2, e3⟩ := q2.map.key e he
  rw [hk] at e1; injection e1 with _ e1; subst e1
  have hvv : v' = v := by
    have h1 := mget_of_mem q2.map.rise e2
    have h2 := mget_of_mem q2.map.rise hv
    rw [h1] at h2; injection h2
  subst hvv
  refine hK _ _ ⟨μ, S, hi.put o.dst (.tup _ _ rfl fun j y hy => ?_)⟩
  match j, hy with
  | 0, hy =>
    injection hy with hy; subst hy
    show Rd μ S w e.key (.int .i64 n)
    rw [hk]; exact .pure (.int .i64 n)
  | 1, hy =>
    injection hy with hy; subst hy
    show Rd μ S w e.val v'
    rw [e3]; exact .pure (q3 (n, v') e2)
  | j + 2, hy => simp at hy
end
end Go.Eng

namespace Go.Eng
section
variable {P : Program} {T : Tab} {C : Ctx} {σ : St} {Ret : St → Prop} {k : List It}

def mv1 (p q : Nat) : AV → AV
  | .osl id s o l => if id = p then .osl q s o l else .osl id s o l
  | .ptr id s r o => if id = p then .ptr q s r o else .ptr id s r o
  | x => kill p x

theorem le_mv (p q : Nat) {e s : Nat} {rows : List (List AV)} {H' : List (Nat × Blk)} {l' : List AV} (hb : hget σ.hp p = some (.cells e s rows)) (hq : hget σ.hp q = none) (hr : refsB (.cells e s rows) = [])
    (hH : hdel σ.hp p = H') (hf : (H'.all fun x => !(refsB x.2).contains p) = true) (ht : σ.tm.map (mv1 p q) = l') : Le C σ ⟨l', (q, .cells e s rows) :: H'⟩ := by
  subst hH ht
  intro a w ⟨μ, S, hi⟩
  have hne : p ≠ q := fun h => by subst h; rw [hb] at hq; cases hq
  have hmq : μ q = none := by
    cases h : μ q with
    | none => rfl
    | some g => obtain ⟨⟨b, h1⟩, _⟩ := hi.dom q g h; rw [hq] at h1; cases h1
  let ν : Nat → Option Nat := fun i => if i = q then μ p else if i = p then none else μ i
  have hνq : ν q = μ p := by simp [ν]
  have hν : ∀ i, i ≠ p → i ≠ q → ν i = μ i := fun i h1 h2 => by simp [ν, h1, h2]
  have hm : ∀ i, i ≠ p → ∀ g, μ i = some g → ν i = some g := fun i h g hg => by
    rw [hν i h (fun e => by subst e; rw [hmq] at hg; cases hg)]; exact hg
  have hv : ∀ i g, ν i = some g → (i = q ∧ μ p = some g) ∨ (i ≠ p ∧ i ≠ q ∧ μ i = some g) := fun i g h => by
    simp only [ν] at h
    split at h
    · exact .inl ⟨by assumption, h⟩
    · split at h
      · cases h
      · exact .inr ⟨by assumption, by assumption, h⟩
  have hkill : ∀ {v : Value} {y : AV}, Rd μ S w v y → Rd ν S w v (kill p y) := fun {v y} h => by
    unfold kill
    split
    · exact .any v
    · rename_i hc
      exact h.less fun id hid g hg => hm id (fun e => by subst e; exact hc (by simpa using hid)) g hg
  refine ⟨ν, S, by simpa using hi.size, hi.defers, fun t x hx => ?_, fun id b hb' => ?_, fun id g hg => ?_, fun i j g h1 h2 => ?_, hi.frm, hi.sb⟩
  · simp only [List.getElem?_map] at hx
    obtain ⟨y, hy, rfl⟩ := Option.map_eq_some_iff.1 hx
    have h := hi.tm t y hy
    cases y with
    | osl id s' o n =>
      simp only [mv1]
      split
      · rename_i e
        subst e
        obtain ⟨A, cap, e1, hc, hor⟩ := h.inv_osl
        rw [e1]
        refine .osl q s' o n cap A hc ?_
        rcases hor with h | ⟨g, e2, m, k1, k2, k3, k4⟩
        · exact .inl h
        · exact .inr ⟨g, e2, m, hνq.trans k1, k2, k3, k4⟩
      · rename_i e
        exact h.less fun i hid g hg => hm i (fun e' => by simp only [refs, List.mem_singleton] at hid; exact e (hid.symm.trans e')) g hg
    | ptr id s' r o =>
      simp only [mv1]
      split
      · rename_i e
        subst e
        obtain ⟨g, k1, e1⟩ := h.inv_ptr
        rw [e1]
        exact .ptr q s' r o g (hνq.trans k1)
      · rename_i e
        exact h.less fun i hid g hg => hm i (fun e' => by simp only [refs, List.mem_singleton] at hid; exact e (hid.symm.trans e')) g hg
    | _ => exact hkill h
  · simp only [hget] at hb'
    split at hb'
    · rename_i e'
      injection hb' with hb'
      subst e' hb'
      have hk := hi.hp p _ hb
      rcases hk with ⟨k1, k2⟩ | ⟨g, c, k1, k2, k3, k4, k5⟩
      · exact .inl ⟨k1, hνq.trans k2⟩
      · refine .inr ⟨g, c, hνq.trans k1, k2, k3, k4, fun i row hi' j x hx => (k5 i row hi' j x hx).less fun id hid g' hg' => ?_⟩
        have : id ∈ refsB (.cells e s rows) := List.mem_flatMap.2 ⟨row, List.mem_of_getElem? hi', refsL_mem hx hid⟩
        rw [hr] at this
        cases this
    · rename_i hq'
      have hb2 := hb'
      rw [hget_hdel] at hb'
      split at hb'
      · cases hb'
      · rename_i hp'
        refine (hi.hp id b hb').less (hν id (fun e => hp' e.symm) (fun e => hq' e.symm)) fun i hid g hg => hm i (fun e => ?_) g hg
        subst e
        have := List.all_eq_true.1 hf _ (hget_mem hb2)
        simp at this
        exact this hid
  · rcases hv id g hg with ⟨rfl, h⟩ | ⟨h1, h2, h⟩
    · exact ⟨⟨_, by simp only [hget, if_true]; rfl⟩, (hi.dom p g h).2⟩
    · obtain ⟨⟨b, hb1⟩, h3⟩ := hi.dom id g h
      exact ⟨⟨b, by simp only [hget, if_neg (fun e : q = id => h2 e.symm), hget_hdel, if_neg (fun e : p = id => h1 e.symm)]; exact hb1⟩, h3⟩
  · rcases hv i g h1 with ⟨rfl, k⟩ | ⟨k1, k2, k⟩ <;> rcases hv j g h2 with ⟨rfl, m⟩ | ⟨m1, m2, m⟩
    · rfl
    · exact absurd (hi.inj p j g k m) (fun e => m1 e.symm)
    · exact absurd (hi.inj i p g k m) k1
    · exact hi.inj i j g k m
end
end Go.Eng

namespace La
open Go Go.Eng Go.Proofs
set_option maxRecDepth 10000
set_option linter.unusedSimpArgs false
set_option linter.unusedVariables false

/-- how far one came: what is done, and the piece at hand -/
def Cutting (c : UInt8) (s : List UInt8) (i : Nat) (done : List (List UInt8)) (cur : List UInt8) : Prop :=
  i ≤ s.length ∧ cutA c done cur (s.drop i) = cutL c s ∧ done.length ≤ i ∧ cur.length ≤ i

theorem cut_ok (s : List UInt8) (c : UInt8) (hs : s.length ≤ 100000000) : FnOK Tryd.prog 25 [.str s, .int .u8 (c.toNat : Int)] [] (fun r _ => r = .sl ((cutL c s).map strRow)) := by
  refine fn_of_cwW tabOK (Go.Proofs.Tryd.func25) rfl (fun C => ?_)
  simp only [Go.Proofs.Tryd.ntmps25, Go.Proofs.Tryd.results25, go_sem]
  refine cw_go tabOK 99 (by simp only [go_sem]; try exact rfl) (by simp [go_sem]) ?_
  refine cw_le (le_mv 7 20 (by simp only [go_sem]; exact rfl) (by simp only [go_sem]; try exact rfl) (by simp only [go_sem]; try exact rfl) (by simp only [go_sem, hdel]; exact rfl) (by simp only [go_sem]; try exact rfl) (by simp only [go_sem, mv1, kill]; exact rfl)) ?_
  refine cw_loopS (fun x : Nat × List (List UInt8) × List UInt8 => Cutting c s x.1 x.2.1 x.2.2) (fun x => s.length - x.1) (fun x => [(5, .osl 20 1 0 (x.2.1.length + 1)), (6, .any), (7, .any), (10, .int .i64 x.1), (11, .any), (12, .any), (13, .any), (14, .any), (15, .any), (16, .any), (17, .any), (18, .any), (19, .any), (20, .any), (21, .any), (22, .any), (23, .any), (24, .any), (25, .any), (26, .any), (27, .any), (28, .any), (29, .any), (30, .any), (31, .any), (32, .any), (33, .any), (34, .any), (35, .any), (36, .any), (37, .any), (38, .any)]) (fun x => [(20, .cells 9 1 (x.2.1.map strRow ++ [[.str x.2.2]]))]) (0, [], []) ⟨by omega, by rw [List.drop_zero, cutA_cut], by simp, by simp⟩ ?_ fun x hx => ?_
  · simp only [go_sem]
    exact le_sub (by simp [go_sem]) (by simp [go_sem]) (by simp [go_sem])
  obtain ⟨i, done, cur⟩ := x
  obtain ⟨hi, hc, hd, hcl⟩ := hx
  simp only at hi hc hd hcl
  simp only [go_sem]
  refine cw_go tabOK 99 (by simp only [go_sem]; try exact rfl) (by simp [go_sem]) ?_
  refine cw_cond (by simp only [go_sem]; try exact rfl) trivial (fun h => ?_) (fun h => ?_)
  · have hlt : i < s.length := by simp at h; omega
    have hw : IntKind.i64.wrap ((i : Int) + 1) = ((i + 1 : Nat) : Int) := by rw [Eng.wrap_small (by omega) (by omega)]; rfl
    have hdr : s.drop i = s.getD i 0 :: s.drop (i + 1) := by
      rw [List.getD_eq_getElem?_getD, List.getElem?_eq_getElem hlt]; simp
    have hdt : (s.take (i + 1)).drop i = [s.getD i 0] := by
      rw [take_succ_getD hlt, List.drop_left' (by rw [List.length_take]; omega)]; rfl
    rw [hdr, cutA] at hc
    refine cw_go tabOK 99 (by simp only [go_sem]; try exact rfl) ?_ ?_
    · simp; omega
    generalize s.getD i 0 = x at hc hdt
    refine cw_cond (by simp only [go_sem]; try exact rfl) trivial (fun h => ?_) (fun h => ?_)
    · have hx : x = c := UInt8.toNat_inj.1 (by have : ((x.toNat : Nat) : Int) = c.toNat := by simpa using h
                                               omega)
      rw [if_pos hx] at hc
      have htk : List.take (done.length + 1) (done.map strRow ++ [[AV.str cur]]) = done.map strRow ++ [[AV.str cur]] := List.take_of_length_le (by simp)
      refine cw_go tabOK 99 (by simp only [go_sem, hw]; try exact rfl) ?_ ?_
      · simp [htk, refs]
        exact ⟨by intro row h; simp at h; subst h; rfl, by omega, fun x _ y hy => by simp [strRow] at hy; subst hy; simp [refs]⟩
      refine cw_back ⟨(i + 1, done ++ [cur], []), ⟨by omega, hc, by simp; omega, by simp⟩, by simp only; omega, le_sub ?_ ?_ ?_⟩
      · simp [go_sem]
      · simp [go_sem, htk, strRow]
      · simp [go_sem]
    · have hx : ¬ x = c := fun e => by subst e; simp at h
      rw [if_neg hx] at hc
      have hgr : (done.map strRow ++ [[AV.str cur]]).getD done.length [] = [AV.str cur] := by simp [List.getD_eq_getElem?_getD]
      have hsub : IntKind.i64.wrap (((done.length + 1 : Nat) : Int) - 1) = (done.length : Int) := by rw [Eng.wrap_small (by omega) (by omega)]; omega
      refine cw_draw mixed ?_
      refine seg_start rfl ?_
      refine seg_runN tabOK 17 (by simp only [go_sem]; exact rfl) (by simp only [go_sem]; exact rfl) (by simp only [go_sem, hgr, hsub, hw]; try exact rfl) ?_ (by simp only [go_sem]; exact rfl) ?_
      · simp [hgr, hsub, hw]; omega
      refine seg_store tabOK rfl rfl (by simp only [go_sem]; try exact rfl) (by simp only [go_sem]; try exact rfl) (by simp only [go_sem]; try exact rfl) (by first | trivial | simp [go_sem]) (by simp only [go_sem]; exact rfl) (by simp [go_sem]) (by simp only [go_sem]; exact rfl) (by simp only [go_sem]; exact rfl) (by simp only [go_sem]; exact rfl) ?_
      refine seg_end (by kernel_rfl) (by simp only [go_sem]; exact rfl) ?_
      refine draw_close (by kernel_rfl) ?_
      simp only [go_sem, hdt]
      refine cw_go tabOK 99 (by simp only [go_sem, hw]; try exact rfl) (by simp [go_sem, hw]) ?_
      refine cw_back ⟨(i + 1, done, cur ++ [x]), ⟨by omega, hc, by simp only; omega, by simp; omega⟩, by simp only; omega, le_sub ?_ ?_ ?_⟩
      · simp [go_sem]
      · simp [go_sem]
      · simp [go_sem]
  · have e : i = s.length := by simp at h; omega
    subst e
    rw [List.drop_length, cutA] at hc
    have hrows : done.map strRow ++ [[AV.str cur]] = (cutL c s).map strRow := by rw [← hc]; simp [strRow]
    have hlen : done.length + 1 = (cutL c s).length := by rw [← hc]; simp
    rw [hrows, hlen]
    refine cw_go tabOK 99 (by simp only [go_sem]; try exact rfl) (by simp [go_sem]) ?_
    refine cw_freeze 20 rfl (strRow_pure _) ?_
    refine cw_ret ⟨_, _, (by simp only [go_sem]; try exact rfl), by simp [go_sem], _, .inr (.inl rfl), ?_⟩
    simp
end La

namespace La
open Go Go.Eng Go.Proofs
set_option maxRecDepth 10000
set_option linter.unusedSimpArgs false
set_option linter.unusedVariables false

theorem rsplit_raw (s : List UInt8) (hs : s.length ≤ 10000000) : FnOK Tryd.prog 9 [.str s] [] (fun r _ => Eng.nrm r = splitA (splitR s)) := by
  refine fn_of_cwW tabOK (Go.Proofs.Tryd.func9) rfl (fun C => ?_)
  simp only [Go.Proofs.Tryd.ntmps9, Go.Proofs.Tryd.results9, go_sem]
  refine cw_goR 99 (by simp only [go_sem]; try exact rfl) ?_
  refine cw_runN tabOK 2 (by simp only [go_sem]; exact rfl) (by simp only [go_sem]; exact rfl) (by simp only [go_sem]; try exact rfl) (by simp [go_sem]) ?_
  refine cw_go tabOK 99 (by simp only [go_sem]; try exact rfl) (by simp [go_sem]) ?_
  refine cw_cond (by simp only [go_sem]; try exact rfl) trivial (fun h => ?_) (fun h => ?_)
  · have h1 : 40 < s.length := by simp at h; omega
    refine cw_go tabOK 99 (by simp only [go_sem]; try exact rfl) (by simp [go_sem]) ?_
    refine cw_ret ⟨_, _, by simp only [go_sem]; try exact rfl, by simp [go_sem], _, .inr (.inl rfl), ?_⟩
    simp [splitR, h1, splitA, Eng.nrm, Eng.nrmL]
  have h1 : ¬ 40 < s.length := by simp at h; omega
  refine cw_go tabOK 99 (by simp only [go_sem]; try exact rfl) (by simp [go_sem]) ?_
  refine cw_cond (by simp only [go_sem]; try exact rfl) trivial (fun h => ?_) (fun h => ?_)
  · have h2 : s = [47] := by simpa using h
    refine cw_go tabOK 99 (by simp only [go_sem]; try exact rfl) (by simp [go_sem]) ?_
    refine cw_ret ⟨_, _, by simp only [go_sem]; try exact rfl, by simp [go_sem], _, .inr (.inl rfl), ?_⟩
    simp [splitR, h1, h2, splitA, Eng.nrm, Eng.nrmL]
  have h2 : s ≠ [47] := by simpa using h
  refine cw_goR 99 (by simp only [go_sem]; try exact rfl) ?_
  refine cw_runN tabOK 3 (by simp only [go_sem]; exact rfl) (by simp only [go_sem]; exact rfl) (by simp only [go_sem]; try exact rfl) (by simp [go_sem]) ?_
  cases s with
  | nil =>
    refine cw_go tabOK 99 (by simp only [go_sem]; try exact rfl) (by simp [go_sem]) ?_
    refine cw_cond (by simp only [go_sem]; try exact rfl) trivial (fun h => ?_) (fun h => ?_)
    · refine cw_go tabOK 99 (by simp only [go_sem]; try exact rfl) (by simp [go_sem]) ?_
      refine cw_ret ⟨_, _, by simp only [go_sem]; try exact rfl, by simp [go_sem], _, .inr (.inl rfl), ?_⟩
      simp [splitR, splitA, Eng.nrm, Eng.nrmL]
    · cases h
  | cons x r =>
    refine cw_go tabOK 99 (by simp only [go_sem]; try exact rfl) (by simp [go_sem]) ?_
    refine cw_cond (by simp only [go_sem]; try exact rfl) trivial (fun h => ?_) (fun h => ?_)
    · have h3 : ¬ x = 47 := fun e => by subst e; simp at h
      have h1' : ¬ 40 < r.length + 1 := h1
      refine cw_go tabOK 99 (by simp only [go_sem]; try exact rfl) (by simp [go_sem]) ?_
      refine cw_ret ⟨_, _, by simp only [go_sem]; try exact rfl, by simp [go_sem], _, .inr (.inl rfl), ?_⟩
      simp [splitR, h1', h3, splitA, Eng.nrm, Eng.nrmL]
    have h3 : x = 47 := UInt8.toNat_inj.1 (by have : ((x.toNat : Nat) : Int) = 47 := by simpa using h
                                              show x.toNat = 47; omega)
    subst h3
    refine cw_goR 99 (by simp only [go_sem]; try exact rfl) ?_
    refine cw_runN tabOK 1 (by simp only [go_sem]; exact rfl) (by simp only [go_sem]; exact rfl) (by simp only [go_sem]; try exact rfl) (by simp [go_sem]) ?_
    refine cw_call rfl rfl (by simp only [go_sem]; try exact rfl) (by simp [go_sem]) ⟨_, Go.Proofs.Tryd.func25, by kernel_rfl, rfl⟩ (by simp [go_sem]) (cut_ok (47 :: r) 47 (by omega)) (by simp [go_sem]) (by simp only [go_sem]; exact rfl) ?_
    have hcut : cutL 47 (47 :: r) = [] :: cutL 47 r := by simp [cutL]
    have hR : splitR (47 :: r) = if (cutL 47 r).all nameB then (cutL 47 r, 0) else ([], 7) := by
      simp only [splitR, if_neg h1, if_neg h2, List.head?_cons, ne_eq, not_true_eq_false, if_false, List.drop_succ_cons, List.drop_zero]
    have hcl := cutL_le 47 r
    have hcp := cutL_part 47 r
    rw [hR, hcut]
    generalize cutL 47 r = L at hcl hcp
    simp only [List.length_cons] at hs
    refine cw_go tabOK 99 (by simp only [go_sem]; try exact rfl) ?_ ?_
    · simp [strRow]
    refine cw_loopS (fun i : Nat => i ≤ L.length ∧ (L.take i).all nameB = true) (fun i => L.length - i) (fun i => [(6, .any), (24, .int .i64 i), (25, .any), (26, .any), (27, .any), (28, .any), (29, .any), (30, .any), (31, .any)]) (fun _ => []) 0 ⟨by omega, by simp⟩ ?_ fun i hi => ?_
    · simp only [go_sem]
      exact le_sub (by simp [go_sem]) (by simp [go_sem]) (by simp [go_sem])
    obtain ⟨hi, hs2⟩ := hi
    simp only [go_sem]
    refine cw_go tabOK 99 (by simp only [go_sem]; try exact rfl) (by simp [go_sem]) ?_
    refine cw_cond (by simp only [go_sem]; try exact rfl) trivial (fun h => ?_) (fun h => ?_)
    · have hlt : i < L.length := by simp at h; omega
      have hw : IntKind.i64.wrap ((i : Int) + 1) = ((i + 1 : Nat) : Int) := by rw [Eng.wrap_small (by omega) (by omega)]; rfl
      have hg : (L.map strRow).getD i [] = strRow (L.getD i default) := Fam.getD hlt
      have htk := take_succ_getD hlt
      have hmem : L.getD i default ∈ L := by rw [List.getD_eq_getElem?_getD, List.getElem?_eq_getElem hlt]; exact List.getElem_mem hlt
      have hxl := hcp _ hmem
      have hno : nameB (L.getD i default) = false → L.all nameB = false := fun h0 => by
        cases e : L.all nameB with
        | false => rfl
        | true => rw [List.all_eq_true.1 e _ hmem] at h0; cases h0
      generalize L.getD i default = x at hg htk hxl hno hmem
      refine cw_go tabOK 99 (by simp only [go_sem, hg, strRow]; try exact rfl) ?_ ?_
      · simp [hg, strRow, hlt]
      refine cw_call rfl rfl (by simp only [go_sem]; try exact rfl) (by simp [go_sem]) ⟨_, Go.Proofs.Tryd.func12, by kernel_rfl, rfl⟩ (by simp [go_sem]) (rname_ok x (by omega)) (by simp [go_sem]) (by simp only [go_sem]; exact rfl) ?_
      refine cw_go tabOK 99 (by simp only [go_sem]; try exact rfl) (by simp [go_sem]) ?_
      refine cw_cond (by simp only [go_sem]; try exact rfl) trivial (fun h => ?_) (fun h => ?_)
      · have h0 : nameB x = false := by simpa using h
        refine cw_go tabOK 99 (by simp only [go_sem]; try exact rfl) (by simp [go_sem]) ?_
        refine cw_ret ⟨_, _, by simp only [go_sem]; try exact rfl, by simp [go_sem], _, .inr (.inl rfl), ?_⟩
        simp [hno h0, splitA, Eng.nrm, Eng.nrmL]
      · have h0 : nameB x = true := by simpa using h
        refine cw_go tabOK 99 (by simp only [go_sem, hw]; try exact rfl) (by simp [go_sem, hw]) ?_
        refine cw_back ⟨i + 1, ⟨by omega, by rw [htk, List.all_append, hs2]; simp [h0]⟩, by omega, le_sub ?_ ?_ ?_⟩
        · simp [go_sem]
        · simp [go_sem]
        · simp [go_sem]
    · have e : i = L.length := by simp at h; omega
      subst e
      rw [List.take_length] at hs2
      refine cw_go tabOK 99 (by simp only [go_sem]; try exact rfl) (by simp [go_sem]) ?_
      refine cw_ret ⟨_, _, by simp only [go_sem]; try exact rfl, by simp [go_sem], _, .inr (.inl rfl), ?_⟩
      simp [hs2, splitA, Eng.nrm, Eng.nrmL, nrm_strs]
theorem rsplit_ok (s : List UInt8) (hs : s.length ≤ 10000000) : FnOK Tryd.prog 9 [.str s] [] (fun r _ => r = splitA (splitR s)) := fn_nrmP (rsplit_raw s hs)
end La

namespace La
open Go Go.Eng Go.Proofs
set_option maxRecDepth 10000
set_option linter.unusedSimpArgs false
set_option linter.unusedVariables false

theorem path_len : ∀ l : List (List UInt8), (pathF l).length = Lib.lens l + l.length
  | [] => rfl
  | n :: l => by
    have := path_len l
    simp only [pathF, Lib.lens, List.map_cons, List.flatten_cons, List.length_append, List.length_cons, List.sum_cons] at this ⊢
    omega

theorem split_at {s : List UInt8} {a : List (List UInt8)} {b : Int} (h : splitR s = (a, b)) (hs : s.length ≤ 10000000) : FnOK Tryd.prog 8 [.str s] [] (fun r _ => r = .tup [.sl (a.map strRow), .int .i64 b]) := by
  have := split_ok s (by omega)
  rw [h] at this
  exact this
theorem rsplit_at {s : List UInt8} {a : List (List UInt8)} {b : Int} (h : splitR s = (a, b)) (hs : s.length ≤ 10000000) : FnOK Tryd.prog 9 [.str s] [] (fun r _ => r = .tup [.sl (a.map strRow), .int .i64 b]) := by
  have := rsplit_ok s hs
  rw [h] at this
  exact this

theorem splitR_len {s : List UInt8} {a : List (List UInt8)} {b : Int} (h : splitR s = (a, b)) : a.length ≤ s.length + 1 := by
  have e : (splitR s).1 = a := by rw [h]
  have hc := cutL_le 47 (s.drop 1)
  rw [List.length_drop] at hc
  unfold splitR at e
  split at e
  · subst e; simp
  · split at e
    · subst e; simp
    · split at e
      · subst e; simp
      · split at e
        · subst e; simp only; omega
        · subst e; simp


theorem names_tells (s : List UInt8) (l : List (List UInt8)) (hs : s.length ≤ 10000000) (hl : l.length ≤ 10000000) (hn : Lib.lens l ≤ 10000000) (hx : ∀ x, x ∈ l → x.length ≤ 10000000) :
    FnOK Tryd.prog 3 [.str s, .sl (l.map strRow)] [] (fun r _ => r = .bool true) := by
  refine fn_of_cwW tabOK (Go.Proofs.Tryd.func3) rfl (fun C => ?_)
  simp only [Go.Proofs.Tryd.ntmps3, Go.Proofs.Tryd.results3, go_sem]
  refine cw_goR 99 (by simp only [go_sem]; try exact rfl) ?_
  refine cw_runN tabOK 1 (by simp only [go_sem]; exact rfl) (by simp only [go_sem]; exact rfl) (by simp only [go_sem]; try exact rfl) (by simp [go_sem]) ?_
  refine cw_goR 99 (by simp only [go_sem]; try exact rfl) ?_
  refine cw_runN tabOK 1 (by simp only [go_sem]; exact rfl) (by simp only [go_sem]; exact rfl) (by simp only [go_sem]; try exact rfl) (by simp [go_sem]) ?_
  obtain ⟨a, b, hp⟩ : ∃ a b, splitR s = (a, b) := ⟨_, _, rfl⟩
  have ha := splitR_len hp
  refine cw_call rfl rfl (by simp only [go_sem]; try exact rfl) (by simp [go_sem]) ⟨_, Go.Proofs.Tryd.func8, by kernel_rfl, rfl⟩ (by simp [go_sem]) (split_at hp hs) (by simp [go_sem]) (by simp only [go_sem]; exact rfl) ?_
  refine cw_go tabOK 99 (by simp only [go_sem]; try exact rfl) (by simp [go_sem]) ?_
  refine cw_call rfl rfl (by simp only [go_sem]; try exact rfl) (by simp [go_sem]) ⟨_, Go.Proofs.Tryd.func9, by kernel_rfl, rfl⟩ (by simp [go_sem]) (rsplit_at hp hs) (by simp [go_sem]) (by simp only [go_sem]; exact rfl) ?_
  refine cw_go tabOK 99 (by simp only [go_sem]; try exact rfl) (by simp [go_sem]) ?_
  have hjl := join_len 47 l
  have hpl := path_len l
  refine cw_loopS (fun i : Nat => i ≤ l.length) (fun i => l.length - i) (fun i => [(9, .str (pathF (l.take i))), (11, .any), (24, .int .i64 i), (25, .any), (26, .any), (27, .any), (28, .any), (29, .any), (30, .any), (31, .any), (32, .any)]) (fun _ => []) 0 (by omega) ?_ fun i hi => ?_
  · simp only [go_sem]
    exact le_sub (by simp [go_sem, pathF]) (by simp [go_sem]) (by simp [go_sem])
  simp only [go_sem]
  refine cw_go tabOK 99 (by simp only [go_sem]; try exact rfl) (by simp [go_sem]) ?_
  refine cw_cond (by simp only [go_sem]; try exact rfl) trivial (fun h => ?_) (fun h => ?_)
  · have hlt : i < l.length := by simp at h; omega
    have hw : IntKind.i64.wrap ((i : Int) + 1) = ((i + 1 : Nat) : Int) := by rw [Eng.wrap_small (by omega) (by omega)]; rfl
    have hg : (l.map strRow).getD i [] = strRow (l.getD i default) := Fam.getD hlt
    have htk := take_succ_getD hlt
    have hmem : l.getD i default ∈ l := by rw [List.getD_eq_getElem?_getD, List.getElem?_eq_getElem hlt]; exact List.getElem_mem hlt
    have hxl := hx _ hmem
    have hpi : (pathF (l.take i)).length ≤ 20000000 := by
      have h1 := path_len (l.take i)
      have h2 := Lib.lens_take_le l i
      have h3 : (l.take i).length ≤ l.length := by rw [List.length_take]; omega
      omega
    generalize l.getD i default = x at hg htk hxl hmem
    have hpx : pathF (l.take (i + 1)) = pathF (l.take i) ++ [47] ++ x := by rw [htk]; simp [pathF]
    refine cw_go tabOK 99 (by simp only [go_sem, hg, strRow, hw]; try exact rfl) ?_ ?_
    · simp [hg, strRow, hlt]; omega
    refine cw_back ⟨i + 1, by omega, by omega, le_sub ?_ ?_ ?_⟩
    · simp [go_sem, hpx]
    · simp [go_sem]
    · simp [go_sem]
  · have e : i = l.length := by simp at h; omega
    subst e
    rw [List.take_length]
    have hj : 47 :: Lib.join l [47] = if pathF l = [] then [47] else pathF l := by
      cases l with
      | nil => rfl
      | cons p l => rw [path_join, if_neg (by simp [pathF])]
    refine cw_go tabOK 99 (by simp only [go_sem]; try exact rfl) (by simp [go_sem]) ?_
    refine cw_cond (by simp only [go_sem]; try exact rfl) trivial (fun h => ?_) (fun h => ?_)
    · have h0 : pathF l = [] := by simpa using h
      rw [h0, if_pos rfl] at hj
      refine cw_go tabOK 99 (by simp only [go_sem, beq_self_eq_true]; try exact rfl) (by simp [go_sem, beq_self_eq_true]) ?_
      refine cw_callC rfl (by simp only [go_sem]; try exact rfl) (by simp only [go_sem]; try exact rfl) (by simp [go_sem]) ⟨_, Go.Proofs.Tryd.func10, by kernel_rfl, rfl⟩ (by simp [go_sem]) (fun hb => (sameTexts_ok a a (by omega) (by omega))) (by simp [go_sem]) (by simp only [go_sem]; exact rfl) ?_
      refine cw_go tabOK 99 (by simp only [go_sem, decide_true, cond_true, beq_self_eq_true]; try exact rfl) (by simp [go_sem, decide_true, cond_true, beq_self_eq_true]) ?_
      refine cw_callC rfl (by simp only [go_sem]; try exact rfl) (by simp only [go_sem]; try exact rfl) (by simp [go_sem]) ⟨_, Go.Proofs.Tryd.func11, by kernel_rfl, rfl⟩ (by simp [go_sem]) (fun hb => (name_ok s (by omega))) (by simp [go_sem]) (by simp only [go_sem]; exact rfl) ?_
      refine cw_go tabOK 99 (by simp only [go_sem]; try exact rfl) (by simp [go_sem]) ?_
      refine cw_callC rfl (by simp only [go_sem]; try exact rfl) (by simp only [go_sem]; try exact rfl) (by simp [go_sem]) ⟨_, Go.Proofs.Tryd.func12, by kernel_rfl, rfl⟩ (by simp [go_sem]) (fun hb => (rname_ok s (by omega))) (by simp [go_sem]) (by simp only [go_sem]; exact rfl) ?_
      refine cw_go tabOK 99 (by simp only [go_sem, beq_self_eq_true, cond_true]; try exact rfl) (by simp [go_sem, beq_self_eq_true, cond_true]) ?_
      refine cw_callC rfl (by simp only [go_sem]; try exact rfl) (by simp only [go_sem]; try exact rfl) (by simp [go_sem]) ⟨_, Go.Proofs.Tryd.func13, by kernel_rfl, rfl⟩ (by simp [go_sem]) (fun hb => (join_ok l (by omega) (by omega))) (by simp [go_sem]) (by simp only [go_sem]; exact rfl) ?_
      refine cw_go tabOK 99 (by simp only [go_sem, hj, beq_self_eq_true, cond_true]; try exact rfl) (by simp [go_sem, hj, beq_self_eq_true, cond_true]) ?_
      refine cw_ret ⟨_, _, (by simp only [go_sem]; try exact rfl), by simp [go_sem], _, .inr (.inl rfl), ?_⟩
      simp
    · have h0 : pathF l ≠ [] := by simpa using h
      rw [if_neg h0] at hj
      refine cw_go tabOK 99 (by simp only [go_sem, beq_self_eq_true]; try exact rfl) (by simp [go_sem, beq_self_eq_true]) ?_
      refine cw_callC rfl (by simp only [go_sem]; try exact rfl) (by simp only [go_sem]; try exact rfl) (by simp [go_sem]) ⟨_, Go.Proofs.Tryd.func10, by kernel_rfl, rfl⟩ (by simp [go_sem]) (fun hb => (sameTexts_ok a a (by omega) (by omega))) (by simp [go_sem]) (by simp only [go_sem]; exact rfl) ?_
      refine cw_go tabOK 99 (by simp only [go_sem, decide_true, cond_true, beq_self_eq_true]; try exact rfl) (by simp [go_sem, decide_true, cond_true, beq_self_eq_true]) ?_
      refine cw_callC rfl (by simp only [go_sem]; try exact rfl) (by simp only [go_sem]; try exact rfl) (by simp [go_sem]) ⟨_, Go.Proofs.Tryd.func11, by kernel_rfl, rfl⟩ (by simp [go_sem]) (fun hb => (name_ok s (by omega))) (by simp [go_sem]) (by simp only [go_sem]; exact rfl) ?_
      refine cw_go tabOK 99 (by simp only [go_sem]; try exact rfl) (by simp [go_sem]) ?_
      refine cw_callC rfl (by simp only [go_sem]; try exact rfl) (by simp only [go_sem]; try exact rfl) (by simp [go_sem]) ⟨_, Go.Proofs.Tryd.func12, by kernel_rfl, rfl⟩ (by simp [go_sem]) (fun hb => (rname_ok s (by omega))) (by simp [go_sem]) (by simp only [go_sem]; exact rfl) ?_
      refine cw_go tabOK 99 (by simp only [go_sem, beq_self_eq_true, cond_true]; try exact rfl) (by simp [go_sem, beq_self_eq_true, cond_true]) ?_
      refine cw_callC rfl (by simp only [go_sem]; try exact rfl) (by simp only [go_sem]; try exact rfl) (by simp [go_sem]) ⟨_, Go.Proofs.Tryd.func13, by kernel_rfl, rfl⟩ (by simp [go_sem]) (fun hb => (join_ok l (by omega) (by omega))) (by simp [go_sem]) (by simp only [go_sem]; exact rfl) ?_
      refine cw_go tabOK 99 (by simp only [go_sem, hj, beq_self_eq_true, cond_true]; try exact rfl) (by simp [go_sem, hj, beq_self_eq_true, cond_true]) ?_
      refine cw_ret ⟨_, _, (by simp only [go_sem]; try exact rfl), by simp [go_sem], _, .inr (.inl rfl), ?_⟩
      simp
end La

namespace La
open Go Go.Eng Go.Proofs
set_option maxRecDepth 10000
set_option linter.unusedSimpArgs false
set_option linter.unusedVariables false

theorem nameB_plain {x : List UInt8} (h : nameB x = true) : (47 : UInt8) ∉ x := fun hm => by
  unfold nameB at h
  rw [Bool.and_eq_true] at h
  have := List.all_eq_true.1 h.2 _ hm
  revert this; decide

/-- a path that was parted -/
theorem splitR_ok {s : List UInt8} {a : List (List UInt8)} (h : splitR s = (a, 0)) : 47 :: Lib.join a [47] = s := by
  unfold splitR at h
  split at h
  · cases h
  · split at h
    · rename_i h2
      cases h
      rw [h2]; rfl
    · split at h
      · cases h
      · rename_i h3
        split at h
        · obtain ⟨rfl, _⟩ := Prod.mk.inj h
          cases s with
          | nil => exact absurd rfl (fun _ : (1:Nat) = 1 => h3 (by simp))
          | cons x r =>
            simp only [List.head?_cons, ne_eq, Option.some.injEq, Decidable.not_not] at h3
            subst h3
            rw [List.drop_succ_cons, List.drop_zero, join_cut]
        · cases h

/-- names that were joined -/
theorem splitR_join {l : List (List UInt8)} (h : l.all nameB = true) : splitR (47 :: Lib.join l [47]) = if 40 < (Lib.join l [47]).length + 1 then ([], 4) else (l, 0) := by
  cases l with
  | nil => rfl
  | cons p l =>
    unfold splitR
    simp only [List.length_cons, List.head?_cons, ne_eq, not_true_eq_false, if_false, List.drop_succ_cons, List.drop_zero]
    split
    · rfl
    · have hp : ∀ x, x ∈ p :: l → (47 : UInt8) ∉ x := fun x hx => nameB_plain (List.all_eq_true.1 h x hx)
      rw [cut_join 47 p l hp, h, if_pos rfl, if_neg]
      intro e
      have hp1 := List.all_eq_true.1 h p (by simp)
      have : p = [] := by
        have h2 : Lib.join (p :: l) [47] = [] := by simpa using e
        rw [Lib.join_cons] at h2
        exact (List.append_eq_nil_iff.1 h2).1
      subst this
      revert hp1; decide

theorem lens_cut (c : UInt8) : ∀ s : List UInt8, Lib.lens (cutL c s) ≤ s.length
  | [] => by simp [cutL, Lib.lens]
  | x :: r => by
    have ih := lens_cut c r
    unfold cutL
    split
    · simp [Lib.lens] at ih ⊢; omega
    · rw [← cutL_eq c r] at ih
      simp [Lib.lens] at ih ⊢; omega

theorem splitR_lens {s : List UInt8} {a : List (List UInt8)} {b : Int} (h : splitR s = (a, b)) : Lib.lens a ≤ s.length := by
  have e : (splitR s).1 = a := by rw [h]
  have hc := lens_cut 47 (s.drop 1)
  rw [List.length_drop] at hc
  unfold splitR at e
  split at e
  · subst e; simp [Lib.lens]
  · split at e
    · subst e; simp [Lib.lens]
    · split at e
      · subst e; simp [Lib.lens]
      · split at e
        · subst e; simp only; omega
        · subst e; simp [Lib.lens]

theorem alive1_ok : FnOK Tryd.prog 14 [] [] (fun r _ => r = .bool true) := by
  refine fn_of_cwW tabOK (Go.Proofs.Tryd.func14) rfl (fun C => ?_)
  simp only [Go.Proofs.Tryd.ntmps14, Go.Proofs.Tryd.results14, go_sem]
  refine cw_goR 99 (by simp only [go_sem]; try exact rfl) ?_
  refine cw_runN tabOK 1 (by simp only [go_sem]; exact rfl) (by simp only [go_sem]; exact rfl) (by simp only [go_sem]; try exact rfl) (by simp [go_sem]) ?_
  refine cw_goR 99 (by simp only [go_sem]; try exact rfl) ?_
  refine cw_call rfl rfl (by simp only [go_sem]; try exact rfl) (by simp [go_sem]) ⟨_, Go.Proofs.Tryd.func8, by kernel_rfl, rfl⟩ (by simp [go_sem]) (split_at (show splitR [47, 97, 47, 98, 50] = ([[97], [98, 50]], 0) by decide) (by decide)) (by simp [go_sem]) (by simp only [go_sem]; exact rfl) ?_
  refine cw_go tabOK 99 (by simp only [go_sem]; try exact rfl) (by simp [go_sem]) ?_
  refine cw_call rfl rfl (by simp only [go_sem]; try exact rfl) (by simp [go_sem]) ⟨_, Go.Proofs.Tryd.func8, by kernel_rfl, rfl⟩ (by simp [go_sem]) (split_at (show splitR [47] = ([], 0) by decide) (by decide)) (by simp [go_sem]) (by simp only [go_sem]; exact rfl) ?_
  refine cw_go tabOK 99 (by simp only [go_sem, beq_self_eq_true, cond_true, List.map_cons, List.map_nil, strRow, List.length_cons, List.length_nil]; try exact rfl) (by simp [go_sem, beq_self_eq_true, cond_true, List.map_cons, List.map_nil, strRow, List.length_cons, List.length_nil]) ?_
  refine cw_callC rfl (by simp only [go_sem]; try exact rfl) (by simp only [go_sem]; try exact rfl) (by simp [go_sem]) ⟨_, Go.Proofs.Tryd.func13, by kernel_rfl, rfl⟩ (by simp [go_sem]) (fun hb => (join_ok [[97], [98, 50]] (by decide) (by decide))) (by simp [go_sem]) (by simp only [go_sem]; exact rfl) ?_
  refine cw_go tabOK 99 (by simp only [go_sem, beq_self_eq_true, cond_true]; try exact rfl) (by simp [go_sem, beq_self_eq_true, cond_true]) ?_
  refine cw_callC rfl (by simp only [go_sem]; try exact rfl) (by simp only [go_sem]; try exact rfl) (by simp [go_sem]) ⟨_, Go.Proofs.Tryd.func11, by kernel_rfl, rfl⟩ (by simp [go_sem]) (fun hb => (name_ok [120, 49] (by decide))) (by simp [go_sem]) (by simp only [go_sem]; exact rfl) ?_
  refine cw_go tabOK 99 (by simp only [go_sem, beq_self_eq_true, cond_true]; try exact rfl) (by simp [go_sem, beq_self_eq_true, cond_true]) ?_
  refine cw_callC rfl (by simp only [go_sem]; try exact rfl) (by simp only [go_sem]; try exact rfl) (by simp [go_sem]) ⟨_, Go.Proofs.Tryd.func11, by kernel_rfl, rfl⟩ (by simp [go_sem]) (fun hb => (name_ok [88] (by decide))) (by simp [go_sem]) (by simp only [go_sem]; exact rfl) ?_
  refine cw_go tabOK 99 (by simp only [go_sem, beq_self_eq_true, cond_true]; try exact rfl) (by simp [go_sem, beq_self_eq_true, cond_true]) ?_
  refine cw_ret ⟨_, _, (by simp only [go_sem]; try exact rfl), by simp [go_sem], _, .inr (.inl rfl), ?_⟩
  exact congrArg AV.bool (by decide)

theorem names_turns (s : List UInt8) (l : List (List UInt8)) (hs : s.length ≤ 10000000) (hl : l.length ≤ 2000000) (hn : Lib.lens l ≤ 2000000) (hx : ∀ x, x ∈ l → x.length ≤ 10000000) :
    FnOK Tryd.prog 4 [.str s, .sl (l.map strRow)] [] (fun r _ => r = .bool true) := by
  refine fn_of_cwW tabOK (Go.Proofs.Tryd.func4) rfl (fun C => ?_)
  simp only [Go.Proofs.Tryd.ntmps4, Go.Proofs.Tryd.results4, go_sem]
  refine cw_goR 99 (by simp only [go_sem]; try exact rfl) ?_
  refine cw_runN tabOK 1 (by simp only [go_sem]; exact rfl) (by simp only [go_sem]; exact rfl) (by simp only [go_sem]; try exact rfl) (by simp [go_sem]) ?_
  refine cw_goR 99 (by simp only [go_sem]; try exact rfl) ?_
  refine cw_call rfl rfl (by simp only [go_sem]; try exact rfl) (by simp [go_sem]) ⟨_, Go.Proofs.Tryd.func14, by kernel_rfl, rfl⟩ (by simp [go_sem]) (alive1_ok) (by simp [go_sem]) (by simp only [go_sem]; exact rfl) ?_
  refine cw_go tabOK 99 (by simp only [go_sem]; try exact rfl) (by simp [go_sem]) ?_
  refine cw_cond (by simp only [go_sem]; try exact rfl) trivial (fun h => ?_) (fun h => ?_)
  · cases h
  refine cw_goR 99 (by simp only [go_sem]; try exact rfl) ?_
  refine cw_runN tabOK 1 (by simp only [go_sem]; exact rfl) (by simp only [go_sem]; exact rfl) (by simp only [go_sem]; try exact rfl) (by simp [go_sem]) ?_
  obtain ⟨a, b, hp⟩ : ∃ a b, splitR s = (a, b) := ⟨_, _, rfl⟩
  have ha := splitR_len hp
  refine cw_call rfl rfl (by simp only [go_sem]; try exact rfl) (by simp [go_sem]) ⟨_, Go.Proofs.Tryd.func8, by kernel_rfl, rfl⟩ (by simp [go_sem]) (split_at hp hs) (by simp [go_sem]) (by simp only [go_sem]; exact rfl) ?_
  have hjn : (b == 0) = true → 47 :: Lib.join a [47] = s := fun hb => splitR_ok (by rw [hp, eq_of_beq hb])
  have hjl : (Lib.join a [47]).length ≤ 100000000 := by
    have h1 := splitR_lens hp
    have h2 := join_len 47 a
    omega
  refine cw_go tabOK 99 (by simp only [go_sem]; try exact rfl) (by simp [go_sem]) ?_
  refine cw_callC rfl (by simp only [go_sem]; try exact rfl) (by simp only [go_sem]; try exact rfl) (by simp [go_sem]) ⟨_, Go.Proofs.Tryd.func13, by kernel_rfl, rfl⟩ (by simp [go_sem]) (fun hb => (join_ok a (by omega) (hjl))) (by simp [go_sem]) (by simp only [go_sem]; exact rfl) ?_
  refine cw_go tabOK 99 (by simp only [go_sem]; try exact rfl) (by simp [go_sem]) ?_
  have hcond : (bif b == 0 then 47 :: Lib.join a [47] != s else false) = false := by
    cases e : b == 0 with
    | false => rfl
    | true => rw [hjn e]; simp
  refine cw_condF (by simp only [go_sem]; try exact rfl) trivial (hcond) ?_
  refine cw_go tabOK 99 (by simp only [go_sem]; try exact rfl) (by simp [go_sem]) ?_
  refine cw_loopS (fun i : Nat => i ≤ l.length ∧ (l.take i).all nameB = true) (fun i => l.length - i) (fun i => [(8, .any), (29, .int .i64 i), (30, .any), (31, .any), (32, .any), (33, .any), (34, .any), (35, .any), (36, .any)]) (fun _ => []) 0 ⟨by omega, by simp⟩ ?_ fun i hi => ?_
  · simp only [go_sem]
    exact le_sub (by simp [go_sem]) (by simp [go_sem]) (by simp [go_sem])
  obtain ⟨hi, hs2⟩ := hi
  simp only [go_sem]
  refine cw_go tabOK 99 (by simp only [go_sem]; try exact rfl) (by simp [go_sem]) ?_
  refine cw_cond (by simp only [go_sem]; try exact rfl) trivial (fun h => ?_) (fun h => ?_)
  · have hlt : i < l.length := by simp at h; omega
    have hw : IntKind.i64.wrap ((i : Int) + 1) = ((i + 1 : Nat) : Int) := by rw [Eng.wrap_small (by omega) (by omega)]; rfl
    have hg : (l.map strRow).getD i [] = strRow (l.getD i default) := Fam.getD hlt
    have htk := take_succ_getD hlt
    have hmem : l.getD i default ∈ l := by rw [List.getD_eq_getElem?_getD, List.getElem?_eq_getElem hlt]; exact List.getElem_mem hlt
    have hxl := hx _ hmem
    generalize l.getD i default = x at hg htk hxl hmem
    refine cw_go tabOK 99 (by simp only [go_sem, hg, strRow]; try exact rfl) ?_ ?_
    · simp [hg, strRow, hlt]
    refine cw_call rfl rfl (by simp only [go_sem]; try exact rfl) (by simp [go_sem]) ⟨_, Go.Proofs.Tryd.func11, by kernel_rfl, rfl⟩ (by simp [go_sem]) (name_ok x (by omega)) (by simp [go_sem]) (by simp only [go_sem]; exact rfl) ?_
    refine cw_go tabOK 99 (by simp only [go_sem]; try exact rfl) (by simp [go_sem]) ?_
    refine cw_cond (by simp only [go_sem]; try exact rfl) trivial (fun h => ?_) (fun h => ?_)
    · refine cw_go tabOK 99 (by simp only [go_sem]; try exact rfl) (by simp [go_sem]) ?_
      refine cw_ret ⟨_, _, (by simp only [go_sem]; try exact rfl), by simp [go_sem], _, .inr (.inl rfl), ?_⟩
      rfl
    · have h0 : nameB x = true := by simpa using h
      refine cw_go tabOK 99 (by simp only [go_sem, hw]; try exact rfl) (by simp [go_sem, hw]) ?_
      refine cw_back ⟨i + 1, ⟨by omega, by rw [htk, List.all_append, hs2]; simp [h0]⟩, by omega, le_sub ?_ ?_ ?_⟩
      · simp [go_sem]
      · simp [go_sem]
      · simp [go_sem]
  · have e : i = l.length := by simp at h; omega
    subst e
    rw [List.take_length] at hs2
    have hj2 : (Lib.join l [47]).length ≤ 5000000 := by
      have h2 := join_len 47 l
      omega
    have hp2 := splitR_join hs2
    refine cw_go tabOK 99 (by simp only [go_sem]; try exact rfl) (by simp [go_sem]) ?_
    refine cw_call rfl rfl (by simp only [go_sem]; try exact rfl) (by simp [go_sem]) ⟨_, Go.Proofs.Tryd.func13, by kernel_rfl, rfl⟩ (by simp [go_sem]) (join_ok l (by omega) (by omega)) (by simp [go_sem]) (by simp only [go_sem]; exact rfl) ?_
    refine cw_go tabOK 99 (by simp only [go_sem]; try exact rfl) (by simp [go_sem]) ?_
    by_cases h40 : 40 < (Lib.join l [47]).length + 1
    · rw [if_pos h40] at hp2
      refine cw_call rfl rfl (by simp only [go_sem]; try exact rfl) (by simp [go_sem]) ⟨_, Go.Proofs.Tryd.func8, by kernel_rfl, rfl⟩ (by simp [go_sem]) (split_at hp2 (by simp; omega)) (by simp [go_sem]) (by simp only [go_sem]; exact rfl) ?_
      have hd : decide (((47 :: Lib.join l [47]).length : Int) > 40) = true := decide_eq_true (by simp; omega)
      refine cw_go tabOK 99 (by simp only [go_sem, hd, beq_self_eq_true, cond_true]; try exact rfl) (by simp [go_sem, hd, beq_self_eq_true, cond_true]) ?_
      refine cw_callC rfl (by simp only [go_sem]; try exact rfl) (by simp only [go_sem]; try exact rfl) (by simp [go_sem]) ⟨_, Go.Proofs.Tryd.func10, by kernel_rfl, rfl⟩ (by simp [go_sem]) (fun hb => (sameTexts_ok [] l (by simp) (by omega))) (by simp [go_sem]) (by simp only [go_sem]; exact rfl) ?_
      refine cw_go tabOK 99 (by simp only [go_sem, cond_true]; try exact rfl) (by simp [go_sem, cond_true]) ?_
      refine cw_ret ⟨_, _, (by simp only [go_sem]; try exact rfl), by simp [go_sem], _, .inr (.inl rfl), ?_⟩
      simp
      omega
    · rw [if_neg h40] at hp2
      refine cw_call rfl rfl (by simp only [go_sem]; try exact rfl) (by simp [go_sem]) ⟨_, Go.Proofs.Tryd.func8, by kernel_rfl, rfl⟩ (by simp [go_sem]) (split_at hp2 (by simp; omega)) (by simp [go_sem]) (by simp only [go_sem]; exact rfl) ?_
      have hd : decide (((47 :: Lib.join l [47]).length : Int) > 40) = false := decide_eq_false (by simp; omega)
      refine cw_go tabOK 99 (by simp only [go_sem, hd, beq_self_eq_true, cond_false]; try exact rfl) (by simp [go_sem, hd, beq_self_eq_true, cond_false]) ?_
      refine cw_callC rfl (by simp only [go_sem]; try exact rfl) (by simp only [go_sem]; try exact rfl) (by simp [go_sem]) ⟨_, Go.Proofs.Tryd.func10, by kernel_rfl, rfl⟩ (by simp [go_sem]) (fun hb => (sameTexts_ok l l (by omega) (by omega))) (by simp [go_sem]) (by simp only [go_sem]; exact rfl) ?_
      refine cw_go tabOK 99 (by simp only [go_sem, decide_true, cond_true, beq_self_eq_true]; try exact rfl) (by simp [go_sem, decide_true, cond_true, beq_self_eq_true]) ?_
      refine cw_ret ⟨_, _, (by simp only [go_sem]; try exact rfl), by simp [go_sem], _, .inr (.inl rfl), ?_⟩
      simp
end La

namespace La
open Go Go.Eng Go.Proofs Go.Proofs.YtenlcncffplamaaDoor

/-- cells that read so, in blocks that are there -/
def RdC (w : World) (cs : List Value) (xs : List AV) : Prop := cs.length = xs.length ∧ ∀ (j : Nat) y, xs[j]? = some y → RdP (fun b => b < w.heap.size) w (cs.getD j undef) y

theorem rdc_nil {w : World} {cs : List Value} {off : Nat} (h : cs.length = off) : RdC w (cs.drop off) [] :=
  ⟨by simp; omega, fun j y hj => by simp at hj⟩

theorem rdc_cons {w : World} {cs : List Value} {xs ys : List AV} (off s : Nat) (h : RdC w ((cs.drop off).take s) xs) (hs : xs.length = s) (k : RdC w (cs.drop (off + s)) ys) : RdC w (cs.drop off) (xs ++ ys) := by
  obtain ⟨h1, h2⟩ := h
  obtain ⟨k1, k2⟩ := k
  have hl : (cs.drop off).length = s + (cs.drop (off + s)).length := by
    simp only [List.length_take, List.length_drop] at h1 k1 ⊢
    omega
  refine ⟨by rw [List.length_append, hl, hs, k1], fun j y hj => ?_⟩
  by_cases hjs : j < s
  · rw [List.getElem?_append_left (by omega)] at hj
    have := h2 j y hj
    rwa [List.getD_eq_getElem?_getD, List.getElem?_take, if_pos hjs, ← List.getD_eq_getElem?_getD] at this
  · rw [List.getElem?_append_right (by omega), hs] at hj
    have := k2 (j - s) y hj
    rw [List.getD_eq_getElem?_getD, List.getElem?_drop] at this
    rw [List.getD_eq_getElem?_getD, List.getElem?_drop]
    rwa [show off + s + (j - s) = off + j from by omega] at this

/-- A TYPE's VALUES, AS LEAN HAS THEM: the cells read as 'f x', 'q' holds of it, and it is no larger than what was read. -/
structure Rep (t : TypeId) {α : Type} (f : α → List AV) (q : α → Prop) (sz : α → Nat) : Prop where
  size : ∀ x, (f x).length = (Tryd.prog).cellsOf t
  opn : ∀ {H : Type} (enc : TypeId × Value → H) (w : World) (n : Nat) (cs : List Value) (y : DataW H × List MemPlace), DataW.trod enc Tryd.prog w 0 (fun _ => true) true n t cs = some y →
    ∃ x : α, q x ∧ sz x ≤ Rows.uptoBulk y.1 ∧ RdC w cs (f x)

theorem cells_tab {t : TypeId} {n : Nat} (h : tab.siz t = n) (h0 : n ≠ 0) : (Tryd.prog).cellsOf t = n := by
  obtain ⟨i, h1, h2, _⟩ := tabOK.siz t (by rw [h]; exact h0)
  unfold Program.cellsOf
  rw [h1]
  simp [h2, h]

theorem rep_int {t : TypeId} (ht : (Tryd.prog).underlying t = some (.int .i64)) (hs : (Tryd.prog).cellsOf t = 1) : Rep t (fun n : Int => [AV.int .i64 n]) (fun n => -9223372036854775808 ≤ n ∧ n ≤ 9223372036854775807) (fun _ => 1) where
  size := fun _ => by rw [hs]; rfl
  opn := fun enc w n cs y h => by
    obtain ⟨m, rfl, rfl, hw⟩ := DataW.trod_int ht h
    refine ⟨m, ?_, by simp [Rows.uptoBulk], rfl, fun j y hj => ?_⟩
    · simpa [Lit.wf, IntKind.min, IntKind.max, IntKind.bits, IntKind.signed] using hw
    · cases j with
      | zero => simp only [List.getElem?_cons_zero, Option.some.injEq] at hj; subst hj; exact .int _ _
      | succ j => simp at hj

theorem rep_bool {t : TypeId} (ht : (Tryd.prog).underlying t = some .bool) (hs : (Tryd.prog).cellsOf t = 1) : Rep t (fun b : Bool => [AV.bool b]) (fun _ => True) (fun _ => 1) where
  size := fun _ => by rw [hs]; rfl
  opn := fun enc w n cs y h => by
    obtain ⟨b, rfl, rfl⟩ := DataW.trod_bool ht h
    refine ⟨b, trivial, by simp [Rows.uptoBulk], rfl, fun j y hj => ?_⟩
    cases j with
    | zero => simp only [List.getElem?_cons_zero, Option.some.injEq] at hj; subst hj; exact .bool _
    | succ j => simp at hj

theorem rep_str {t : TypeId} (ht : (Tryd.prog).underlying t = some .string) (hs : (Tryd.prog).cellsOf t = 1) : Rep t (fun s : List UInt8 => [AV.str s]) (fun _ => True) (fun s => s.length + 1) where
  size := fun _ => by rw [hs]; rfl
  opn := fun enc w n cs y h => by
    obtain ⟨s, rfl, rfl, _⟩ := DataW.trod_string ht h
    refine ⟨s.data.toList, trivial, by simp [Rows.uptoBulk], rfl, fun j y hj => ?_⟩
    cases j with
    | zero => simp only [List.getElem?_cons_zero, Option.some.injEq] at hj; subst hj; exact .str _ _ rfl
    | succ j => simp at hj

theorem rep_byte {t : TypeId} (ht : (Tryd.prog).underlying t = some (.int .u8)) (hs : (Tryd.prog).cellsOf t = 1) : Rep t byteRow (fun _ => True) (fun _ => 1) where
  size := fun _ => by rw [hs]; rfl
  opn := fun enc w n cs y h => by
    obtain ⟨m, rfl, rfl, hw⟩ := DataW.trod_int ht h
    have hb : 0 ≤ m ∧ m ≤ 255 := by simpa [Lit.wf, IntKind.min, IntKind.max, IntKind.bits, IntKind.signed] using hw
    refine ⟨UInt8.ofNat m.toNat, trivial, by simp [Rows.uptoBulk], rfl, fun j y hj => ?_⟩
    cases j with
    | zero =>
      simp only [byteRow, List.getElem?_cons_zero, Option.some.injEq] at hj
      subst hj
      have : ((UInt8.ofNat m.toNat).toNat : Int) = m := by
        rw [UInt8.toNat_ofNat']
        omega
      rw [this]; exact .int _ _
    | succ j => simp [byteRow] at hj

/-- how much a list holds -/
def szL {α : Type} (sz : α → Nat) : List α → Nat
  | [] => 0
  | x :: r => sz x + szL sz r

theorem szL_mem {α : Type} {sz : α → Nat} {x : α} : ∀ {l : List α}, x ∈ l → sz x ≤ szL sz l
  | y :: r, h => by
    rcases List.mem_cons.1 h with rfl | h
    · simp only [szL]; omega
    · have := szL_mem (sz := sz) h; simp only [szL]; omega

theorem szL_len {α : Type} {sz : α → Nat} (h : ∀ x, 1 ≤ sz x) : ∀ (l : List α), l.length ≤ szL sz l
  | [] => Nat.le_refl _
  | x :: r => by have := szL_len h r; have := h x; simp only [szL, List.length_cons]; omega

theorem bulkAll_append {H : Type} : ∀ (a b : List (DataW H)), Rows.uptoBulkAll (a ++ b) = Rows.uptoBulkAll a + Rows.uptoBulkAll b
  | [], b => by simp [Rows.uptoBulkAll]
  | x :: a, b => by simp only [List.cons_append, Rows.uptoBulkAll, bulkAll_append a b]; omega

/-- what each element is, one by one -/
theorem pick_list {α H : Type} {q : α → Prop} {sz : α → Nat} {R : Nat → α → Prop} : ∀ (elems : List (DataW H × List MemPlace)) (i0 : Nat), (∀ (i : Nat) y, elems[i]? = some y → ∃ x, q x ∧ sz x ≤ Rows.uptoBulk y.1 ∧ R (i0 + i) x) →
    ∃ l : List α, l.length = elems.length ∧ (∀ x, x ∈ l → q x) ∧ szL sz l ≤ Rows.uptoBulkAll (elems.map (·.1)) ∧ ∀ (i : Nat) x, l[i]? = some x → R (i0 + i) x
  | [], _, _ => ⟨[], rfl, fun x h => by simp at h, by simp [szL], fun i x h => by simp at h⟩
  | y :: r, i0, h => by
    obtain ⟨x, h1, h2, h3⟩ := h 0 y rfl
    obtain ⟨l, k1, k2, k3, k4⟩ := pick_list (R := R) r (i0 + 1) (fun i z hz => by rw [show i0 + 1 + i = i0 + (i + 1) from by omega]; exact h (i + 1) z (by simpa using hz))
    refine ⟨x :: l, by simp [k1], fun z hz => ?_, ?_, fun i z hz => ?_⟩
    · rcases List.mem_cons.1 hz with rfl | hz
      · exact h1
      · exact k2 z hz
    · simp only [szL, List.map_cons, Rows.uptoBulkAll]; omega
    · cases i with
      | zero => simp only [List.getElem?_cons_zero, Option.some.injEq] at hz; subst hz; exact h3
      | succ i => rw [show i0 + (i + 1) = i0 + 1 + i from by omega]; exact k4 i z (by simpa using hz)

theorem cells_some {w : World} {a : Addr} {n : Nat} {cs : List Value} (h : w.cells? 0 a n = some cs) : cs.length = n ∧ ∀ i, i < n → w.cell? (a.add i) = cs[i]? := by
  unfold World.cells? at h
  rw [if_pos (Nat.zero_le _)] at h
  have hl := mapM_some_length h
  refine ⟨by simpa using hl, fun i hi => ?_⟩
  exact mapM_some_get h i i (by simp [hi])

theorem rep_slice {t e : TypeId} {α : Type} {f : α → List AV} {q : α → Prop} {sz : α → Nat} (ht : (Tryd.prog).underlying t = some (.slice e)) (hs : (Tryd.prog).cellsOf t = 1) (he : Rep e f q sz) (hsz : (Tryd.prog).cellsOf e ≠ 0) :
    Rep t (fun l : List α => [AV.sl (l.map f)]) (fun l => ∀ x, x ∈ l → q x) (fun l => szL sz l + 1) where
  size := fun _ => by rw [hs]; rfl
  opn := fun enc w n cs y h => by
    rcases DataW.trod_slice ht h with ⟨rfl, rfl⟩ | ⟨a, len, cap, elems, rest, m, rfl, rfl, rfl, h1, h2, h3, h4, h5, _⟩
    · refine ⟨[], fun x hx => by simp at hx, by simp [szL, Rows.uptoBulk], rfl, fun j y hj => ?_⟩
      cases j with
      | zero =>
        simp only [List.map_nil, List.getElem?_cons_zero, Option.some.injEq] at hj; subst hj
        exact .sl none 0 0 [] 0 0 0 (fun _ _ => undef) rfl (Nat.le_refl _) (fun row h => by simp at h) (fun h => by omega) (fun i j h => by omega) (fun i row h => by simp at h)
      | succ j => simp at hj
    · have key : ∀ (i : Nat) y, elems[i]? = some y → ∃ x, q x ∧ sz x ≤ Rows.uptoBulk y.1 ∧ (∃ cs, w.cells? 0 (a.add ((0 + i) * (Tryd.prog).cellsOf e)) ((Tryd.prog).cellsOf e) = some cs ∧ RdC w cs (f x)) := fun i y hy => by
        have hi : i < len := by rw [← h4]; exact (List.getElem?_eq_some_iff.1 hy).1
        have := h5 i hi
        rw [hy] at this
        obtain ⟨cs, k1, k2⟩ := Option.bind_eq_some_iff.1 this
        obtain ⟨x, q1, q2, q3⟩ := he.opn enc w m cs y k2
        exact ⟨x, q1, q2, cs, by rw [Nat.zero_add]; exact k1, q3⟩
      obtain ⟨l, l1, l2, l3, l4⟩ := pick_list (q := q) (sz := sz) (R := fun i x => ∃ cs, w.cells? 0 (a.add (i * (Tryd.prog).cellsOf e)) ((Tryd.prog).cellsOf e) = some cs ∧ RdC w cs (f x)) elems 0 key
      refine ⟨l, l2, by simp only [Rows.uptoBulk]; omega, rfl, fun j y hj => ?_⟩
      cases j with
      | succ j => simp at hj
      | zero =>
        simp only [List.getElem?_cons_zero, Option.some.injEq] at hj
        subst hj
        have hcell : ∀ i j, i < l.length → j < (Tryd.prog).cellsOf e → ∃ (b : a.spot = none ∨ True) (x : α) (cs : List Value), l[i]? = some x ∧ RdC w cs (f x) ∧ w.cell? (a.add (i * (Tryd.prog).cellsOf e) |>.add j) = cs[j]? ∧ j < cs.length := fun i j hi hj => by
          obtain ⟨cs, k1, k2⟩ := l4 i l[i] (List.getElem?_eq_getElem hi)
          obtain ⟨c1, c2⟩ := cells_some k1
          rw [Nat.zero_add] at c2
          exact ⟨.inr trivial, l[i], cs, List.getElem?_eq_getElem hi, k2, c2 j hj, by omega⟩
        by_cases h0 : l.length = 0
        · have : l = [] := List.eq_nil_of_length_eq_zero h0
          subst this
          simp only [List.map_nil]
          have e0 : len = 0 := by rw [← h4, ← l1]; rfl
          subst e0
          exact .sl (some a) 0 cap [] 0 0 0 (fun _ _ => undef) rfl (Nat.zero_le _) (fun row h => by simp at h) (fun h => by omega) (fun i j h => by omega) (fun i row h => by simp at h)
        · have hspot : a.spot = none ∧ a.block < w.heap.size := by
            obtain ⟨_, x, cs, _, _, c3, c4⟩ := hcell 0 0 (by omega) (by omega)
            rw [List.getElem?_eq_getElem c4] at c3
            have c3' : w.cell? a = some cs[0] := by simpa [Addr.add] using c3
            unfold World.cell? at c3'
            split at c3'
            · rename_i c e' f' hb
              split at c3'
              · cases c3'
              · rename_i hsp
                refine ⟨?_, ?_⟩
                · cases e : a.spot with
                  | none => rfl
                  | some k => rw [e] at hsp; simp at hsp
                · exact (Array.getElem?_eq_some_iff.1 hb).1
            · cases c3'
          obtain ⟨ab, ao, asp⟩ := a
          simp only at hspot
          obtain ⟨rfl, hlt⟩ := hspot
          have hadd : ∀ (i j : Nat), ((⟨ab, ao, none⟩ : Addr).add (i * (Tryd.prog).cellsOf e) |>.add j) = ⟨ab, ao + (i * (Tryd.prog).cellsOf e + j), none⟩ := fun i j => by
            rw [add_plain, add_plain, Nat.add_assoc]
          refine .sl (some ⟨ab, ao, none⟩) len cap (l.map f) ((Tryd.prog).cellsOf e) ab ao (fun i j => (w.cell? ⟨ab, ao + (i * (Tryd.prog).cellsOf e + j), none⟩).getD undef) (by simp [l1, h4]) h2 (fun row hr => ?_) (fun _ => ⟨rfl, hlt⟩) (fun i j hi hj => ?_) (fun i row hrow j x hx => ?_)
          · obtain ⟨x, _, rfl⟩ := List.mem_map.1 hr
            exact he.size x
          · obtain ⟨_, x, cs, _, _, c3, c4⟩ := hcell i j (by omega) hj
            rw [hadd, List.getElem?_eq_getElem c4] at c3
            rw [c3]; rfl
          · rw [List.getElem?_map] at hrow
            cases e1 : l[i]? with
            | none => rw [e1] at hrow; cases hrow
            | some x0 =>
              rw [e1] at hrow
              simp only [Option.map_some, Option.some.injEq] at hrow
              subst hrow
              have hi : i < l.length := (List.getElem?_eq_some_iff.1 e1).1
              have hj : j < (Tryd.prog).cellsOf e := by rw [← he.size x0]; exact (List.getElem?_eq_some_iff.1 hx).1
              obtain ⟨_, x1, cs, c1, c2, c3, c4⟩ := hcell i j hi hj
              rw [e1] at c1
              injection c1 with c1
              subst c1
              have := c2.2 j x hx
              rw [hadd, List.getElem?_eq_getElem c4] at c3
              simp only [c3, Option.getD_some]
              rwa [List.getD_eq_getElem?_getD, List.getElem?_eq_getElem c4] at this

/-! ### The program's types -/

theorem rep_i (t : TypeId) (ht : (Tryd.prog).underlying t = some (.int .i64)) (hs : tab.siz t = 1) : Rep t (fun n : Int => [AV.int .i64 n]) (fun n => -9223372036854775808 ≤ n ∧ n ≤ 9223372036854775807) (fun _ => 1) := rep_int ht (cells_tab hs (by decide))

theorem rep_bytes : Rep 32 (fun d : List UInt8 => [AV.sl (d.map byteRow)]) (fun l => ∀ x, x ∈ l → True) (fun l => szL (fun _ => 1) l + 1) :=
  rep_slice Tryd.underlying32 (cells_tab (t := 32) (n := 1) rfl (by decide)) (rep_byte Tryd.underlying5 (cells_tab (t := 5) (n := 1) rfl (by decide))) (by rw [cells_tab (t := 5) (n := 1) rfl (by decide)]; decide)

def i64 (n : Int) : Prop := -9223372036854775808 ≤ n ∧ n ≤ 9223372036854775807

structure Entry.Ok (e : Entry) : Prop where
  fid : i64 e.fid
structure Node.Ok (n : Node) : Prop where
  fid : i64 n.fid
  entries : ∀ e, e ∈ n.entries → e.Ok
  version : i64 n.version
structure Act.Ok (a : Act) : Prop where
  kind : i64 a.kind
  fid : i64 a.fid
  dir : i64 a.dir
  to : i64 a.to
structure Rec.Ok (r : Rec) : Prop where
  act : r.act.Ok
  version : i64 r.version
  id : i64 r.id
def Entry.sz (e : Entry) : Nat := e.name.length + 1
def Node.sz (n : Node) : Nat := n.data.length + szL Entry.sz n.entries + 1
def Act.sz (a : Act) : Nat := a.name.length + a.toName.length + a.data.length + 1
def Rec.sz (r : Rec) : Nat := r.act.sz + 1
theorem szL_ones {α : Type} : ∀ (l : List α), szL (fun _ => 1) l = l.length
  | [] => rfl
  | x :: r => by simp only [szL, szL_ones r, List.length_cons]; omega

theorem rep_act : Rep 34 actRow Act.Ok Act.sz where
  size := fun x => by rw [cells_tab (t := 34) (n := 7) rfl (by decide)]; rfl
  opn := fun enc w n cs y h => by
    obtain ⟨xs, m, rfl, rfl, hl, hxl, hf⟩ := DataW.trod_struct Tryd.underlying34 h
    obtain ⟨y0, y1, y2, y3, y4, y5, y6, rfl⟩ : ∃ y0 y1 y2 y3 y4 y5 y6, xs = [y0, y1, y2, y3, y4, y5, y6] := by
      have hxl : xs.length = 7 := hxl
      match xs, hxl with
      | [a0, a1, a2, a3, a4, a5, a6], _ => exact ⟨a0, a1, a2, a3, a4, a5, a6, rfl⟩
    have e0 : DataW.trod enc Tryd.prog w 0 (fun _ => true) true m 3 ((cs.drop 0).take ((Tryd.prog).cellsOf 3)) = some y0 := hf 0 _ rfl
    obtain ⟨x0, q0, s0, r0⟩ := (rep_i 3 Tryd.underlying3 rfl).opn enc w m _ _ e0
    rw [cells_tab (t := 3) (n := 1) rfl (by decide)] at r0
    have e1 : DataW.trod enc Tryd.prog w 0 (fun _ => true) true m 3 ((cs.drop 1).take ((Tryd.prog).cellsOf 3)) = some y1 := hf 1 _ rfl
    obtain ⟨x1, q1, s1, r1⟩ := (rep_i 3 Tryd.underlying3 rfl).opn enc w m _ _ e1
    rw [cells_tab (t := 3) (n := 1) rfl (by decide)] at r1
    have e2 : DataW.trod enc Tryd.prog w 0 (fun _ => true) true m 3 ((cs.drop 2).take ((Tryd.prog).cellsOf 3)) = some y2 := hf 2 _ rfl
    obtain ⟨x2, q2, s2, r2⟩ := (rep_i 3 Tryd.underlying3 rfl).opn enc w m _ _ e2
    rw [cells_tab (t := 3) (n := 1) rfl (by decide)] at r2
    have e3 : DataW.trod enc Tryd.prog w 0 (fun _ => true) true m 9 ((cs.drop 3).take ((Tryd.prog).cellsOf 9)) = some y3 := hf 3 _ rfl
    obtain ⟨x3, q3, s3, r3⟩ := (rep_str Tryd.underlying9 (cells_tab (t := 9) (n := 1) rfl (by decide))).opn enc w m _ _ e3
    rw [cells_tab (t := 9) (n := 1) rfl (by decide)] at r3
    have e4 : DataW.trod enc Tryd.prog w 0 (fun _ => true) true m 3 ((cs.drop 4).take ((Tryd.prog).cellsOf 3)) = some y4 := hf 4 _ rfl
    obtain ⟨x4, q4, s4, r4⟩ := (rep_i 3 Tryd.underlying3 rfl).opn enc w m _ _ e4
    rw [cells_tab (t := 3) (n := 1) rfl (by decide)] at r4
    have e5 : DataW.trod enc Tryd.prog w 0 (fun _ => true) true m 9 ((cs.drop 5).take ((Tryd.prog).cellsOf 9)) = some y5 := hf 5 _ rfl
    obtain ⟨x5, q5, s5, r5⟩ := (rep_str Tryd.underlying9 (cells_tab (t := 9) (n := 1) rfl (by decide))).opn enc w m _ _ e5
    rw [cells_tab (t := 9) (n := 1) rfl (by decide)] at r5
    have e6 : DataW.trod enc Tryd.prog w 0 (fun _ => true) true m 32 ((cs.drop 6).take ((Tryd.prog).cellsOf 32)) = some y6 := hf 6 _ rfl
    obtain ⟨x6, q6, s6, r6⟩ := (rep_bytes).opn enc w m _ _ e6
    rw [cells_tab (t := 32) (n := 1) rfl (by decide)] at r6
    refine ⟨⟨x0, x1, x2, x3, x4, x5, x6⟩, ⟨q0, q1, q2, q4⟩, ?_, ?_⟩
    · simp only [szL_ones] at s6
      simp only [Act.sz, Rows.uptoBulk, Rows.uptoBulkAll, List.map_cons, List.map_nil]; omega
    · have hl : cs.length = 7 := by rw [hl, cells_tab (t := 34) (n := 7) rfl (by decide)]
      have := rdc_cons 0 1 r0 rfl (rdc_cons 1 1 r1 rfl (rdc_cons 2 1 r2 rfl (rdc_cons 3 1 r3 rfl (rdc_cons 4 1 r4 rfl (rdc_cons 5 1 r5 rfl (rdc_cons 6 1 r6 rfl (rdc_nil hl)))))))
      rw [List.drop_zero] at this
      exact this

theorem rep_rec : Rep 36 recRow Rec.Ok Rec.sz where
  size := fun x => by rw [cells_tab (t := 36) (n := 9) rfl (by decide)]; rfl
  opn := fun enc w n cs y h => by
    obtain ⟨xs, m, rfl, rfl, hl, hxl, hf⟩ := DataW.trod_struct Tryd.underlying36 h
    obtain ⟨y0, y1, y2, rfl⟩ : ∃ y0 y1 y2, xs = [y0, y1, y2] := by
      have hxl : xs.length = 3 := hxl
      match xs, hxl with
      | [a0, a1, a2], _ => exact ⟨a0, a1, a2, rfl⟩
    have e0 : DataW.trod enc Tryd.prog w 0 (fun _ => true) true m 34 ((cs.drop 0).take ((Tryd.prog).cellsOf 34)) = some y0 := hf 0 _ rfl
    obtain ⟨x0, q0, s0, r0⟩ := (rep_act).opn enc w m _ _ e0
    rw [cells_tab (t := 34) (n := 7) rfl (by decide)] at r0
    have e1 : DataW.trod enc Tryd.prog w 0 (fun _ => true) true m 3 ((cs.drop 7).take ((Tryd.prog).cellsOf 3)) = some y1 := hf 1 _ rfl
    obtain ⟨x1, q1, s1, r1⟩ := (rep_i 3 Tryd.underlying3 rfl).opn enc w m _ _ e1
    rw [cells_tab (t := 3) (n := 1) rfl (by decide)] at r1
    have e2 : DataW.trod enc Tryd.prog w 0 (fun _ => true) true m 3 ((cs.drop 8).take ((Tryd.prog).cellsOf 3)) = some y2 := hf 2 _ rfl
    obtain ⟨x2, q2, s2, r2⟩ := (rep_i 3 Tryd.underlying3 rfl).opn enc w m _ _ e2
    rw [cells_tab (t := 3) (n := 1) rfl (by decide)] at r2
    refine ⟨⟨x0, x1, x2⟩, ⟨q0, q1, q2⟩, ?_, ?_⟩
    · simp only [Rec.sz, Rows.uptoBulk, Rows.uptoBulkAll, List.map_cons, List.map_nil]; omega
    · have hl : cs.length = 9 := by rw [hl, cells_tab (t := 36) (n := 9) rfl (by decide)]
      have := rdc_cons 0 7 r0 rfl (rdc_cons 7 1 r1 rfl (rdc_cons 8 1 r2 rfl (rdc_nil hl)))
      rw [List.drop_zero] at this
      exact this

theorem rep_recs : Rep 31 (fun l : List Rec => [AV.sl (l.map recRow)]) (fun l => ∀ x, x ∈ l → x.Ok) (fun l => szL Rec.sz l + 1) :=
  rep_slice Tryd.underlying31 (cells_tab (t := 31) (n := 1) rfl (by decide)) rep_rec (by rw [cells_tab (t := 36) (n := 9) rfl (by decide)]; decide)

theorem rep_strs : Rep 22 (fun l : List (List UInt8) => [AV.sl (l.map strRow)]) (fun l => ∀ x, x ∈ l → True) (fun l => szL (fun s : List UInt8 => s.length + 1) l + 1) :=
  rep_slice Tryd.underlying22 (cells_tab (t := 22) (n := 1) rfl (by decide)) (rep_str Tryd.underlying9 (cells_tab (t := 9) (n := 1) rfl (by decide))) (by rw [cells_tab (t := 9) (n := 1) rfl (by decide)]; decide)

/-! ### Arguments -/

/-- an argument, opened -/
theorem open_arg {t : TypeId} {α : Type} {f : α → List AV} {q : α → Prop} {sz : α → Nat} (h : Rep t f q sz) {H : Type} {enc : TypeId × Value → H} {w : World} {v : Value} {d : DataW H} {ps : List MemPlace}
    (hd : DataW.Trod enc Tryd.prog w 0 (fun _ => true) true t v d ps) : ∃ x, q x ∧ sz x ≤ Rows.uptoBulk d ∧ RdC w v.cells.toList (f x) := by
  obtain ⟨n, hn⟩ := hd
  exact h.opn enc w n _ _ hn

/-- of one cell -/
theorem rdc_one {w : World} {v : Value} {x : AV} (h : RdC w v.cells.toList [x]) (hv : ∀ cs, v ≠ .agg cs) : RdP (fun b => b < w.heap.size) w v x := by
  have := h.2 0 x rfl
  cases v with
  | agg cs => exact absurd rfl (hv cs)
  | _ => exact this

theorem rdc_agg {w : World} {cs : Array Value} {xs : List AV} (h : RdC w (Value.agg cs).cells.toList xs) : RdP (fun b => b < w.heap.size) w (.agg cs) (.agg xs) := by
  refine .agg cs xs (by have h1 : cs.toList.length = xs.length := h.1; simpa using h1) fun j y hj => ?_
  have := h.2 j y hj
  rwa [List.getD_eq_getElem?_getD, Array.getElem?_toList, ← Array.getD_eq_getD_getElem?] at this

/-! ### What is not large -/
theorem Act.sz_data (a : Act) : a.data.length ≤ a.sz := by unfold Act.sz; omega
theorem nodeSmall_of {n : Node} (h : n.sz ≤ 1048576) : n.Small := by
  have h1 := szL_len (sz := Entry.sz) (fun e => by unfold Entry.sz; omega) n.entries
  unfold Node.sz at h
  exact ⟨by omega, by omega⟩
theorem small_of {l : List Node} (h : szL Node.sz l ≤ 1048576) : Small l :=
  ⟨by have := szL_len (sz := Node.sz) (fun r => by unfold Node.sz; omega) l; omega, fun r hr => nodeSmall_of (by have := szL_mem (sz := Node.sz) hr; omega)⟩
theorem nodes_len {l : List Node} (h : szL Node.sz l ≤ 1048576) : l.length ≤ 99999999 := by
  have := szL_len (sz := Node.sz) (fun r => by unfold Node.sz; omega) l; omega
theorem entries_len {n : Node} (h : n.sz ≤ 1048576) : n.entries.length ≤ 99999999 := by
  have h1 := szL_len (sz := Entry.sz) (fun e => by unfold Entry.sz; omega) n.entries
  unfold Node.sz at h
  omega
end La

namespace La
open Go Go.Eng Go.Proofs Go.Proofs.YtenlcncffplamaaDoor

theorem strs_len {l : List (List UInt8)} (h : szL (fun s : List UInt8 => s.length + 1) l ≤ 1048576) : l.length ≤ 1000000 + 48576 := by
  have := szL_len (sz := fun s : List UInt8 => s.length + 1) (fun s => by omega) l; omega
theorem strs_lens : ∀ l : List (List UInt8), Lib.lens l ≤ szL (fun s : List UInt8 => s.length + 1) l
  | [] => Nat.le_refl _
  | x :: l => by
    have := strs_lens l
    simp only [Lib.lens, szL, List.map_cons, List.sum_cons] at this ⊢
    omega
theorem strs_mem {l : List (List UInt8)} (h : szL (fun s : List UInt8 => s.length + 1) l ≤ 1048576) : ∀ x, x ∈ l → x.length ≤ 10000000 := fun x hx => by
  have := szL_mem (sz := fun s : List UInt8 => s.length + 1) hx
  omega

def put (w : World) (b : Nat) (l : List Value) : World :=
  { w with heap := w.heap.modify b fun
      | .cells _ t frozen => .cells l.toArray t frozen
      | o => o }

noncomputable def laidWorld (os : Os) : World :=
  put (put (World.holding Tryd.prog os ⟨#[], #[], []⟩) 4 (Pinned.utf8FirstZ.map fun (n : Nat) => Value.int .u8 n)) 5 [.int .u8 128, .int .u8 191, .int .u8 160, .int .u8 191, .int .u8 128, .int .u8 159, .int .u8 144, .int .u8 191, .int .u8 128, .int .u8 143, .int .u8 0, .int .u8 0, .int .u8 0, .int .u8 0, .int .u8 0, .int .u8 0, .int .u8 0, .int .u8 0, .int .u8 0, .int .u8 0, .int .u8 0, .int .u8 0, .int .u8 0, .int .u8 0, .int .u8 0, .int .u8 0, .int .u8 0, .int .u8 0, .int .u8 0, .int .u8 0, .int .u8 0, .int .u8 0]
end La

namespace Go.Proofs.YtenlcncffplamaaDoor.namesTurns
set_option maxRecDepth 100000
set_option linter.unusedSimpArgs false
set_option linter.unusedVariables false
open Go Go.ChangeShapes Go.WideShapes Go.ChangeAt Go.RowKit Go.Eng

theorem contract (H : Type) (enc : TypeId × Value → H) (W : World) (base : Nat) (args : Array Value) (ds gs : List (DataW H)) (before : List MemPlace)
    (hval : ∀ (j : Nat) t v, Tryd.f4.params[j]? = some t → args[j]? = some v → Value.okWide Tryd.prog W .any base t v)
    (hW : DataW.Whole enc Tryd.prog Tryd.f4.params.toList Rows.namesTurnsSpec.vars false W args.toList ds gs before) (hk : Rows.uptoSmall H (ds ++ gs) = true)
    (hL : laidMetH Tryd.prog Rows.namesTurnsUptoRow.laid W) (hshp : W.ShapedOpen Tryd.prog) :
    Calls Tryd.prog 4 args W fun e W' => ∃ v, e = .returned v ∧ Rows.namesTurnsSpec.post enc Tryd.prog Tryd.f4 false true false false W args v W' := by
  have hW' := hW
  obtain ⟨p, q, hA0, hV, rfl, hfz, hnd⟩ := hW
  have hA : DataW.TrodAll enc Tryd.prog W 0 (fun _ => true) true Tryd.f4.params.toList args.toList ds p := hA0
  rw [Tryd.params4] at hA hval
  obtain ⟨v0, vs0, d0, ds0, p0, q0, hargs, rfl, rfl, h0, r0⟩ := trodAll_cons hA
  obtain ⟨v1, vs1, d1, ds1, p1, q1, rfl, rfl, rfl, h1, r1⟩ := trodAll_cons r0
  obtain ⟨rfl, rfl, rfl⟩ := trodAll_nil r1
  obtain rfl : args = #[v0, v1] := by cases args; simp_all
  obtain ⟨rfl, rfl⟩ := trodVars_none hV
  have hk2 : Rows.uptoBulkAll [d0, d1] ≤ 1048576 := of_decide_eq_true hk
  simp only [Rows.uptoBulkAll] at hk2
  obtain ⟨x0, o0, s0, c0⟩ := La.open_arg (La.rep_str Tryd.underlying9 (La.cells_tab (t := 9) (n := 1) rfl (by decide))) h0
  obtain ⟨b0, rfl⟩ := okWide_string Tryd.underlying9 (hval 0 9 v0 rfl rfl)
  have R0 := La.rdc_one c0 (fun _ h => nomatch h)
  obtain ⟨x1, o1, s1, c1⟩ := La.open_arg (La.rep_strs) h1
  obtain ⟨a1, len1, cap1, rfl⟩ := okWide_slice Tryd.underlying22 (hval 1 22 v1 rfl rfl)
  have R1 := La.rdc_one c1 (fun _ h => nomatch h)
  refine (calls_of_fn (La.names_turns x0 x1 (by omega) (by have := La.strs_len (l := x1) (by omega); omega) (by have := La.strs_lens x1; omega) (La.strs_mem (by omega))) (w := W) (vs := [.string b0, .slice a1 len1 cap1]) rfl (S := fun b => b < W.heap.size) (fun j x h => ?_) (fun _ h => h) ⟨fun _ h => h.elim, trivial⟩).mono fun e W' ⟨v, μ, S', he, hv, hf⟩ => ?_
  · rcases j with _ | _ | j
    · simp only [List.getElem?_cons_zero, List.getElem?_cons_succ, Option.some.injEq] at h; subst h; exact R0
    · simp only [List.getElem?_cons_zero, List.getElem?_cons_succ, Option.some.injEq] at h; subst h; exact R1
    · simp at h
  subst he
  obtain rfl := hv.inv_bool
  exact ⟨_, rfl, post_true La.laid La.rowed La.full (by rw [Tryd.params4]; decide) rfl Tryd.underlying4 rfl hW' hf rfl rfl rfl⟩

theorem laid_met (os : Os) : laidMet Tryd.prog Rows.namesTurnsUptoRow.laid ((La.laidWorld os).forCall (fun _ _ => 0) ⟨#[], #[.string ⟨#[]⟩, .slice none 0 0], []⟩).memory :=
  laidMet_of_run' 8 (by kernel_rfl) (by kernel_rfl)
theorem reads (os : Os) {H : Type} (enc : TypeId × Value → H) : ∃ places, DataW.whole enc Tryd.prog ((La.laidWorld os).forCall (fun _ _ => 0) ⟨#[], #[.string ⟨#[]⟩, .slice none 0 0], []⟩).memory Tryd.f4.params.toList Rows.namesTurnsSpec.vars false (#[.string ⟨#[]⟩, .slice none 0 0] : Array Value).toList 8 = some ([.lit (.string []), .nil], [], places) :=
  ⟨[], by kernel_rfl⟩

theorem lifted (os : Os) (started : os.Started) (H : Type) (enc : TypeId × Value → H) (F : Stop.Interp) :
    ReturnsInHanded {} Tryd.checked os 4 .any ((Rows.OpenSpec.upto Rows.namesTurnsSpec).preRow enc Tryd.prog Tryd.f4 Rows.namesTurnsUptoRow.domain false Rows.namesTurnsUptoRow.laid) (((Rows.OpenSpec.upto Rows.namesTurnsSpec).at F).post enc Tryd.prog Tryd.f4 false true false false) := by
  obtain ⟨places, hx⟩ := reads os enc
  refine returnsInHanded_of_row (C := Tryd.checked) (s := Rows.OpenSpec.upto Rows.namesTurnsSpec) La.own started (by kernel_rfl) Tryd.func4
    (witness_row_at (enc := enc) (C := Tryd.checked) false (La.laidWorld os) #[.string ⟨#[]⟩, .slice none 0 0] rfl (by kernel_rfl) (by kernel_rfl) (by kernel_rfl)
      (OpenSpec.preRow_of_cond 8 hx (by kernel_rfl) (fun k hk => by cases hk; kernel_rfl) (by kernel_rfl) (laid_met os))) ?_
  intro W base args ds gs before hval hW _ hk _ hL hsh _
  exact contract H enc W base args ds gs before hval hW (hk _ rfl) hL hsh

theorem over : Rows.namesTurnsUptoRow.holds Tryd.pinned (Rows.OpenSpec.upto Rows.namesTurnsSpec) :=
  OpenClaim.holds_of_cond 4 Tryd.f4 rfl rfl rfl rfl rfl rfl rfl ⟨rfl, rfl, rfl, rfl, rfl⟩ rfl rfl rfl rfl rfl (by kernel_rfl) Tryd.func4 (by kernel_rfl)
    (of_decide_eq_true (by kernel_rfl)) (by unfold Func.isWrapper; first | (rw [if_pos (by decide +kernel)]; kernel_rfl) | (rw [if_neg (by decide +kernel)]; exact ⟨rfl, rfl⟩))
    (fun os started H enc _ F => by rw [OpenClaim.pre_eq_preRow]; exact lifted os started H enc F)

theorem plain (f : FuncId) (fn : Func) (hf : Tryd.pinned.checked.prog.funcNamed "longabsence/lalaw1.NamesTurns" = some f) (hfn : Tryd.pinned.checked.prog.funcs[f]? = some fn) :
    true = Tryd.pinned.checked.prog.looks [] ∧ ∀ (j : Nat) t, fn.params[j]? = some t → Tryd.pinned.checked.prog.wantsStandIn t = false := by
  obtain rfl : f = 4 := Option.some.inj ((show Tryd.prog.funcNamed "longabsence/lalaw1.NamesTurns" = some 4 by kernel_rfl).symm.trans hf) |>.symm
  obtain rfl : fn = Tryd.f4 := (Option.some.inj (Tryd.func4.symm.trans hfn)).symm
  refine ⟨by kernel_rfl, fun j t ht => ?_⟩
  rw [Tryd.params4] at ht
  rcases j with _ | _ | j
  · obtain rfl : t = 9 := by simpa using ht.symm
    exact (show Tryd.prog.wantsStandIn 9 = false by kernel_rfl)
  · obtain rfl : t = 22 := by simpa using ht.symm
    exact (show Tryd.prog.wantsStandIn 22 = false by kernel_rfl)
  · simp at ht

theorem proved : Rows.NamesTurnsUptoCardSaid :=
  Claim7.holds_tied_plain_at .later [] _ _ _ _ over (fun _ h => by cases h) (by kernel_rfl) (fun _ h => by cases h) namesTurnsUpto_row_tie rfl ⟨rfl, rfl⟩ (by kernel_rfl) rfl plain (by kernel_rfl)
end Go.Proofs.YtenlcncffplamaaDoor.namesTurns
