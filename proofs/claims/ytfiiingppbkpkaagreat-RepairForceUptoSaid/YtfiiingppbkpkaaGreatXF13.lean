/- Texts of this claim, part 13: Ent, OwnH, Aux, Hof2, Enter, Nam, Doer. No condition. -/
import Derived.Test.YtfiiingppbkpkaaGreatXF12
import Derived.Test.YtfiiingppbkpkaaGreatXF11
import Derived.Test.YtfiiingppbkpkaaGreatXF10
import Derived.Test.YtfiiingppbkpkaaGreatXF9
import Derived.Test.YtfiiingppbkpkaaGreatXF8
set_option maxRecDepth 10000
set_option maxHeartbeats 4000000
set_option linter.unusedSimpArgs false
set_option linter.unusedVariables false
namespace La
open Go Go.Eng Go.Proofs
def cmpS (a b : List UInt8) : Int := if a < b then -1 else if b < a then 1 else 0
theorem cmpS_lt (a b : List UInt8) : decide (cmpS a b < 0) = decide (a < b) := by
 unfold cmpS
 split
 ·rename_i h; simp [h]
 ·rename_i h
  split
  ·simp [h]
  ·simp [h]
theorem cmpS_eq (a b : List UInt8) : decide (cmpS a b = 0) = decide (a = b) := by
 unfold cmpS
 split
 ·rename_i h
  have : a ≠ b := by rintro rfl; exact sirr _ h
  simp [this]
 ·rename_i h
  split
  ·rename_i h2
   have : a ≠ b := by rintro rfl; exact sirr _ h2
   simp [this]
  ·rename_i h2
   simp [stri h h2]
theorem isNaNS_ok (a : List UInt8) : FnOK Tryz.prog 128 [.str a] [] (fun r _ => r = .bool false) := by
 refine ZF tK (Tryz.func128) rfl (fun C => ?_)
 simp only [Tryz.ntmps128, Tryz.results128, go_sem]
 refine wG tK ?_
 refine wT ?_
 simp
theorem compareS_ok (a b : List UInt8) : FnOK Tryz.prog 114 [.str a, .str b] [] (fun r _ => r = .int .i64 (cmpS a b)) := by
 refine ZF tK (Tryz.func114) rfl (fun C => ?_)
 simp only [Tryz.ntmps114, Tryz.results114, go_sem]
 refine wG tK ?_
 refine wC Tryz.func128 (hf := (isNaNS_ok a)) (hk := ?_)
 refine wG tK ?_
 refine wC Tryz.func128 (hf := (isNaNS_ok b)) (hk := ?_)
 refine wG tK ?_
 refine wD (fun h => ?_) (fun h => ?_)
 ·cases h
 refine wG tK ?_
 refine wD (fun h => ?_) (fun h => ?_)
 ·cases h
 refine wG tK ?_
 refine wD (fun h => ?_) (fun h => ?_)
 ·rename_i h0 h1
  have hab : a < b := by rw [less_iff] at h; exact of_decide_eq_true h
  refine wG tK ?_
  refine wT ?_
  simp [cmpS, hab]
 have hab : ¬ a < b := by rw [less_iff] at h; exact of_decide_eq_false h
 refine wG tK ?_
 refine wD (fun h => ?_) (fun h => ?_)
 ·have hba : b < a := by
   rw [less_iff] at h
   by_cases h3 : b < a
   ·exact h3
   ·have := stri hab h3
    subst this
    simp at h
  refine wG tK ?_
  refine wT ?_
  simp [cmpS, hab, hba]
 have hba : ¬ b < a := by
  intro h3
  have hne : a ≠ b := by rintro rfl; exact sirr _ h3
  rw [less_iff] at h
  simp [hab, hne] at h
 refine wG tK ?_
 refine wT ?_
 simp [cmpS, hab, hba]
theorem entryCmp_ok (e : Entry) (s : List UInt8) : FnOK Tryz.prog 126 [.agg (ZE e), .str s] [] (fun r _ => r = .int .i64 (cmpS e.name s)) := by
 unfold ZE
 refine ZF tK (Tryz.func126) rfl (fun C => ?_)
 simp only [Tryz.ntmps126, Tryz.results126, go_sem]
 refine wG tK ?_
 refine wC Tryz.func114 (hf := (compareS_ok e.name s)) (hk := ?_)
 refine wG tK ?_
 refine wT ?_
 rfl
theorem enterCmp_ok (e : Entry) (s : List UInt8) : FnOK Tryz.prog 113 [.agg (ZE e), .str s] [] (fun r _ => r = .int .i64 (cmpS e.name s)) := by
 unfold ZE
 refine ZF tK (Tryz.func113) rfl (fun C => ?_)
 simp only [Tryz.ntmps113, Tryz.results113, go_sem]
 refine wG tK ?_
 refine wC Tryz.func114 (hf := (compareS_ok e.name s)) (hk := ?_)
 refine wG tK ?_
 refine wT ?_
 rfl
theorem entry_search (l : List Entry) (s : List UInt8) (hlen : l.length ≤ 100000000) {f : FuncId} (hcal : Callable Tryz.prog f) (hf : ∀ e, FnOK Tryz.prog f [.agg (ZE e), .str s] [] (fun r _ => r = .int .i64 (cmpS e.name s))) :
  FnOK Tryz.prog 112 [.sl (l.map ZE), .str s, .fn f []] [] (fun r _ => r = .tup [.int .i64 (eplace l s), .bool (isE l s)]) := by
 refine ZF tK (Tryz.func112) rfl (fun C => ?_)
 simp only [Tryz.ntmps112, Tryz.results112, go_sem]
 refine wG tK ?_
 refine ZL (fun i : Nat × Nat => i.1 ≤ i.2 ∧ i.2 ≤ l.length ∧ bsearch (eltAt l s) (i.2 - i.1) i.1 i.2 = eplace l s) (fun i => i.2 - i.1) (fun i => [(9, .int .i64 i.1), (10, .int .i64 i.2), (11, .any), (15, .any), (16, .any), (17, .any), (18, .any), (19, .any), (20, .any), (21, .any), (22, .any), (23, .any), (24, .any), (25, .any), (26, .any), (27, .any), (28, .any), (29, .any), (30, .any), (31, .any), (32, .any), (33, .any), (34, .any)]) (fun _ => []) (0, l.length) ⟨by simp, by simp, rfl⟩ ?_ fun i hi => ?_
 ·simp only [go_sem]
  exact ZU (by simp [go_sem]) (by simp [go_sem]) (by simp [go_sem])
 obtain ⟨lo, hi'⟩ := i
 obtain ⟨h1, h2, h3⟩ := hi
 simp only at h1 h2 h3
 simp only [go_sem]
 refine wG tK ?_
 refine wD (fun h => ?_) (fun h => ?_)
 ·have hlt : lo < hi' := by simp at h; omega
  have hml : (lo + hi') / 2 < l.length := by omega
  have hn := hf (l.getD ((lo + hi') / 2) default)
  have hg : (l.map ZE).getD ((lo + hi') / 2) [] = ZE (l.getD ((lo + hi') / 2) default) := Fam.getD hml
  have hmid : IntKind.i64.wrap ((IntKind.u64.wrap (IntKind.i64.wrap ((lo : Int) + (hi' : Int)))).fdiv (2 ^ min 1 64)) = (((lo + hi') / 2 : Nat) : Int) := mid_ok (by omega)
  have hst := bsearch_step (eltAt l s) hlt
  have hlm : eltAt l s ((lo + hi') / 2) = decide ((l.getD ((lo + hi') / 2) default).name < s) := rfl
  have hm1 : lo ≤ (lo + hi') / 2 := by omega
  have hm2 : (lo + hi') / 2 < hi' := by omega
  generalize l.getD ((lo + hi') / 2) default = n at hn hg hlm
  generalize (lo + hi') / 2 = m at *
  refine wGq tK ?_ ?_ (by simp only [go_sem, hmid, hg, ZE]; try exact rfl)
  ·simp [hmid, hg, hml, ZE]
  refine cw_call rfl rfl (by simp only [go_sem]; try exact rfl) (by simp [go_sem]) hcal (by simp [go_sem, ne_eq]) (hn) (by simp [go_sem]) (by simp only [go_sem]; exact rfl) ?_
  refine wG tK ?_
  refine wD (fun h => ?_) (fun h => ?_)
  ·rw [cmpS_lt, ← hlm] at h
   rw [h, if_pos rfl] at hst
   have hw : IntKind.i64.wrap ((m : Int) + 1) = ((m + 1 : Nat) : Int) := by rw [Eng.wrap_small (by omega) (by omega)]; omega
   refine wG tK ?_ (by simp only [go_sem, hw]; try exact rfl) (by simp [go_sem, hw])
   refine ZB ⟨(m + 1, hi'), ⟨by omega, h2, hst ▸ h3⟩, by simp; omega, ZU ?_ ?_ ?_⟩
   ·simp [go_sem]
   ·simp [go_sem]
   ·simp [go_sem]
  ·rw [cmpS_lt, ← hlm] at h
   rw [h, if_neg (by simp)] at hst
   refine wG tK ?_
   refine ZB ⟨(lo, m), ⟨by omega, by omega, hst ▸ h3⟩, by simp; omega, ZU ?_ ?_ ?_⟩
   ·simp [go_sem]
   ·simp [go_sem]
   ·simp [go_sem]
 ·have hge : ¬ lo < hi' := by simp at h; omega
  rw [bsearch_end _ hge] at h3
  subst h3
  refine wR ?_
  refine wN tK 5 ?_
  refine cw_name 39 (by simp only [go_sem]; exact rfl) (fun c39 h39 => ?_)
  simp only [go_sem]
  cases c39 with
  | true =>
   have hpl : eplace l s < l.length := by have := of_decide_eq_true h39; omega
   have hn := hf (l.getD (eplace l s) default)
   have hg : (l.map ZE).getD (eplace l s) [] = ZE (l.getD (eplace l s) default) := Fam.getD hpl
   have hat : isE l s = decide ((l.getD (eplace l s) default).name = s) := by simp [isE, hpl]
   generalize l.getD (eplace l s) default = n at hn hg hat
   refine wGq tK ?_ ?_ (by simp only [go_sem, hg, ZE]; try exact rfl)
   ·simp [hg, hpl, ZE]
   refine cw_callC rfl (by simp only [go_sem]; try exact rfl) (by simp only [go_sem]; try exact rfl) (by simp [go_sem]) hcal (by simp [go_sem]) (fun hb => (hn)) (by simp [go_sem]) (by simp only [go_sem]; exact rfl) ?_
   refine wG tK ?_
   refine wT ?_
   have e : (cmpS n.name s == 0) = decide (n.name = s) := by rw [← cmpS_eq]; by_cases h0 : cmpS n.name s = 0 <;> simp [h0]
   simp [hat, e]
  | false =>
   have hpl : ¬ eplace l s < l.length := by have := of_decide_eq_false h39; omega
   have hat : isE l s = false := by simp [isE, hpl]
   refine wG tK ?_
   refine cw_pass (.int .i64 0) rfl ?_
   simp only [go_sem]
   refine wG tK ?_
   refine wT ?_
   simp [hat]
def optInt : Option Int → AV
 | none => .tup [.int .i64 0, .bool false]
 | some f => .tup [.int .i64 f, .bool true]
@[go_sem, simp] theorem optInt_refs (o : Option Int) : refs (optInt o) = [] := by cases o <;> simp [optInt, refs, refsL]
theorem entry_ok (n : Node) (s : List UInt8) (hn : n.Small) : FnOK Tryz.prog 110 [.agg (ZN n), .str s] [] (fun r _ => r = optInt (entryN n s)) := by
 have hlen := hn.entries
 unfold ZN
 refine ZF tK (Tryz.func110) rfl (fun C => ?_)
 simp only [Tryz.ntmps110, Tryz.results110, go_sem]
 refine wG tK ?_
 refine wC Tryz.func112 (hf := (entry_search n.entries s hlen ⟨_, Go.Proofs.Tryz.func126, by kernel_rfl, rfl⟩ (fun e => entryCmp_ok e s))) (hk := ?_)
 refine wG tK ?_
 refine wD (fun h => ?_) (fun h => ?_)
 ·have hat : isE n.entries s = false := by simpa using h
  refine wG tK ?_
  refine wT ?_
  simp [entryN, hat, optInt]
 ·have hat : isE n.entries s = true := by simpa using h
  have hpl : eplace n.entries s < n.entries.length := by
   unfold isE at hat
   rw [Bool.and_eq_true] at hat
   exact of_decide_eq_true hat.1
  have hg : (n.entries.map ZE).getD (eplace n.entries s) [] = ZE (n.entries.getD (eplace n.entries s) default) := Fam.getD hpl
  have hr : entryN n s = some (n.entries.getD (eplace n.entries s) default).fid := by simp [entryN, hat]
  rw [hr]
  generalize n.entries.getD (eplace n.entries s) default = e at hg
  refine wGq tK ?_ ?_ (by simp only [go_sem, hg, ZE]; try exact rfl)
  ·simp [hg, hpl, ZE]
  refine wT ?_
  simp [optInt]
theorem clone_entriesH (d : List Entry) (hd : d.length ≤ 100000000) : FnOK Tryz.prog 67 [.sl (d.map ZE)] [] (fun r H => r = .osl 7 2 0 d.length ∧ ∀ i b, hget [(7, .cells 135 2 (d.map ZE))] i = some b → hget H i = some b) := by
 refine ZF tK (Tryz.func67) rfl (fun C => ?_)
 simp only [Tryz.ntmps67, Tryz.results67, go_sem]
 refine wG tK ?_
 refine cw_nileq tK rfl rfl rfl (by first | rfl | (simp only [go_sem]; exact rfl)) (by first | rfl | (simp only [go_sem]; exact rfl)) (fun b hb => ?_)
 simp only [go_sem]
 refine wG tK ?_
 refine wD (fun h => ?_) (fun h => ?_)
 ·have hn : d.map ZE = [] := hb h
  have hd0 : d = [] := by simpa using hn
  subst hd0
  refine cw_le (le_empty 7 135 2 rfl) ?_
  refine wG tK ?_
  refine cw_ret ⟨_, _, by simp only [go_sem]; try exact rfl, by simp [go_sem], .osl 7 2 0 0, .inr (.inr ⟨rfl, .inr ⟨7, 2, 0, rfl⟩⟩), ?_⟩
  simp [go_sem]
 ·refine wGq tK ?_ ?_
  ·simp; omega
  refine wT ?_
  simp [go_sem]
def heldRow (n : Node) (id : Nat) : List AV := [.int .i64 n.fid, .bool n.dir, .sl (n.data.map ZY), .osl id 2 0 n.entries.length, .int .i64 n.version]
@[go_sem, simp] theorem heldRow_eq (n : Node) (id : Nat) : heldRow n id = [.int .i64 n.fid, .bool n.dir, .sl (n.data.map ZY), .osl id 2 0 n.entries.length, .int .i64 n.version] := rfl
theorem own_oneH (n : Node) (hn : n.Small) : FnOK Tryz.prog 38 [.sl [ZN n]] [] (fun r H => r = .osl 23 5 0 1 ∧ ∀ i b, hget [(23, .cells 60 5 [heldRow n 1000]), (1000, .cells 135 2 (n.entries.map ZE))] i = some b → hget H i = some b) := by
 refine ZF tK (Tryz.func38) rfl (fun C => ?_)
 simp only [Tryz.ntmps38, Tryz.results38, go_sem]
 refine wG tK ?_
 refine ZL (fun _ : Bool => True) (fun i => cond i 1 0) (fun i => match i with
   | true => [(3, .osl 23 5 0 0), (5, .any), (8, .int .i64 0), (9, .any), (10, .any), (11, .any), (12, .any), (13, .any), (14, .any), (15, .any), (16, .any), (17, .any), (18, .any), (19, .any), (20, .any), (21, .any), (22, .any), (23, .any), (24, .any)]
   | false => [(3, .osl 23 5 0 1), (5, .any), (8, .int .i64 1), (9, .any), (10, .any), (11, .any), (12, .any), (13, .any), (14, .any), (15, .any), (16, .any), (17, .any), (18, .any), (19, .any), (20, .any), (21, .any), (22, .any), (23, .any), (24, .any)])
  (fun i => match i with
   | true => [(23, .cells 60 5 [])]
   | false => [(23, .cells 60 5 [heldRow n 1000]), (1000, .cells 135 2 (n.entries.map ZE))]) true trivial ?_ fun i hi => ?_
 ·simp only [go_sem]
  exact ZU (by simp [go_sem]) (by simp [go_sem]) (by simp only [go_sem])
 cases i with
 | true =>
  simp only [go_sem]
  refine wG tK ?_
  refine wD (fun h => ?_) (fun h => ?_)
  ·refine wGq tK ?_ ?_ (by simp only [go_sem, ZN]; try exact rfl)
   ·simp [ZN]
   refine ZW ZM ?_
   refine ZS rfl ?_
   refine sG tK ?_
   refine sC Tryz.func57 (hf := (clone_bytes _ hn.data)) (hk := ?_)
   refine sG tK ?_
   refine seg_callN 993 rfl rfl (by simp only [go_sem]; try exact rfl) (by simp [go_sem]) ⟨_, Tryz.func67, by kernel_rfl, rfl⟩ (by simp [go_sem]) (clone_entriesH _ hn.entries) (by simp [go_sem]) (by simp only [go_sem]; try exact rfl) (by simp only [go_sem]; try exact rfl) (by simp [go_sem]) (by simp only [go_sem]; exact rfl) (by simp only [go_sem]; exact rfl) ?_
   refine sG tK ?_
   refine sE ?_
   refine dS tK ?_
   refine ZS rfl ?_
   refine sG tK ?_
   refine sE ?_
   refine dS tK ?_
   refine wKd ?_
   refine wGq tK ?_ ?_
   ·simp [rowsOf]
   refine ZB ⟨false, by simp, ZU ?_ ?_ ?_⟩
   ·simp [go_sem]; rfl
   ·simp [go_sem, heldRow]
   ·simp [go_sem, heldRow]
  ·simp at h
 | false =>
  simp only [go_sem]
  refine wG tK ?_
  refine wD (fun h => ?_) (fun h => ?_)
  ·simp at h
  refine wG tK ?_
  refine wT ?_
  simp [go_sem]
theorem idxI_any {α : Type} {p : α → Bool} (l : List α) : decide (idxI (l.findIdx? p) ≥ 0) = l.any p := by
 cases h : l.findIdx? p with
 | none =>
  rw [List.findIdx?_eq_none_iff] at h
  have : l.any p = false := by rw [List.any_eq_false]; intro x hx; simp [h x hx]
  rw [this]; rfl
 | some k =>
  have : l.any p = true := by
   obtain ⟨hk, h1, _⟩ := List.findIdx?_eq_some_iff_getElem.1 h
   exact List.any_eq_true.2 ⟨_, List.getElem_mem hk, h1⟩
  rw [this]
  simp [idxI]
theorem viewL_pure : ∀ {l : List AV}, (l.all AV.pureB) = true → ∃ q, (∀ h, viewL h l = some (q, l)) ∧ q
 | [], _ => ⟨True, fun _ => rfl, trivial⟩
 | x :: r, hp => by
  simp only [List.all_cons, Bool.and_eq_true] at hp
  obtain ⟨q, h1, h2⟩ := viewL_pure hp.2
  have hx : ∀ h, view h x = some (True, x) := fun h => by
   cases x with
   | osl => cases hp.1
   | ptr => cases hp.1
   | mp => cases hp.1
   | fn => cases hp.1
   | agg => cases hp.1
   | any => cases hp.1
   | tup => cases hp.1
   | cnd => cases hp.1
   | exs => cases hp.1
   | _ => rfl
  exact ⟨True ∧ q, fun h => by simp only [viewL, hx, h1], trivial, h2⟩
theorem refsL_pure : ∀ {l : List AV}, (l.all AV.pureB) = true → refsL l = []
 | [], _ => rfl
 | x :: r, hp => by
  simp only [List.all_cons, Bool.and_eq_true] at hp
  have hx : refs x = [] := by cases x <;> first | rfl | cases hp.1
  simp only [refsL, hx, refsL_pure hp.2, List.append_nil]
theorem filter_split {α : Type} {l : List α} {p : α → Bool} {j : Nat} (h : l.findIdx? p = some j) : (l.take (j + 1)).filter (fun x => !p x) = l.take j := by
 obtain ⟨hk, h1, h2⟩ := List.findIdx?_eq_some_iff_getElem.1 h
 rw [List.take_succ_eq_append_getElem hk, List.filter_append]
 have e1 : (l.take j).filter (fun x => !p x) = l.take j := List.filter_eq_self.2 fun x hx => by
  obtain ⟨i, hi⟩ := List.getElem?_of_mem hx
  rw [List.getElem?_take] at hi
  split at hi
  ·rename_i hij
   have := h2 i hij
   have e : l[i]? = some l[i] := List.getElem?_eq_getElem (by omega)
   rw [e] at hi; injection hi with hi
   rw [← hi]; simpa using this
  ·cases hi
 rw [e1]
 simp [h1]
structure DelInv {α : Type} (p : α → Bool) (l : List α) (j : Nat) (L : List α) : Prop where
 le : j ≤ l.length
 len : L.length = l.length
 drop : L.drop j = l.drop j
 take : L.take ((l.take j).filter fun x => !p x).length = (l.take j).filter fun x => !p x
 lt : ((l.take j).filter fun x => !p x).length < j
theorem DelInv.start {α : Type} {p : α → Bool} {l : List α} {k : Nat} (h : l.findIdx? p = some k) : DelInv p l (k + 1) l := by
 have hk : k < l.length := (List.findIdx?_eq_some_iff_getElem.1 h).1
 have e := filter_split h
 have el : (l.take k).length = k := by simp; omega
 refine ⟨hk, rfl, rfl, ?_, ?_⟩
 ·rw [e, el]
 ·rw [e, el]; omega
theorem DelInv.get {α : Type} [Inhabited α] {p : α → Bool} {l L : List α} {j : Nat} (h : DelInv p l j L) (hj : j < l.length) : L.getD j default = l.getD j default := by
 have := h.drop
 rw [drop_getD hj, drop_getD (show j < L.length by rw [h.len]; exact hj)] at this
 injection this
theorem DelInv.skip {α : Type} [Inhabited α] {p : α → Bool} {l L : List α} {j : Nat} (h : DelInv p l j L) (hj : j < l.length) (hp : p (l.getD j default) = true) : DelInv p l (j + 1) L := by
 have e : (l.take (j + 1)).filter (fun x => !p x) = (l.take j).filter fun x => !p x := by
  rw [ZT hj, List.filter_append]; simp only [List.filter_cons, hp, List.filter_nil, Bool.not_true, Bool.false_eq_true, if_false, List.append_nil]
 refine ⟨hj, h.len, ?_, ?_, ?_⟩
 ·rw [← List.drop_drop, ← List.drop_drop, h.drop]
 ·rw [e]; exact h.take
 ·rw [e]; have := h.lt; omega
theorem DelInv.keep {α : Type} [Inhabited α] {p : α → Bool} {l L : List α} {j : Nat} (h : DelInv p l j L) (hj : j < l.length) (hp : p (l.getD j default) = false) :
  DelInv p l (j + 1) (L.set ((l.take j).filter fun x => !p x).length (l.getD j default)) ∧ ((l.take (j + 1)).filter fun x => !p x).length = ((l.take j).filter fun x => !p x).length + 1 := by
 have e : (l.take (j + 1)).filter (fun x => !p x) = (l.take j).filter (fun x => !p x) ++ [l.getD j default] := by
  rw [ZT hj, List.filter_append]; simp only [List.filter_cons, hp, List.filter_nil, Bool.not_false, if_true]
 have hlt := h.lt
 have hlen := h.len
 have htk := h.take
 generalize hd : (l.take j).filter (fun x => !p x) = d at *
 refine ⟨⟨hj, by simp [hlen], ?_, ?_, ?_⟩, by rw [e]; simp⟩
 ·have : (L.set d.length (l.getD j default)).drop (j + 1) = L.drop (j + 1) := by
   rw [List.drop_set]; rw [if_pos (by omega)]
  rw [this, ← List.drop_drop, ← List.drop_drop, h.drop]
 ·rw [e]
  simp only [List.length_append, List.length_cons, List.length_nil, Nat.zero_add]
  rw [List.take_succ_eq_append_getElem (by simp; omega), List.take_set_of_le (Nat.le_refl _), htk]
  simp
 ·rw [e]; simp; omega
theorem DelInv.fin {α : Type} {p : α → Bool} {l L : List α} (h : DelInv p l l.length L) : L.take (l.filter fun x => !p x).length = l.filter fun x => !p x := by
 have := h.take
 rwa [List.take_length] at this
theorem set_map {α : Type} (f : α → List AV) (l : List α) (i : Nat) (x : α) : (l.map f).set i (f x) = (l.set i x).map f := by rw [List.map_set]
theorem clear_rows {α : Type} (f : α → List AV) {L : List α} {d : List α} (z : List AV) (h : L.take d.length = d) (hd : d.length ≤ L.length) :
  overRows (L.map f) d.length (List.replicate (L.length - d.length) z) = d.map f ++ List.replicate (L.length - d.length) z := by
 unfold overRows
 rw [← List.map_take, h, List.drop_eq_nil_of_le (by simp; omega), List.append_nil]
@[go_sem, simp] theorem refsB_append (e s : Nat) (a b : List (List AV)) : Eng.refsB (.cells e s (a ++ b)) = Eng.refsB (.cells e s a) ++ Eng.refsB (.cells e s b) := by
 simp only [Eng.refsB, List.flatMap_append]
@[go_sem, simp] theorem refsB_rep (e s n : Nat) (z : List AV) (h : refsL z = []) : Eng.refsB (.cells e s (List.replicate n z)) = [] := by
 simp only [Eng.refsB]
 induction n with
 | zero => rfl
 | succ n ih => simp only [List.replicate_succ, List.flatMap_cons, h, ih, List.append_nil]
attribute [go_sem] List.map_append List.map_replicate
theorem take_app {α : Type} {a b : List α} {n : Nat} (h : n = a.length) : (a ++ b).take n = a := by subst h; simp
theorem rep_pure (n : Nat) {z : List AV} (h : (z.all AV.pureB) = true) : ((List.replicate n z).all fun row => row.all AV.pureB) = true := by
 rw [List.all_eq_true]
 intro row hr
 rw [(List.mem_replicate.1 hr).2]
 exact h
theorem node_indexFunc (l : List Node) (hlen : l.length ≤ 100000000) {f : FuncId} {caps : List AV} {p : Node → Bool} (hcal : Callable Tryz.prog f) (hpure : (caps.all AV.pureB) = true)
  (hf : ∀ x, x ∈ l → FnOK Tryz.prog f (.agg (ZN x) :: caps) [] (fun r _ => r = .bool (p x))) :
  FnOK Tryz.prog 132 [.sl (l.map ZN), .fn f caps] [] (fun r _ => r = .int .i64 (idxI (l.findIdx? p))) := by
 have hcaps := refsL_pure hpure
 refine ZF tK (Tryz.func132) rfl (fun C => ?_)
 simp only [Tryz.ntmps132, Tryz.results132, go_sem]
 refine wG tK ?_
 refine ZL (fun i : Nat => i ≤ l.length ∧ ∀ x, x ∈ l.take i → p x = false) (fun i => l.length - i) (fun i => [(8, .int .i64 i), (5, .any), (9, .any), (10, .any), (11, .any), (12, .any), (13, .any), (14, .any), (15, .any), (16, .any), (17, .any), (18, .any)]) (fun _ => []) 0 ⟨by omega, by simp⟩ ?_ fun i hi => ?_
 ·simp only [go_sem]
  exact ZU (by simp [go_sem]) (by simp [go_sem]) (by simp [go_sem, hcaps])
 obtain ⟨hi, hno⟩ := hi
 simp only [go_sem]
 refine wG tK ?_
 refine wD (fun h => ?_) (fun h => ?_)
 ·have hlt : i < l.length := by simp at h; omega
  have hn := hf _ (YG hlt)
  have hg : (l.map ZN).getD i [] = ZN (l.getD i default) := Fam.getD hlt
  have htk := ZT hlt
  have hgi : l[i]? = some (l.getD i default) := by rw [List.getD_eq_getElem?_getD, List.getElem?_eq_getElem hlt]; rfl
  generalize l.getD i default = n at hn hg htk hgi
  refine wGq tK ?_ ?_ (by simp only [go_sem, hg, ZN]; try exact rfl)
  ·simp [hlt, ZN]
  refine cw_call rfl rfl (by simp only [go_sem]; try exact rfl) (by simp [go_sem]) hcal (by simp [go_sem, hcaps]) (hn) (by simp [go_sem]) (by simp only [go_sem]; exact rfl) ?_
  refine wG tK ?_
  refine wD (fun h => ?_) (fun h => ?_)
  ·refine wG tK ?_
   refine wT ?_
   rw [findIdx_at hgi hno h]; rfl
  ·have hw : IntKind.i64.wrap ((i : Int) + 1) = (i : Int) + 1 := wrap_small (by omega) (by omega)
   refine wG tK ?_ (by simp only [go_sem, hw]; try exact rfl) (by simp [go_sem, hw])
   refine ZB ⟨i + 1, ⟨by omega, ?_⟩, by omega, ZU ?_ ?_ ?_⟩
   ·rw [htk]
    intro x hx
    rcases List.mem_append.1 hx with hx | hx
    ·exact hno x hx
    ·rw [List.mem_singleton.1 hx]; exact h
   ·simp [go_sem]
   ·simp [go_sem]
   ·simp [go_sem, hcaps]
 ·have e : i = l.length := by simp at h; omega
  refine wG tK ?_
  refine wT ?_
  rw [e, List.take_length] at hno
  rw [List.findIdx?_eq_none_iff.2 hno]; rfl
theorem node_deleteFunc (l : List Node) (hlen : l.length ≤ 100000000) (id : Nat) {f : FuncId} {caps : List AV} {p : Node → Bool} (hcal : Callable Tryz.prog f) (hpure : (caps.all AV.pureB) = true) (hid : id ≠ 7)
  (hf : ∀ x, x ∈ l → FnOK Tryz.prog f (.agg (ZN x) :: caps) [] (fun r _ => r = .bool (p x))) :
  FnOK Tryz.prog 118 [.osl id 5 0 l.length, .fn f caps] [(id, .cells 60 5 (l.map ZN))] (fun r H => r = .osl id 5 0 (l.filter fun x => !p x).length ∧
   ∀ i b, hget [(id, .cells 60 5 ((l.filter fun x => !p x).map ZN ++ List.replicate (l.length - (l.filter fun x => !p x).length) [.int .i64 0, .bool false, .nils, .nils, .int .i64 0]))] i = some b → hget H i = some b) := by
 have hcaps := refsL_pure hpure
 obtain ⟨q, hv, hq⟩ := viewL_pure hpure
 refine ZF tK (Tryz.func118) rfl (fun C => ?_)
 simp only [Tryz.ntmps118, Tryz.results118, go_sem]
 refine wG tK ?_
 refine cw_view rfl rfl (by simp only [go_sem]; try exact rfl) (by simp [go_sem]) (by simp only [go_sem, hv, hq]; exact rfl) (by simp [go_sem, hv, hq]) ⟨_, Tryz.func132, by kernel_rfl, rfl⟩ (node_indexFunc l hlen hcal hpure hf) (by simp [go_sem]) (by simp only [go_sem]; exact rfl) ?_
 refine wG tK ?_
 refine wD (fun h => ?_) (fun h => ?_)
 ·refine wG tK ?_
  refine wT ?_
  have hn : l.findIdx? p = none := by
   cases e : l.findIdx? p with
   | none => rfl
   | some k => rw [e] at h; simp [idxI] at h
  have hfl : l.filter (fun x => !p x) = l := List.filter_eq_self.2 fun x hx => by
   simp [List.findIdx?_eq_none_iff.1 hn x hx]
  rw [hfl]
  simp [hget]
 obtain ⟨k, hk⟩ : ∃ k, l.findIdx? p = some k := by
  cases e : l.findIdx? p with
  | none => rw [e] at h; simp [idxI] at h
  | some k => exact ⟨k, rfl⟩
 have hkl : k < l.length := (List.findIdx?_eq_some_iff_getElem.1 hk).1
 have hsp := filter_split hk
 rw [hk]
 have hw : IntKind.i64.wrap ((k : Int) + 1) = ((k + 1 : Nat) : Int) := by rw [Eng.wrap_small (by omega) (by omega)]; rfl
 simp only [idxI]
 refine wG tK ?_ (by simp only [go_sem, hw]; try exact rfl) (by simp [go_sem, hw])
 refine ZL (fun s : Nat × List Node => DelInv p l s.1 s.2) (fun s => l.length - s.1) (fun s => [(5, .int .i64 (((l.take s.1).filter fun x => !p x).length : Nat)), (6, .int .i64 (s.1 : Nat)), (7, .any), (16, .any), (17, .any), (18, .any), (19, .any), (20, .any), (21, .any), (22, .any), (23, .any), (24, .any), (25, .any), (26, .any), (27, .any), (28, .any), (29, .any), (30, .any), (31, .any), (32, .any), (33, .any), (34, .any), (35, .any)]) (fun s => [(id, .cells 60 5 (s.2.map ZN))]) (k + 1, l) (DelInv.start hk) ?_ fun s hs => ?_
 ·have el : ((l.take (k + 1)).filter fun x => !p x).length = k := by rw [hsp]; simp; omega
  simp only [go_sem, el]
  exact ZU (by simp [go_sem]) (by simp [go_sem]) (by simp [go_sem, hcaps])
 obtain ⟨j, L⟩ := s
 have hjl := hs.le
 have hL := hs.len
 have hlt := hs.lt
 simp only at hs hjl hL hlt
 simp only [go_sem]
 refine wG tK ?_
 refine wD (fun h => ?_) (fun h => ?_)
 ·have hj : j < l.length := by simp at h; omega
  have hn := hf _ (YG hj)
  have hg : (L.map ZN).getD j [] = ZN (l.getD j default) := by rw [Fam.getD (by omega), hs.get hj]
  have hkeep := hs.keep hj
  have hskip := hs.skip hj
  have htk := ZT hj
  generalize l.getD j default = n at hn hg hkeep hskip htk
  refine wGq tK ?_ ?_ (by simp only [go_sem, hg, ZN, hid, Ne.symm hid]; try exact rfl)
  ·simp [ZN]; omega
  refine cw_call rfl rfl (by simp only [go_sem]; try exact rfl) (by simp [go_sem]) hcal (by simp [go_sem, hcaps]) (hn) (by simp [go_sem]) (by simp only [go_sem]; exact rfl) ?_
  generalize hm : ((l.take j).filter fun x => !p x).length = m at hkeep hlt
  have hw1 : IntKind.i64.wrap ((j : Int) + 1) = ((j + 1 : Nat) : Int) := by rw [Eng.wrap_small (by omega) (by omega)]; rfl
  have hw2 : IntKind.i64.wrap ((m : Int) + 1) = ((m + 1 : Nat) : Int) := by rw [Eng.wrap_small (by omega) (by omega)]; rfl
  refine wG tK ?_ (by simp only [go_sem, hm]; try exact rfl) (by simp [go_sem, hm])
  refine wD (fun h => ?_) (fun h => ?_)
  ·have hp : p n = false := by simpa using h
   obtain ⟨hk1, hk2⟩ := hkeep hp
   have hset := set_map ZN L m n
   simp only [ZN] at hset
   have hgl : (L.map ZN).getD m [] = ZN (L.getD m default) := Fam.getD (by omega)
   simp only [ZN] at hgl
   refine wGq tK ?_ ?_ (by simp only [go_sem, hw1, hw2, hm, hid, Ne.symm hid, hgl, hset]; try exact rfl)
   ·simp [hid, Ne.symm hid]; omega
   refine ZB ⟨(j + 1, L.set m n), hk1, by simp only; omega, ZU ?_ ?_ ?_⟩
   ·simp [go_sem, hk2]
   ·simp [go_sem, hid, Ne.symm hid, hset]
   ·simp [go_sem, hcaps, -List.map_set]
  ·have hp : p n = true := by simpa using h
   refine wG tK ?_ (by simp only [go_sem, hw1, hid, Ne.symm hid]; try exact rfl) (by simp [go_sem, hw1, hid, Ne.symm hid])
   have hsame : ((l.take (j + 1)).filter fun x => !p x).length = m := by
    rw [← hm, htk, List.filter_append]
    simp only [List.filter_cons, hp, Bool.not_true, Bool.false_eq_true, if_false, List.filter_nil, List.append_nil]
   refine ZB ⟨(j + 1, L), hskip hp, by simp only; omega, ZU ?_ ?_ ?_⟩
   ·simp [go_sem, hsame, hm]
   ·simp [go_sem, hid, Ne.symm hid]
   ·simp [go_sem, hcaps]
 have e : j = l.length := by simp at h; omega
 subst e
 have hfin := hs.fin
 rw [List.take_length]
 generalize hd : (l.filter fun x => !p x) = d at *
 have hdl : d.length ≤ l.length := by rw [← hd]; exact List.length_filter_le _ _
 have hcl := clear_rows ZN (d := d) (L := L) [.int .i64 0, .bool false, .nils, .nils, .int .i64 0] hfin (by omega)
 rw [hL] at hcl
 refine wGq tK ?_ ?_ (by simp only [go_sem, hid, Ne.symm hid, hcl]; try exact rfl)
 ·simp only [not_false_eq_true, true_and]
  omega
 refine wT ?_
 simp [hget]
theorem entry_indexFunc (l : List Entry) (hlen : l.length ≤ 100000000) {f : FuncId} {caps : List AV} {p : Entry → Bool} (hcal : Callable Tryz.prog f) (hpure : (caps.all AV.pureB) = true)
  (hf : ∀ x, x ∈ l → FnOK Tryz.prog f (.agg (ZE x) :: caps) [] (fun r _ => r = .bool (p x))) :
  FnOK Tryz.prog 131 [.sl (l.map ZE), .fn f caps] [] (fun r _ => r = .int .i64 (idxI (l.findIdx? p))) := by
 have hcaps := refsL_pure hpure
 refine ZF tK (Tryz.func131) rfl (fun C => ?_)
 simp only [Tryz.ntmps131, Tryz.results131, go_sem]
 refine wG tK ?_
 refine ZL (fun i : Nat => i ≤ l.length ∧ ∀ x, x ∈ l.take i → p x = false) (fun i => l.length - i) (fun i => [(8, .int .i64 i), (5, .any), (9, .any), (10, .any), (11, .any), (12, .any), (13, .any), (14, .any), (15, .any), (16, .any), (17, .any), (18, .any)]) (fun _ => []) 0 ⟨by omega, by simp⟩ ?_ fun i hi => ?_
 ·simp only [go_sem]
  exact ZU (by simp [go_sem]) (by simp [go_sem]) (by simp [go_sem, hcaps])
 obtain ⟨hi, hno⟩ := hi
 simp only [go_sem]
 refine wG tK ?_
 refine wD (fun h => ?_) (fun h => ?_)
 ·have hlt : i < l.length := by simp at h; omega
  have hn := hf _ (YG hlt)
  have hg : (l.map ZE).getD i [] = ZE (l.getD i default) := Fam.getD hlt
  have htk := ZT hlt
  have hgi : l[i]? = some (l.getD i default) := by rw [List.getD_eq_getElem?_getD, List.getElem?_eq_getElem hlt]; rfl
  generalize l.getD i default = n at hn hg htk hgi
  refine wGq tK ?_ ?_ (by simp only [go_sem, hg, ZE]; try exact rfl)
  ·simp [hlt, ZE]
  refine cw_call rfl rfl (by simp only [go_sem]; try exact rfl) (by simp [go_sem]) hcal (by simp [go_sem, hcaps]) (hn) (by simp [go_sem]) (by simp only [go_sem]; exact rfl) ?_
  refine wG tK ?_
  refine wD (fun h => ?_) (fun h => ?_)
  ·refine wG tK ?_
   refine wT ?_
   rw [findIdx_at hgi hno h]; rfl
  ·have hw : IntKind.i64.wrap ((i : Int) + 1) = (i : Int) + 1 := wrap_small (by omega) (by omega)
   refine wG tK ?_ (by simp only [go_sem, hw]; try exact rfl) (by simp [go_sem, hw])
   refine ZB ⟨i + 1, ⟨by omega, ?_⟩, by omega, ZU ?_ ?_ ?_⟩
   ·rw [htk]
    intro x hx
    rcases List.mem_append.1 hx with hx | hx
    ·exact hno x hx
    ·rw [List.mem_singleton.1 hx]; exact h
   ·simp [go_sem]
   ·simp [go_sem]
   ·simp [go_sem, hcaps]
 ·have e : i = l.length := by simp at h; omega
  refine wG tK ?_
  refine wT ?_
  rw [e, List.take_length] at hno
  rw [List.findIdx?_eq_none_iff.2 hno]; rfl
theorem entry_deleteFunc (l : List Entry) (hlen : l.length ≤ 100000000) (id : Nat) {f : FuncId} {caps : List AV} {p : Entry → Bool} (hcal : Callable Tryz.prog f) (hpure : (caps.all AV.pureB) = true) (hid : id ≠ 7)
  (hf : ∀ x, x ∈ l → FnOK Tryz.prog f (.agg (ZE x) :: caps) [] (fun r _ => r = .bool (p x))) :
  FnOK Tryz.prog 116 [.osl id 2 0 l.length, .fn f caps] [(id, .cells 135 2 (l.map ZE))] (fun r H => r = .osl id 2 0 (l.filter fun x => !p x).length ∧
   ∀ i b, hget [(id, .cells 135 2 ((l.filter fun x => !p x).map ZE ++ List.replicate (l.length - (l.filter fun x => !p x).length) [.str [], .int .i64 0]))] i = some b → hget H i = some b) := by
 have hcaps := refsL_pure hpure
 obtain ⟨q, hv, hq⟩ := viewL_pure hpure
 refine ZF tK (Tryz.func116) rfl (fun C => ?_)
 simp only [Tryz.ntmps116, Tryz.results116, go_sem]
 refine wG tK ?_
 refine cw_view rfl rfl (by simp only [go_sem]; try exact rfl) (by simp [go_sem]) (by simp only [go_sem, hv, hq]; exact rfl) (by simp [go_sem, hv, hq]) ⟨_, Tryz.func131, by kernel_rfl, rfl⟩ (entry_indexFunc l hlen hcal hpure hf) (by simp [go_sem]) (by simp only [go_sem]; exact rfl) ?_
 refine wG tK ?_
 refine wD (fun h => ?_) (fun h => ?_)
 ·refine wG tK ?_
  refine wT ?_
  have hn : l.findIdx? p = none := by
   cases e : l.findIdx? p with
   | none => rfl
   | some k => rw [e] at h; simp [idxI] at h
  have hfl : l.filter (fun x => !p x) = l := List.filter_eq_self.2 fun x hx => by
   simp [List.findIdx?_eq_none_iff.1 hn x hx]
  rw [hfl]
  simp [hget]
 obtain ⟨k, hk⟩ : ∃ k, l.findIdx? p = some k := by
  cases e : l.findIdx? p with
  | none => rw [e] at h; simp [idxI] at h
  | some k => exact ⟨k, rfl⟩
 have hkl : k < l.length := (List.findIdx?_eq_some_iff_getElem.1 hk).1
 have hsp := filter_split hk
 rw [hk]
 have hw : IntKind.i64.wrap ((k : Int) + 1) = ((k + 1 : Nat) : Int) := by rw [Eng.wrap_small (by omega) (by omega)]; rfl
 simp only [idxI]
 refine wG tK ?_ (by simp only [go_sem, hw]; try exact rfl) (by simp [go_sem, hw])
 refine ZL (fun s : Nat × List Entry => DelInv p l s.1 s.2) (fun s => l.length - s.1) (fun s => [(5, .int .i64 (((l.take s.1).filter fun x => !p x).length : Nat)), (6, .int .i64 (s.1 : Nat)), (7, .any), (16, .any), (17, .any), (18, .any), (19, .any), (20, .any), (21, .any), (22, .any), (23, .any), (24, .any), (25, .any), (26, .any), (27, .any), (28, .any), (29, .any), (30, .any), (31, .any), (32, .any), (33, .any), (34, .any), (35, .any)]) (fun s => [(id, .cells 135 2 (s.2.map ZE))]) (k + 1, l) (DelInv.start hk) ?_ fun s hs => ?_
 ·have el : ((l.take (k + 1)).filter fun x => !p x).length = k := by rw [hsp]; simp; omega
  simp only [go_sem, el]
  exact ZU (by simp [go_sem]) (by simp [go_sem]) (by simp [go_sem, hcaps])
 obtain ⟨j, L⟩ := s
 have hjl := hs.le
 have hL := hs.len
 have hlt := hs.lt
 simp only at hs hjl hL hlt
 simp only [go_sem]
 refine wG tK ?_
 refine wD (fun h => ?_) (fun h => ?_)
 ·have hj : j < l.length := by simp at h; omega
  have hn := hf _ (YG hj)
  have hg : (L.map ZE).getD j [] = ZE (l.getD j default) := by rw [Fam.getD (by omega), hs.get hj]
  have hkeep := hs.keep hj
  have hskip := hs.skip hj
  have htk := ZT hj
  generalize l.getD j default = n at hn hg hkeep hskip htk
  refine wGq tK ?_ ?_ (by simp only [go_sem, hg, ZE, hid, Ne.symm hid]; try exact rfl)
  ·simp [ZE]; omega
  refine cw_call rfl rfl (by simp only [go_sem]; try exact rfl) (by simp [go_sem]) hcal (by simp [go_sem, hcaps]) (hn) (by simp [go_sem]) (by simp only [go_sem]; exact rfl) ?_
  generalize hm : ((l.take j).filter fun x => !p x).length = m at hkeep hlt
  have hw1 : IntKind.i64.wrap ((j : Int) + 1) = ((j + 1 : Nat) : Int) := by rw [Eng.wrap_small (by omega) (by omega)]; rfl
  have hw2 : IntKind.i64.wrap ((m : Int) + 1) = ((m + 1 : Nat) : Int) := by rw [Eng.wrap_small (by omega) (by omega)]; rfl
  refine wG tK ?_ (by simp only [go_sem, hm]; try exact rfl) (by simp [go_sem, hm])
  refine wD (fun h => ?_) (fun h => ?_)
  ·have hp : p n = false := by simpa using h
   obtain ⟨hk1, hk2⟩ := hkeep hp
   have hset := set_map ZE L m n
   simp only [ZE] at hset
   have hgl : (L.map ZE).getD m [] = ZE (L.getD m default) := Fam.getD (by omega)
   simp only [ZE] at hgl
   refine wGq tK ?_ ?_ (by simp only [go_sem, hw1, hw2, hm, hid, Ne.symm hid, hgl, hset]; try exact rfl)
   ·simp [hid, Ne.symm hid]; omega
   refine ZB ⟨(j + 1, L.set m n), hk1, by simp only; omega, ZU ?_ ?_ ?_⟩
   ·simp [go_sem, hk2]
   ·simp [go_sem, hid, Ne.symm hid, hset]
   ·simp [go_sem, hcaps, -List.map_set]
  ·have hp : p n = true := by simpa using h
   refine wG tK ?_ (by simp only [go_sem, hw1, hid, Ne.symm hid]; try exact rfl) (by simp [go_sem, hw1, hid, Ne.symm hid])
   have hsame : ((l.take (j + 1)).filter fun x => !p x).length = m := by
    rw [← hm, htk, List.filter_append]
    simp only [List.filter_cons, hp, Bool.not_true, Bool.false_eq_true, if_false, List.filter_nil, List.append_nil]
   refine ZB ⟨(j + 1, L), hskip hp, by simp only; omega, ZU ?_ ?_ ?_⟩
   ·simp [go_sem, hsame, hm]
   ·simp [go_sem, hid, Ne.symm hid]
   ·simp [go_sem, hcaps]
 have e : j = l.length := by simp at h; omega
 subst e
 have hfin := hs.fin
 rw [List.take_length]
 generalize hd : (l.filter fun x => !p x) = d at *
 have hdl : d.length ≤ l.length := by rw [← hd]; exact List.length_filter_le _ _
 have hcl := clear_rows ZE (d := d) (L := L) [.str [], .int .i64 0] hfin (by omega)
 rw [hL] at hcl
 refine wGq tK ?_ ?_ (by simp only [go_sem, hid, Ne.symm hid, hcl]; try exact rfl)
 ·simp only [not_false_eq_true, true_and]
  omega
 refine wT ?_
 simp [hget]
theorem entry_containsFunc (l : List Entry) (hlen : l.length ≤ 100000000) {f : FuncId} {caps : List AV} {p : Entry → Bool} (hcal : Callable Tryz.prog f) (hpure : (caps.all AV.pureB) = true)
  (hf : ∀ x, x ∈ l → FnOK Tryz.prog f (.agg (ZE x) :: caps) [] (fun r _ => r = .bool (p x))) :
  FnOK Tryz.prog 120 [.sl (l.map ZE), .fn f caps] [] (fun r _ => r = .bool (l.any p)) := by
 have hcaps := refsL_pure hpure
 refine ZF tK (Tryz.func120) rfl (fun C => ?_)
 simp only [Tryz.ntmps120, Tryz.results120, go_sem]
 refine wG tK ?_
 refine cw_call rfl rfl (by simp only [go_sem]; try exact rfl) (by simp [go_sem]) ⟨_, Tryz.func131, by kernel_rfl, rfl⟩ (by simp [go_sem, hcaps]) (entry_indexFunc l hlen hcal hpure hf) (by simp [go_sem]) (by simp only [go_sem]; exact rfl) ?_
 refine wG tK ?_
 refine wT ?_
 rw [idxI_any]
theorem dropIs_ok (n : Node) (f : Int) : FnOK Tryz.prog 119 [.agg (ZN n), .rp [.int .i64 f] 0] [] (fun r _ => r = .bool (n.fid == f)) := by
 unfold ZN
 refine ZF tK (Tryz.func119) rfl (fun C => ?_)
 simp only [Tryz.ntmps119, Tryz.results119, go_sem]
 refine wG tK ?_
 refine wT ?_
 simp
theorem drop_ok (l : List Node) (f : Int) (hl : Small l) : FnOK Tryz.prog 94 [.sl (l.map ZN), .int .i64 f] [] (fun r _ => r = .sl ((dropN l f).map ZN)) := by
 have hlen := hl.len
 refine ZF tK (Tryz.func94) rfl (fun C => ?_)
 simp only [Tryz.ntmps94, Tryz.results94, go_sem]
 refine wG tK ?_
 refine ZZ 3 rfl (rfl) ?_
 simp only [go_sem]
 refine wCG [] 100 Tryz.func38 (hf := (own_okH l hl)) (hk := ?_)
 refine wG tK ?_
 refine wCG [123] 100 Tryz.func118 (hf := (node_deleteFunc l hlen 123 ⟨_, Go.Proofs.Tryz.func119, by kernel_rfl, rfl⟩ rfl (by decide) (fun x _ => dropIs_ok x f))) (hk := ?_)
 refine wG tK ?_
 refine ZZ 223 rfl (by rw [List.all_append, nodeRow_pure, Bool.true_and]; exact rep_pure _ rfl) ?_
 simp only [go_sem]
 refine wT ?_
 have hle := List.length_filter_le (fun x : Node => !(x.fid == f)) l
 have hd : (l.filter fun x : Node => !(x.fid == f)) = dropN l f := rfl
 rw [hd] at hle
 simp only [hd]
 generalize dropN l f = d at *
 rw [if_pos (by simp), take_app (by simp)]
theorem leaveIs_ok (e : Entry) (s : List UInt8) : FnOK Tryz.prog 117 [.agg (ZE e), .rp [.str s] 0] [] (fun r _ => r = .bool (e.name == s)) := by
 unfold ZE
 refine ZF tK (Tryz.func117) rfl (fun C => ?_)
 simp only [Tryz.ntmps117, Tryz.results117, go_sem]
 refine wG tK ?_
 refine wT ?_
 simp
theorem leave_ok (n : Node) (s : List UInt8) (hn : n.Small) : FnOK Tryz.prog 93 [.agg (ZN n), .str s] [] (fun r _ => r = .agg (ZN (leaveN n s))) := by
 have hlen := hn.entries
 refine ZF tK (Tryz.func93) rfl (fun C => ?_)
 simp only [Tryz.ntmps93, Tryz.results93, go_sem]
 refine wGq tK ?_ ?_ (by simp only [go_sem, ZN]; try exact rfl)
 ·simp [ZN]
 refine ZZ 7 rfl (rfl) ?_
 refine ZZ 3 rfl (rfl) ?_
 simp only [go_sem]
 refine wCG [] 0 Tryz.func38 (hf := (own_oneH n hn)) (hk := ?_)
 refine wGq tK ?_ ?_ (by simp only [go_sem, heldRow]; try exact rfl)
 ·simp [heldRow]
 refine cw_le (le_killB 1000 5 (by simp only [go_sem]; exact rfl) (by simp only [go_sem, kill]; exact rfl)) ?_
 refine cw_le (le_killB 1000 23 (by simp only [go_sem]; exact rfl) (by simp only [go_sem, kill]; exact rfl)) ?_
 simp only [go_sem]
 refine wCG [1000] 100 Tryz.func116 (hf := (entry_deleteFunc n.entries hlen 1000 ⟨_, Go.Proofs.Tryz.func117, by kernel_rfl, rfl⟩ rfl (by decide) (fun x _ => leaveIs_ok x s))) (hk := ?_)
 refine ZZ 1100 rfl (by rw [List.all_append, entryRow_pure, Bool.true_and]; exact rep_pure _ rfl) ?_
 simp only [go_sem]
 have hle := List.length_filter_le (fun x : Entry => !(x.name == s)) n.entries
 have hd : (n.entries.filter fun x : Entry => !(x.name == s)) = leaveE n.entries s := rfl
 have hr : ZN (leaveN n s) = [.int .i64 n.fid, .bool n.dir, .sl (n.data.map ZY), .sl ((leaveE n.entries s).map ZE), .int .i64 n.version] := rfl
 simp only [hd] at hle ⊢
 rw [hr]
 generalize leaveE n.entries s = d at *
 simp only [go_sem, if_pos (show d.length ≤ (d.map ZE ++ List.replicate (n.entries.length - d.length) [AV.str [], AV.int .i64 0]).length by simp), take_app (show d.length = (d.map ZE).length by simp)]
 refine wG tK ?_
 refine wT ?_
 simp
theorem entry_insertR (l M : List Entry) (i : Nat) (hi : i ≤ l.length) (hlen : l.length ≤ 100000000) (hM : l.take i ++ ⟨[], 0⟩ :: l.drop i = M) :
  FnOK Tryz.prog 115 [.osl 1000 2 0 l.length, .int .i64 i, .osl 28 2 0 1] [(28, .cells 135 2 [[.str [], .int .i64 0]]), (1000, .cells 135 2 (l.map ZE))]
   (fun r H => r = .osl 7 2 0 (l.length + 1) ∧ ∀ i' b, hget [(7, .cells 135 2 (M.map ZE))] i' = some b → hget H i' = some b) := by
 subst hM
 have hL : (l.map ZE).length = l.length := List.length_map ..
 have := FnOK.renum (rows' := (l.take i ++ ⟨[], 0⟩ :: l.drop i).map ZE) 7 (entry_insert (l.map ZE) i (by omega) (by omega) (entryRow_rowsOf l) (entryRow_leaf l) (fun id => entryRow_noRef id l)) (by
  rw [List.map_append, List.map_cons, List.map_append, List.map_cons, ← List.map_take, ← List.map_drop, entryRow_nil1, entryRow_nil1]; rfl) (ins_free (fun id => entryRow_noRef id l) (by decide))
 rw [hL] at this
 exact this
theorem entryRow_at {M : List Entry} {i : Nat} (h : i < M.length) : (M.map ZE).getD i [] = [.str (M.getD i default).name, .int .i64 (M.getD i default).fid] := by
 rw [Fam.getD h]; rfl
theorem enter_ok (n : Node) (s : List UInt8) (f : Int) (hn : n.Small) : FnOK Tryz.prog 91 [.agg (ZN n), .str s, .int .i64 f] [] (fun r _ => r = .agg (ZN (enterN n s f))) := by
 have hlen := hn.entries
 refine ZF tK (Tryz.func91) rfl (fun C => ?_)
 simp only [Tryz.ntmps91, Tryz.results91, go_sem]
 refine wGq tK ?_ ?_ (by simp only [go_sem, ZN]; try exact rfl)
 ·simp [ZN]
 refine ZZ 11 rfl (rfl) ?_
 refine ZZ 3 rfl (rfl) ?_
 simp only [go_sem]
 refine wCG [] 0 Tryz.func38 (hf := (own_oneH n hn)) (hk := ?_)
 refine wG tK ?_
 refine wV Tryz.func112 (hf := (entry_search n.entries s hlen ⟨_, Go.Proofs.Tryz.func113, by kernel_rfl, rfl⟩ (fun e => enterCmp_ok e s))) (hk := ?_)
 refine wG tK ?_
 have hple := eplace_le n.entries s
 refine wD (fun h => ?_) (fun h => ?_)
 ·have hat : isE n.entries s = false := by simpa using h
  refine wG tK ?_
  refine cw_le (le_killB 1000 7 (by simp only [go_sem]; exact rfl) (by simp only [go_sem, kill]; exact rfl)) ?_
  refine cw_le (le_killB 1000 23 (by simp only [go_sem]; exact rfl) (by simp only [go_sem, kill]; exact rfl)) ?_
  simp only [go_sem]
  have hM : (n.entries.take (eplace n.entries s) ++ ⟨[], 0⟩ :: n.entries.drop (eplace n.entries s)).length = n.entries.length + 1 := by simp; omega
  have hS : (n.entries.take (eplace n.entries s) ++ ⟨[], 0⟩ :: n.entries.drop (eplace n.entries s)).set (eplace n.entries s) ⟨s, f⟩ = enterE n.entries s f := by
   unfold enterE
   rw [hat, if_neg (by simp), List.set_append_right _ _ (by rw [List.length_take]; omega), List.length_take, Nat.min_eq_left hple, Nat.sub_self]; rfl
  generalize hMd : n.entries.take (eplace n.entries s) ++ ⟨[], 0⟩ :: n.entries.drop (eplace n.entries s) = M at *
  refine wCG [1000, 28] 200 Tryz.func115 (hf := (entry_insertR n.entries M (eplace n.entries s) hple hlen hMd)) (hk := ?_)
  refine wN tK 2 ?_
  have hE : (enterE n.entries s f).length = n.entries.length + 1 := by rw [← hS, List.length_set, hM]
  have hlt : eplace n.entries s < (M).length := by omega
  have hg := entryRow_at hlt
  have hq : ((M).map ZE).set (eplace n.entries s) [.str s, .int .i64 f] = (enterE n.entries s f).map ZE := by
   rw [← hS, List.map_set]; rfl
  refine wR ?_
  refine wN tK 6 ?_
  refine wNq tK 1 ?_ ?_
  ·exact ⟨by simp, by omega, by omega⟩
  refine wNq tK 1 ?_ ?_
  ·exact ⟨by simp, by omega⟩
  simp only [go_sem, hg, hq]
  refine ZZ 207 rfl (entryRow_pure _) ?_
  have hr : ZN (enterN n s f) = [.int .i64 n.fid, .bool n.dir, .sl (n.data.map ZY), .sl ((enterE n.entries s f).map ZE), .int .i64 n.version] := rfl
  rw [hr]
  have hE2 := List.take_of_length_le (l := (enterE n.entries s f).map ZE) (i := (enterE n.entries s f).length) (by simp)
  simp only [go_sem, ← hE, hE2]
  refine wG tK ?_
  refine wT ?_
  simp
 ·have hat : isE n.entries s = true := by simpa using h
  have hpl : eplace n.entries s < n.entries.length := by
   unfold isE at hat
   rw [Bool.and_eq_true] at hat
   exact of_decide_eq_true hat.1
  have hS : n.entries.set (eplace n.entries s) ⟨s, f⟩ = enterE n.entries s f := by
   unfold enterE
   rw [hat, if_pos rfl]
  have hE : (enterE n.entries s f).length = n.entries.length := by rw [← hS, List.length_set]
  have hlt : eplace n.entries s < (n.entries).length := by omega
  have hg := entryRow_at hlt
  have hq : ((n.entries).map ZE).set (eplace n.entries s) [.str s, .int .i64 f] = (enterE n.entries s f).map ZE := by
   rw [← hS, List.map_set]; rfl
  refine wR ?_
  refine wN tK 6 ?_
  refine wNq tK 1 ?_ ?_
  ·exact ⟨by simp, by omega, by omega⟩
  refine wNq tK 1 ?_ ?_
  ·exact ⟨by simp, by omega⟩
  simp only [go_sem, hg, hq]
  refine ZZ 1000 rfl (entryRow_pure _) ?_
  have hr : ZN (enterN n s f) = [.int .i64 n.fid, .bool n.dir, .sl (n.data.map ZY), .sl ((enterE n.entries s f).map ZE), .int .i64 n.version] := rfl
  rw [hr]
  have hE2 := List.take_of_length_le (l := (enterE n.entries s f).map ZE) (i := (enterE n.entries s f).length) (by simp)
  simp only [go_sem, ← hE, hE2]
  refine wG tK ?_
  refine wT ?_
  simp
def okC (c : UInt8) : Bool := (decide (97 ≤ c.toNat) && decide (c.toNat ≤ 122)) || (decide (48 ≤ c.toNat) && decide (c.toNat ≤ 57))
def nameB (s : List UInt8) : Bool := decide (1 ≤ s.length) && decide (s.length ≤ 8) && s.all okC
theorem name_ok (s : List UInt8) (hs : s.length ≤ 100000000) : FnOK Tryz.prog 109 [.str s] [] (fun r _ => r = .bool (nameB s)) := by
 refine ZF tK (Tryz.func109) rfl (fun C => ?_)
 simp only [Tryz.ntmps109, Tryz.results109, go_sem]
 refine wR ?_
 refine wN tK 1 ?_
 refine wR ?_
 cases e1 : decide ((s.length : Int) < 1) with
 | true =>
  have hno : nameB s = false := by
   have h1 := of_decide_eq_true e1
   unfold nameB
   rw [show decide (1 ≤ s.length) = false from decide_eq_false (by omega)]; rfl
  refine wG tK ?_ (by simp only [go_sem, e1]; try exact rfl) (by simp [go_sem, e1])
  refine wD (fun h => ?_) (fun h => ?_)
  ·refine wG tK ?_
   refine wT ?_
   rw [hno]
  ·cases h
 | false =>
  have h1 := of_decide_eq_false e1
  cases e2 : decide ((s.length : Int) > 8) with
  | true =>
   have hno : nameB s = false := by
    have h2 := of_decide_eq_true e2
    unfold nameB
    rw [show decide (s.length ≤ 8) = false from decide_eq_false (by omega), Bool.and_false]; rfl
   refine wG tK ?_ (by simp only [go_sem, e1, e2]; try exact rfl) (by simp [go_sem, e1, e2])
   refine wD (fun h => ?_) (fun h => ?_)
   ·refine wG tK ?_
    refine wT ?_
    rw [hno]
   ·cases h
  | false =>
   have h2 := of_decide_eq_false e2
   have hyes : nameB s = s.all okC := by
    unfold nameB
    rw [show decide (1 ≤ s.length) = true from decide_eq_true (by omega), show decide (s.length ≤ 8) = true from decide_eq_true (by omega)]; rfl
   rw [hyes]
   refine wG tK ?_ (by simp only [go_sem, e1, e2]; try exact rfl) (by simp [go_sem, e1, e2])
   refine wD (fun h => ?_) (fun h => ?_)
   ·cases h
   refine wG tK ?_
   refine ZL (fun i : Nat => i ≤ s.length ∧ ∀ j, j < i → okC (s.getD j 0) = true) (fun i => s.length - i) (fun i => [(3, .any), (4, .any), (15, .int .i64 i), (16, .any), (17, .any), (18, .any), (19, .any), (20, .any), (21, .any), (22, .any), (23, .any), (24, .any), (25, .any), (26, .any), (27, .any), (28, .any), (29, .any), (30, .any), (31, .any), (32, .any), (33, .any), (34, .any), (35, .any)]) (fun _ => []) 0 ⟨by omega, by omega⟩ ?_ fun i hi => ?_
   ·simp only [go_sem]
    exact ZU (by simp [go_sem]) (by simp [go_sem]) (by simp [go_sem])
   obtain ⟨hi, hs⟩ := hi
   simp only [go_sem]
   refine wG tK ?_
   refine wD (fun h => ?_) (fun h => ?_)
   ·have hlt : i < s.length := by simp at h; omega
    have hw := wi1 (i := i) (by omega)
    have hno : okC (s.getD i 0) = false → s.all okC = false := fun h0 => by
     cases e : s.all okC with
     | false => rfl
     | true =>
      have := List.all_eq_true.1 e (s.getD i 0) (by rw [List.getD_eq_getElem?_getD, List.getElem?_eq_getElem hlt]; exact List.getElem_mem hlt)
      rw [this] at h0; cases h0
    have hyes : okC (s.getD i 0) = true → ∀ j, j < i + 1 → okC (s.getD j 0) = true := fun h0 j hj => by
     rcases Nat.lt_succ_iff_lt_or_eq.1 hj with h1 | rfl
     ·exact hs j h1
     ·exact h0
    refine wR ?_
    refine wN tK 2 ?_
    refine wR ?_
    refine wN tK 2 ?_
    refine wNq tK 1 ?_ ?_
    ·simp; omega
    refine wN tK 1 ?_
    refine wR ?_
    generalize s.getD i 0 = c at hno hyes
    have hc : okC c = ((!(decide ((c.toNat : Int) < 97)) && !(decide ((c.toNat : Int) > 122))) || (!(decide ((c.toNat : Int) < 48)) && !(decide ((c.toNat : Int) > 57)))) := by
     unfold okC
     rw [Bool.eq_iff_iff]
     simp only [Bool.or_eq_true, Bool.and_eq_true, decide_eq_true_eq, Bool.not_eq_true', decide_eq_false_iff_not]
     omega
    generalize hf1 : decide ((c.toNat : Int) < 97) = f1 at hc
    generalize hf2 : decide ((c.toNat : Int) > 122) = f2 at hc
    generalize hf3 : decide ((c.toNat : Int) < 48) = f3 at hc
    generalize hf4 : decide ((c.toNat : Int) > 57) = f4 at hc
    refine wNq tK 14 ?_ ?_ (by simp only [go_sem]; exact rfl) (by simp only [go_sem]; exact rfl) (by simp only [go_sem, hf1, hf2, hf3, hf4]; try exact rfl)
    ·cases f1 <;> cases f2 <;> cases f3 <;> cases f4 <;> simp
    have hb : (bif (bif f1 then true else f2) then (bif f3 then true else f4) else false) = !okC c := by
     rw [hc]; cases f1 <;> cases f2 <;> cases f3 <;> cases f4 <;> rfl
    simp only [go_sem, hb]
    refine wD (fun h => ?_) (fun h => ?_)
    ·have h0 : okC c = false := by simpa using h
     refine wG tK ?_
     refine wT ?_
     rw [hno h0]
    ·have h0 : okC c = true := by simpa using h
     refine wG tK ?_ (by simp only [go_sem, hw]; try exact rfl) (by simp [go_sem, hw])
     refine ZB ⟨i + 1, ⟨by omega, hyes h0⟩, by omega, ZU ?_ ?_ ?_⟩
     ·simp [go_sem]
     ·simp [go_sem]
     ·simp [go_sem]
   ·have e : i = s.length := by simp at h; omega
    have : s.all okC = true := List.all_eq_true.2 fun x hx => by
     obtain ⟨j, hj⟩ := List.getElem?_of_mem hx
     have := hs j (by rw [e]; exact (List.getElem?_eq_some_iff.1 hj).1)
     rwa [List.getD_eq_getElem?_getD, hj] at this
    refine wG tK ?_
    refine wT ?_
    rw [this]
theorem hold {K H : List (Nat × Blk)} (h : ∀ p, p ∈ K → hget H p.1 = some p.2) : ∀ i b, hget K i = some b → hget H i = some b := fun i b hb => h (i, b) (hget_mem hb)
theorem hold2 {a b : Nat} {x y : Blk} {H : List (Nat × Blk)} (h1 : hget H a = some x) (h2 : hget H b = some y) : ∀ i c, (if a = i then some x else if b = i then some y else none) = some c → hget H i = some c := fun i c hc => by
 by_cases e1 : a = i
 ·subst e1; rw [if_pos rfl] at hc; rw [h1, hc]
 ·rw [if_neg e1] at hc
  by_cases e2 : b = i
  ·subst e2; rw [if_pos rfl] at hc; rw [h2, hc]
  ·rw [if_neg e2] at hc; cases hc
def getN (l : List Node) (k : Int) : Node := (findN l k).getD zeroN
def dirE (l : List Node) (k : Int) : Int := match findN l k with
 | none => 12
 | some n => if n.dir then 0 else 8
def roomE (n : Node) (s : List UInt8) : Int := if nameB s then (if isE n.entries s then 7 else if n.entries.length ≥ 6 then 5 else 0) else 7
def ZD (l : List Node) (a : Act) (v : Int) : List AV := [.sl (l.map ZN), .int .i64 a.kind, .int .i64 a.fid, .int .i64 a.dir, .str a.name, .int .i64 a.to, .str a.toName, .sl (a.data.map ZY), .int .i64 v]
@[go_sem, simp] theorem doerRow_refsL (l : List Node) (a : Act) (v : Int) : refsL (ZD l a v) = [] := rfl
def dH (R : List AV) (G Y N : Nat → Nat) : List (Nat × Blk) := [(15, .cells 119 9 [R])] ++ pins [15] G Y N
theorem room_ok (n : Node) (s : List UInt8) (hn : n.Small) (hs : s.length ≤ 100000000) : FnOK Tryz.prog 89 [.agg (ZN n), .str s] [] (fun r _ => r = .int .i64 (roomE n s)) := by
 have hlen := hn.entries
 refine ZF tK (Tryz.func89) rfl (fun C => ?_)
 simp only [Tryz.ntmps89, Tryz.results89, go_sem]
 refine wGq tK ?_ ?_ (by simp only [go_sem, ZN]; try exact rfl)
 ·simp
 refine wC Tryz.func109 (hf := (name_ok s hs)) (hk := ?_)
 refine wG tK ?_
 refine wD (fun h => ?_) (fun h => ?_)
 ·have h0 : nameB s = false := by simpa using h
  refine wG tK ?_
  refine wT ?_
  simp [roomE, h0]
 have h0 : nameB s = true := by simpa using h
 refine wGq tK ?_ ?_ (by simp only [go_sem, ZN]; try exact rfl)
 ·simp [ZN]
 refine wC Tryz.func110 (hf := (entry_ok n s hn)) (hk := ?_)
 cases he : isE n.entries s with
 | true =>
  have e1 : entryN n s = some (n.entries.getD (eplace n.entries s) default).fid := by unfold entryN; rw [if_pos he]
  rw [e1]
  simp only [optInt]
  refine wG tK ?_
  refine wD (fun h => ?_) (fun h => ?_)
  ·refine wG tK ?_
   refine wT ?_
   simp [roomE, h0, he]
  ·cases h
 | false =>
  have e1 : entryN n s = none := by unfold entryN; rw [if_neg (by simp [he])]
  rw [e1]
  simp only [optInt]
  refine wG tK ?_
  refine wD (fun h => ?_) (fun h => ?_)
  ·cases h
  refine wGq tK ?_ ?_ (by simp only [go_sem, ZN]; try exact rfl)
  ·simp [ZN]
  refine wD (fun h => ?_) (fun h => ?_)
  ·have h6 : 6 ≤ n.entries.length := by simp at h; omega
   refine wG tK ?_
   refine wT ?_
   simp [roomE, h0, he, h6]
  ·have h6 : ¬ 6 ≤ n.entries.length := by simp at h; omega
   refine wG tK ?_
   refine wT ?_
   simp [roomE, h0, he, h6]
theorem dir_ok (l : List Node) (a : Act) (v k : Int) (hl : Small l) (G Y N : Nat → Nat) : FnOK Tryz.prog 88 [.ptr 15 9 0 0, .int .i64 k] (dH (ZD l a v) G Y N)
  (fun r H => r = .tup [.agg (ZN (getN l k)), .int .i64 (dirE l k)] ∧ ∀ i b, hget (dH (ZD l a v) G Y N) i = some b → hget H i = some b) := by
 unfold dH
 refine ZF tK (Tryz.func88) rfl (fun C => ?_)
 simp only [Tryz.ntmps88, Tryz.results88, go_sem]
 refine wGq tK ?_ ?_ (by simp only [go_sem, ZD]; try exact rfl)
 ·simp [ZD]
 refine wC Tryz.func47 (hf := (find_ok l k hl)) (hk := ?_)
 simp only [go_sem, findR]
 rw [isAt_eq]
 unfold getN dirE
 generalize findN l k = o
 cases o with
 | none =>
  simp only [Option.getD_none, Option.isSome_none]
  refine wGq tK ?_ ?_ (by simp only [go_sem, ZN, zeroN]; try exact rfl)
  ·simp [ZN]
  refine wD (fun h => ?_) (fun h => ?_)
  ·refine wGq tK ?_ ?_ (by simp only [go_sem, ZN, zeroN]; try exact rfl)
   ·simp [ZN]
   refine wU ?_ (hold2 ?_ ?_)
   ·simp [ZN, zeroN]
   ·simp [go_sem, ZD]
   ·simp [go_sem]
  ·cases h
 | some n =>
  simp only [Option.getD_some, Option.isSome_some]
  refine wGq tK ?_ ?_ (by simp only [go_sem, ZN]; try exact rfl)
  ·simp [ZN]
  refine wD (fun h => ?_) (fun h => ?_)
  ·cases h
  refine wGq tK ?_ ?_ (by simp only [go_sem, ZN]; try exact rfl)
  ·simp [ZN]
  refine wD (fun h => ?_) (fun h => ?_)
  ·have hd : n.dir = false := by simpa using h
   refine wGq tK ?_ ?_ (by simp only [go_sem, ZN]; try exact rfl)
   ·simp [ZN]
   refine wU ?_ (hold2 ?_ ?_)
   ·simp [ZN, hd]
   ·simp [go_sem, ZD]
   ·simp [go_sem]
  ·have hd : n.dir = true := by simpa using h
   refine wGq tK ?_ ?_ (by simp only [go_sem, ZN]; try exact rfl)
   ·simp [ZN]
   refine wU ?_ (hold2 ?_ ?_)
   ·simp [ZN, hd]
   ·simp [go_sem, ZD]
   ·simp [go_sem]
theorem put_in (l : List Node) (a : Act) (v : Int) (n : Node) (hl : Small l) (hn : n.Small) (G Y N : Nat → Nat) : FnOK Tryz.prog 90 [.ptr 15 9 0 0, .agg (ZN n)] (dH (ZD l a v) G Y N)
  (fun r H => r = .tup [] ∧ ∀ i b, hget (dH (ZD (putN l { n with version := v }) a v) G Y N) i = some b → hget H i = some b) := by
 have hp := put_ok l ({ n with version := v } : Node) hl ⟨hn.data, hn.entries⟩
 unfold dH
 refine ZF tK (Tryz.func90) rfl (fun C => ?_)
 simp only [Tryz.ntmps90, Tryz.results90, go_sem]
 refine wGq tK ?_ ?_ (by simp only [go_sem, ZD, ZN]; try exact rfl)
 ·simp [ZD]
 refine ZZ 3 rfl (rfl) ?_
 simp only [go_sem]
 refine ZW ZM ?_
 refine ZS rfl ?_
 refine sG tK ?_
 refine sC Tryz.func111 (hf := (hp)) (hk := ?_)
 refine sG tK ?_
 refine sE ?_
 refine dS tK ?_
 refine wKd ?_
 try simp only [go_sem, gA, gB, gC]
 refine cw_nil ⟨_, _, rfl, trivial, .tup [], .inr (.inl rfl), rfl, hold2 ?_ ?_⟩
 ·simp [go_sem, ZD]
 ·simp [go_sem]
end La
