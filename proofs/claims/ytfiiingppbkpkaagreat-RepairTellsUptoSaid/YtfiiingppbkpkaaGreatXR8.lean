/- Texts of this claim, part 8: Cmp, Ins, Own, Find, Put, PEnt, ModK, Ent, OwnH, Aux, Hof2. No condition. -/
import Derived.Test.YtfiiingppbkpkaaGreatXR5
import Derived.Test.YtfiiingppbkpkaaGreatXR6
import Derived.Test.YtfiiingppbkpkaaGreatXR7
set_option maxRecDepth 10000
set_option maxHeartbeats 4000000
set_option linter.unusedSimpArgs false
set_option linter.unusedVariables false
namespace La
open Go Go.Eng Go.Proofs
def cmpI (a b : Int) : Int := if a < b then -1 else if b < a then 1 else 0
theorem cmpI_lt (a b : Int) : decide (cmpI a b < 0) = decide (a < b) := by
 unfold cmpI
 split
 ·rename_i h; simp [h]
 ·rename_i h
  split
  ·simp [h]
  ·simp [h]
theorem cmpI_eq (a b : Int) : decide (cmpI a b = 0) = decide (a = b) := by
 unfold cmpI
 split
 ·rename_i h
  have : a ≠ b := by omega
  simp [this]
 ·rename_i h
  split
  ·have : a ≠ b := by omega
   simp [this]
  ·have : a = b := by omega
   simp [this]
theorem isNaN_ok (a : Int) : FnOK Tryz.prog 123 [.int .i64 a] [] (fun r _ => r = .bool false) := by
 refine ZF tK (Tryz.func123) rfl (fun C => ?_)
 simp only [Tryz.ntmps123, Tryz.results123, go_sem]
 refine wG tK ?_
 refine wT ?_
 simp
theorem compare_ok (a b : Int) : FnOK Tryz.prog 102 [.int .i64 a, .int .i64 b] [] (fun r _ => r = .int .i64 (cmpI a b)) := by
 refine ZF tK (Tryz.func102) rfl (fun C => ?_)
 simp only [Tryz.ntmps102, Tryz.results102, go_sem]
 refine wG tK ?_
 refine wC Tryz.func123 (hf := (isNaN_ok a)) (hk := ?_)
 refine wG tK ?_
 refine wC Tryz.func123 (hf := (isNaN_ok b)) (hk := ?_)
 refine wG tK ?_
 refine wD (fun h => ?_) (fun h => ?_)
 ·cases h
 refine wG tK ?_
 refine wD (fun h => ?_) (fun h => ?_)
 ·cases h
 refine wG tK ?_
 refine wD (fun h => ?_) (fun h => ?_)
 ·refine wG tK ?_
  refine wT ?_
  simp_all [cmpI]
 refine wG tK ?_
 refine wD (fun h => ?_) (fun h => ?_)
 ·refine wG tK ?_
  refine wT ?_
  simp_all [cmpI]
  all_goals omega
 refine wG tK ?_
 refine wT ?_
 simp_all [cmpI]
 all_goals omega
theorem whereCmp_ok (n : Node) (f : Int) : FnOK Tryz.prog 101 [.agg (ZN n), .int .i64 f] [] (fun r _ => r = .int .i64 (cmpI n.fid f)) := by
 unfold ZN
 refine ZF tK (Tryz.func101) rfl (fun C => ?_)
 simp only [Tryz.ntmps101, Tryz.results101, go_sem]
 refine wG tK ?_
 refine wC Tryz.func102 (hf := (compare_ok n.fid f)) (hk := ?_)
 refine wG tK ?_
 refine wT ?_
 rfl
theorem mid_ok {a b : Nat} (h : a + b ≤ 1000000000) : IntKind.i64.wrap ((IntKind.u64.wrap (IntKind.i64.wrap ((a : Int) + (b : Int)))).fdiv (2 ^ min 1 64)) = (((a + b) / 2 : Nat) : Int) := by
 have h1 : IntKind.i64.wrap ((a : Int) + (b : Int)) = ((a + b : Nat) : Int) := by rw [Eng.wrap_small (by omega) (by omega)]; omega
 have h2 : IntKind.u64.wrap ((a + b : Nat) : Int) = ((a + b : Nat) : Int) := by
  simp [IntKind.wrap, IntKind.signed, IntKind.bits]; omega
 rw [h1, h2]
 have h3 : (((a + b : Nat) : Int)).fdiv (2 ^ min 1 64) = (((a + b) / 2 : Nat) : Int) := by
  show (((a + b : Nat) : Int)).fdiv 2 = _
  rw [Int.fdiv_eq_ediv_of_nonneg _ (by omega)]
  omega
 rw [h3, Eng.wrap_small (by omega) (by omega)]
def ltAt (l : List Node) (f : Int) (i : Nat) : Bool := decide ((l.getD i default).fid < f)
theorem bsearch_step (lt : Nat → Bool) {lo hi : Nat} (h : lo < hi) : bsearch lt (hi - lo) lo hi = if lt ((lo + hi) / 2) then bsearch lt (hi - ((lo + hi) / 2 + 1)) ((lo + hi) / 2 + 1) hi else bsearch lt ((lo + hi) / 2 - lo) lo ((lo + hi) / 2) := by
 obtain ⟨f, hf⟩ : ∃ f, hi - lo = f + 1 := ⟨hi - lo - 1, by omega⟩
 rw [hf]
 conv => lhs; unfold bsearch
 rw [if_pos h]
 split
 ·exact bsearch_fuel lt _ _ _ _ (by omega) (by omega)
 ·exact bsearch_fuel lt _ _ _ _ (by omega) (by omega)
theorem bsearch_end (lt : Nat → Bool) {lo hi : Nat} (h : ¬ lo < hi) : bsearch lt (hi - lo) lo hi = lo := by
 have : hi - lo = 0 := by omega
 rw [this]; rfl
theorem node_search (l : List Node) (f : Int) (hlen : l.length ≤ 100000000) : FnOK Tryz.prog 100 [.sl (l.map ZN), .int .i64 f, .fn 101 []] [] (fun r _ => r = .tup [.int .i64 (Yp l f), .bool (isAt l f)]) := by
 refine ZF tK (Tryz.func100) rfl (fun C => ?_)
 simp only [Tryz.ntmps100, Tryz.results100, go_sem]
 refine wG tK ?_
 refine ZL (fun i : Nat × Nat => i.1 ≤ i.2 ∧ i.2 ≤ l.length ∧ bsearch (ltAt l f) (i.2 - i.1) i.1 i.2 = Yp l f) (fun i => i.2 - i.1) (fun i => [(9, .int .i64 i.1), (10, .int .i64 i.2), (11, .any), (15, .any), (16, .any), (17, .any), (18, .any), (19, .any), (20, .any), (21, .any), (22, .any), (23, .any), (24, .any), (25, .any), (26, .any), (27, .any), (28, .any), (29, .any), (30, .any), (31, .any), (32, .any), (33, .any), (34, .any)]) (fun _ => []) (0, l.length) ⟨by simp, by simp, rfl⟩ ?_ fun i hi => ?_
 ·simp only [go_sem]
  exact ZU (by simp [go_sem]) (by simp [go_sem]) (by simp [go_sem])
 obtain ⟨lo, hi'⟩ := i
 obtain ⟨h1, h2, h3⟩ := hi
 simp only at h1 h2 h3
 simp only [go_sem]
 refine wG tK ?_
 refine wD (fun h => ?_) (fun h => ?_)
 ·have hlt : lo < hi' := by simp at h; omega
  have hml : (lo + hi') / 2 < l.length := by omega
  have hn := whereCmp_ok (l.getD ((lo + hi') / 2) default) f
  have hg : (l.map ZN).getD ((lo + hi') / 2) [] = ZN (l.getD ((lo + hi') / 2) default) := Fam.getD hml
  have hmid : IntKind.i64.wrap ((IntKind.u64.wrap (IntKind.i64.wrap ((lo : Int) + (hi' : Int)))).fdiv (2 ^ min 1 64)) = (((lo + hi') / 2 : Nat) : Int) := mid_ok (by omega)
  have hst := bsearch_step (ltAt l f) hlt
  have hlm : ltAt l f ((lo + hi') / 2) = decide ((l.getD ((lo + hi') / 2) default).fid < f) := rfl
  have hm1 : lo ≤ (lo + hi') / 2 := by omega
  have hm2 : (lo + hi') / 2 < hi' := by omega
  generalize l.getD ((lo + hi') / 2) default = n at hn hg hlm
  generalize (lo + hi') / 2 = m at *
  refine wGq tK ?_ ?_ (by simp only [go_sem, hmid, hg]; try exact rfl)
  ·simp [hmid, hg, hml, ZN]
  refine wC Tryz.func101 (hf := (hn)) (hk := ?_)
  refine wG tK ?_
  refine wD (fun h => ?_) (fun h => ?_)
  ·rw [cmpI_lt, ← hlm] at h
   rw [h, if_pos rfl] at hst
   have hw : IntKind.i64.wrap ((m : Int) + 1) = ((m + 1 : Nat) : Int) := by rw [Eng.wrap_small (by omega) (by omega)]; omega
   refine wG tK ?_ (by simp only [go_sem, hw]; try exact rfl) (by simp [go_sem, hw])
   refine ZB ⟨(m + 1, hi'), ⟨by omega, h2, hst ▸ h3⟩, by simp; omega, ZU ?_ ?_ ?_⟩
   ·simp [go_sem]
   ·simp [go_sem]
   ·simp [go_sem]
  ·rw [cmpI_lt, ← hlm] at h
   rw [h, if_neg (by simp)] at hst
   refine wG tK ?_
   refine ZB ⟨(lo, m), ⟨by omega, by omega, hst ▸ h3⟩, by simp; omega, ZU ?_ ?_ ?_⟩
   ·simp [go_sem]
   ·simp [go_sem]
   ·simp [go_sem]
 ·have hge : ¬ lo < hi' := by simp at h; omega
  rw [bsearch_end _ hge] at h3
  subst h3
  refine wR ?_
  refine wN tK 5 ?_
  refine Yn 39 (by simp only [go_sem]; exact rfl) (fun c39 h39 => ?_)
  simp only [go_sem]
  cases c39 with
  | true =>
   have hpl : Yp l f < l.length := by have := of_decide_eq_true h39; omega
   have hn := whereCmp_ok (l.getD (Yp l f) default) f
   have hg : (l.map ZN).getD (Yp l f) [] = ZN (l.getD (Yp l f) default) := Fam.getD hpl
   have hat : isAt l f = decide ((l.getD (Yp l f) default).fid = f) := by simp [isAt, hpl]
   generalize l.getD (Yp l f) default = n at hn hg hat
   refine wGq tK ?_ ?_ (by simp only [go_sem, hg]; try exact rfl)
   ·simp [hg, hpl, ZN]
   refine wCC Tryz.func101 (hf := fun hb => (hn)) (hk := ?_)
   refine wG tK ?_
   refine wT ?_
   have e : (cmpI n.fid f == 0) = decide (n.fid = f) := by rw [← cmpI_eq]; by_cases h0 : cmpI n.fid f = 0 <;> simp [h0]
   simp [hat, e]
  | false =>
   have hpl : ¬ Yp l f < l.length := by have := of_decide_eq_false h39; omega
   have hat : isAt l f = false := by simp [isAt, hpl]
   refine wG tK ?_
   refine cw_pass (.int .i64 0) rfl ?_
   simp only [go_sem]
   refine wG tK ?_
   refine wT ?_
   simp [hat]
theorem where_ok (l : List Node) (f : Int) (hlen : l.length ≤ 100000000) : FnOK Tryz.prog 71 [.sl (l.map ZN), .int .i64 f] [] (fun r _ => r = .tup [.int .i64 (Yp l f), .bool (isAt l f)]) := by
 refine ZF tK (Tryz.func71) rfl (fun C => ?_)
 simp only [Tryz.ntmps71, Tryz.results71, go_sem]
 refine wG tK ?_
 refine wC Tryz.func100 (hf := (node_search l f hlen)) (hk := ?_)
 refine wG tK ?_
 refine wT ?_
 rfl
theorem ins_grow (L : List (List AV)) (i : Nat) (z w : List AV) (hi : i ≤ L.length) :
  overRows (overRows (L.take i ++ List.replicate (L.length + 1 - i) w) i [z]) (i + 1) (L.drop i) = L.take i ++ z :: L.drop i := by
 have hli : (L.take i).length = i := by rw [List.length_take]; omega
 have h1 : overRows (L.take i ++ List.replicate (L.length + 1 - i) w) i [z] = L.take i ++ z :: List.replicate (L.length - i) w := by
  unfold overRows
  have e1 : (L.take i ++ List.replicate (L.length + 1 - i) w).take i = L.take i := by
   rw [List.take_append, hli, Nat.sub_self, List.take_zero, List.append_nil, List.take_take, Nat.min_self]
  have e2 : (L.take i ++ List.replicate (L.length + 1 - i) w).drop (i + [z].length) = List.replicate (L.length - i) w := by
   rw [List.drop_append, List.drop_of_length_le (by rw [hli]; simp), List.drop_replicate, List.nil_append, hli]
   congr 1; simp; omega
  rw [e1, e2]; simp
 rw [h1]
 unfold overRows
 have hl : (L.take i ++ [z]).length = i + 1 := by rw [List.length_append, hli]; rfl
 have e1 : (L.take i ++ z :: List.replicate (L.length - i) w).take (i + 1) = L.take i ++ [z] := by
  have : L.take i ++ z :: List.replicate (L.length - i) w = (L.take i ++ [z]) ++ List.replicate (L.length - i) w := by simp
  rw [this, List.take_append, hl, Nat.sub_self, List.take_zero, List.append_nil, List.take_of_length_le (by omega)]
 have e2 : (L.take i ++ z :: List.replicate (L.length - i) w).drop (i + 1 + (L.drop i).length) = [] := by
  refine List.drop_of_length_le ?_
  rw [List.length_append, hli, List.length_cons, List.length_replicate, List.length_drop]; omega
 rw [e1, e2]; simp
theorem ins_room (L Z : List (List AV)) (i : Nat) (z : List AV) (hi : i < L.length) (hz : 0 < Z.length) :
  (overRows (overRows (L ++ Z) (i + 1) (L.drop i)) i [z]).take (L.length + 1) = L.take i ++ z :: L.drop i := by
 have hli : (L.take i).length = i := by rw [List.length_take]; omega
 have hli1 : (L.take (i + 1)).length = i + 1 := by rw [List.length_take]; omega
 have h1 : overRows (L ++ Z) (i + 1) (L.drop i) = L.take (i + 1) ++ (L.drop i ++ Z.drop 1) := by
  unfold overRows
  have e1 : (L ++ Z).take (i + 1) = L.take (i + 1) := by rw [List.take_append, show i + 1 - L.length = 0 by omega, List.take_zero, List.append_nil]
  have e2 : (L ++ Z).drop (i + 1 + (L.drop i).length) = Z.drop 1 := by
   rw [List.drop_append, List.drop_of_length_le (by rw [List.length_drop]; omega), List.nil_append, List.length_drop]
   congr 1; omega
  rw [e1, e2, List.append_assoc]
 rw [h1]
 unfold overRows
 have e1 : (L.take (i + 1) ++ (L.drop i ++ Z.drop 1)).take i = L.take i := by
  rw [List.take_append, hli1, show i - (i + 1) = 0 by omega, List.take_zero, List.append_nil, List.take_take, Nat.min_eq_left (by omega)]
 have e2 : (L.take (i + 1) ++ (L.drop i ++ Z.drop 1)).drop (i + [z].length) = L.drop i ++ Z.drop 1 := by
  rw [List.drop_append, List.drop_of_length_le (by rw [hli1]; simp), List.nil_append, hli1, show i + [z].length - (i + 1) = 0 by simp, List.drop_zero]
 rw [e1, e2]
 have e3 : L.take i ++ [z] ++ (L.drop i ++ Z.drop 1) = (L.take i ++ z :: L.drop i) ++ Z.drop 1 := by simp
 have e4 : (L.take i ++ z :: L.drop i).length = L.length + 1 := by rw [List.length_append, hli, List.length_cons, List.length_drop]; omega
 rw [e3, List.take_append, e4, Nat.sub_self, List.take_zero, List.append_nil, List.take_of_length_le (by omega)]
theorem take_one (n : Nat) (z : List AV) (hn : 0 < n) : List.take n [z] = [z] := List.take_of_length_le (by simp; omega)
theorem all_drop {L : List (List AV)} (i : Nat) (h : (L.all fun row => row.all AV.leaf) = true) : ((L.drop i).all fun row => row.all AV.leaf) = true := by
 rw [List.all_eq_true] at *; exact fun x hx => h x (List.mem_of_mem_drop hx)
def zrow : List AV := [.int .i64 0, .bool false, .nils, .nils, .int .i64 0]
theorem node_insert (L : List (List AV)) (i : Nat) (hi : i ≤ L.length) (hlen : L.length ≤ 100000000) (hL : rowsOf 5 L) (hlf : (L.all fun row => row.all AV.leaf) = true) (hnr : ∀ id, (L.all fun row => row.all fun x => !(refs x).contains id) = true) :
  FnOK Tryz.prog 127 [.osl 1000 5 0 L.length, .int .i64 i, .osl 22 5 0 1] [(22, .cells 60 5 [zrow]), (1000, .cells 60 5 L)] (fun r H => ∃ j, r = .osl j 5 0 (L.length + 1) ∧ Yk H j = some (.cells 60 5 (L.take i ++ zrow :: L.drop i))) := by
 refine ZF tK (Tryz.func127) rfl (fun C => ?_)
 simp only [Tryz.ntmps127, Tryz.results127, go_sem]
 refine wGq tK ?_ ?_
 ·simp [go_sem]; omega
 refine wD (fun h => ?_) (fun h => ?_)
 ·simp at h
 by_cases hin : i = L.length
 ·subst hin
  refine wGq tK ?_ ?_
  ·simp [go_sem]
  refine wD (fun h => ?_) (fun h => ?_)
  ·refine wGq tK ?_ ?_
   ·refine ⟨by simp, by simp, by intro row h; rw [List.mem_singleton.1 h]; rfl, fun _ _ _ _ h => by injection h, rfl, by omega, .inr trivial, by simp, ⟨fun _ => by rfl, by simp⟩, ?_⟩
    rw [hnr 1000]; rfl
   refine wT ?_
   simp [go_sem]
  ·simp at h
 ·refine wGq tK ?_ ?_
  ·simp [go_sem]
  refine wD (fun h => ?_) (fun h => ?_)
  ·simp at h; omega
  refine wR ?_
  refine wN tK 4 ?_
  refine cw_cap tK rfl rfl rfl rfl (id := 1000) (s := 5) (off := 0) (len := L.length) (e' := 60) (rows := L) (by simp only [go_sem]; try exact rfl) (by simp only [go_sem]; try exact rfl) (by omega) (by omega) (by simp only [go_sem]; try exact rfl) (fun c hc1 hc2 => ?_)
  simp only [go_sem]
  refine wG tK ?_
  have hw1 : IntKind.i64.wrap ((L.length : Int) + ((1 : Nat) : Int)) = ((L.length + 1 : Nat) : Int) := by rw [Eng.wrap_small (by omega) (by omega)]; omega
  have hw3 : IntKind.i64.wrap ((i : Int) + ((1 : Nat) : Int)) = ((i + 1 : Nat) : Int) := by rw [Eng.wrap_small (by omega) (by omega)]; omega
  have hil : i < L.length := by omega
  simp only [go_sem, hw1]
  refine wD (fun h => ?_) (fun h => ?_)
  ·have hc : c < L.length + 1 := by simp at h; omega
   have hcl : c = L.length := by omega
   subst hcl
   have hw2 : IntKind.i64.wrap (((L.length + 1 : Nat) : Int) - (i : Int)) = ((L.length + 1 - i : Nat) : Int) := by rw [Eng.wrap_small (by omega) (by omega)]; omega
   simp only [go_sem, Nat.zero_add, Nat.sub_self, List.replicate_zero, List.append_nil]
   refine wGq tK ?_ ?_ (by simp only [go_sem, hw1, hw2]; try exact rfl)
   ·simp [go_sem]; exact hi
   refine cw_step rfl (trip_growZ tK rfl rfl rfl (id := 1000) (s := 5) (len := i) (n := L.length + 1 - i) (j := 30) (N := L.length) (d := 40) (e' := 60) (by simp only [go_sem]; try exact rfl) (by simp only [go_sem]; try exact rfl) (by simp only [go_sem]; try exact rfl) (by omega) (by omega) (by simp only [go_sem]; try exact rfl) (by omega) rfl (by omega) (by decide) (by show (_ + 768) * 72 ≤ _; omega) (by simp only [go_sem]; try exact rfl)) ?_
   simp only [go_sem]
   refine wGq tK ?_ ?_ (by simp only [go_sem, hw1]; try exact rfl)
   ·refine ⟨⟨by simp, by omega, by omega⟩, by simp, by intro row h; rw [List.mem_singleton.1 h]; rfl, fun _ _ _ _ h => by injection h, ?_, ?_⟩
    ·rw [take_one _ _ (by omega)]; rfl
    ·simp; omega
   simp only [go_sem, take_one (i + (L.length + 1 - i) - i) zrow (by omega)]
   refine ZW ZM ?_
   refine ZS rfl ?_
   refine sNq tK 8 ?_ ?_ (h := by simp only [go_sem, hw3]; try exact rfl)
   ·refine ⟨⟨by simp, by omega, by omega⟩, by simp, by omega, hi⟩
   refine sE ?_
   refine dSq tK ?_ ?_
   ·simp only [go_sem]
    have e1 : List.take (L.length - i) (List.drop i L) = L.drop i := List.take_of_length_le (by simp)
    have e2 : List.take (i + (L.length + 1 - i) - (i + 1)) (L.drop i) = L.drop i := List.take_of_length_le (by simp; omega)
    rw [e1, e2]
    refine ⟨by simp, fun row hrow => hL row (List.mem_of_mem_drop hrow), fun _ _ _ _ h => by injection h; simp; omega, all_drop i hlf, ?_⟩
    rw [overRows_length (by simp; omega)]
    simp; omega
   refine wKd ?_
   have e1 : List.take (L.length - i) (List.drop i L) = L.drop i := List.take_of_length_le (by simp)
   have e2 : List.take (i + (L.length + 1 - i) - (i + 1)) (L.drop i) = L.drop i := List.take_of_length_le (by simp; omega)
   simp only [go_sem, e1, e2]
   refine wG tK ?_
   refine wT ?_
   refine ⟨40, ?_, ?_⟩
   ·simp [go_sem]; omega
   ·rw [ins_grow L i _ _ hi]; rfl
  ·have hc : ¬ c < L.length + 1 := by simp at h; omega
   refine wR ?_
   refine wN tK 4 ?_
   simp only [go_sem, hw1]
   refine cw_step rfl (trip_reslice tK rfl rfl (id := 1000) (s := 5) (off := 0) (len := L.length) (h := L.length + 1) (j := 30) (N := 0 + c) (by simp only [go_sem]; try exact rfl) (by simp only [go_sem]; try exact rfl) (by simp only [go_sem]; try exact rfl) (by omega) (by omega) rfl (by omega)) ?_
   simp only [go_sem]
   refine wGq tK ?_ ?_ (by simp only [go_sem, hw3]; try exact rfl)
   ·exact ⟨by simp, by omega, hi⟩
   refine cw_step rfl (trip_apart tK rfl (f := 133) (i1 := 22) (i2 := 1000) (s1 := 5) (s2 := 5) (by simp only [go_sem]; try exact rfl) (Go.Proofs.Tryz.func133) rfl rfl rfl rfl rfl (by decide) (by simp only [go_sem]; try exact rfl) (by simp only [go_sem]; try exact rfl) (by decide) (by omega) (by omega) (by decide) (by simp only [go_sem]; try exact rfl) (by simp only [go_sem]; try exact rfl)) ?_
   simp only [go_sem]
   refine wG tK ?_
   refine wD (fun h => ?_) (fun h => ?_)
   ·have hZ1 : rowsOf 5 (List.replicate (c - L.length) [AV.any,AV.any,AV.any,AV.any,AV.any]) := fun row hr => by rw [(List.mem_replicate.1 hr).2]; rfl
    have hZ2 : 0 < (List.replicate (c - L.length) [AV.any,AV.any,AV.any,AV.any,AV.any]).length := by rw [List.length_replicate]; omega
    generalize List.replicate (c - L.length) [AV.any,AV.any,AV.any,AV.any,AV.any] = Z at hZ1 hZ2
    have e0 : List.drop i (L ++ Z) = L.drop i ++ Z := by rw [List.drop_append, show i - L.length = 0 by omega, List.drop_zero]
    have e1 : (List.take (L.length + 1 - i) (List.drop i (L ++ Z))).length = L.length + 1 - i := by rw [e0]; simp; omega
    have e2 : List.take (L.length - i) (List.take (L.length + 1 - i) (List.drop i (L ++ Z))) = L.drop i := by
     rw [List.take_take, Nat.min_eq_left (by omega), e0, List.take_append, List.length_drop, Nat.sub_self, List.take_zero, List.append_nil, List.take_of_length_le (by simp)]
    have e3 : L.length + 1 - (i + 1) = L.length - i := by omega
    refine wR ?_
    refine ZW ZM ?_
    refine ZS rfl ?_
    refine sNq tK 8 ?_ ?_ (h := by simp only [go_sem, hw3]; try exact rfl)
    ·exact ⟨⟨by simp, by omega, hi⟩, by simp, by omega, by omega⟩
    refine sE ?_
    refine dSq tK ?_ ?_
    ·simp only [go_sem]
     refine ⟨by simp, fun row hr => ?_, fun _ _ _ _ h => by injection h with _ _ _ h; rw [e1, h], ?_, ?_⟩
     ·have := List.mem_of_mem_drop (List.mem_of_mem_take hr)
      rcases List.mem_append.1 this with h | h
      ·exact hL row h
      ·exact hZ1 row h
     ·rw [e3, e2]; exact all_drop i hlf
     ·omega
    refine wKd ?_
    simp only [go_sem, e2, e3, gA, gB, gC]
    refine wGq tK ?_ ?_
    ·refine ⟨⟨by simp, by omega, by omega⟩, by simp, by intro row h; rw [List.mem_singleton.1 h]; rfl, fun _ _ _ _ h => by injection h, ?_, ?_⟩
     ·rw [take_one _ _ (by omega)]; rfl
     ·rw [overRows_length (by simp; omega), List.length_append]; omega
    simp only [go_sem, take_one (L.length + 1 - i) zrow (by omega)]
    refine Yl (le_shrink (id := 1000) (L.length + 1) (by simp only [go_sem]; exact rfl)) ?_
    simp only [go_sem, ins_room L Z i zrow hil hZ2]
    refine wT ?_
    refine ⟨1000, ?_, ?_⟩
    ·simp [go_sem]
    ·rfl
   ·simp at h
def zentry : List AV := [.str [], .int .i64 0]
theorem entry_insert (L : List (List AV)) (i : Nat) (hi : i ≤ L.length) (hlen : L.length ≤ 100000000) (hL : rowsOf 2 L) (hlf : (L.all fun row => row.all AV.leaf) = true) (hnr : ∀ id, (L.all fun row => row.all fun x => !(refs x).contains id) = true) :
  FnOK Tryz.prog 115 [.osl 1000 2 0 L.length, .int .i64 i, .osl 28 2 0 1] [(28, .cells 135 2 [zentry]), (1000, .cells 135 2 L)] (fun r H => ∃ j, r = .osl j 2 0 (L.length + 1) ∧ Yk H j = some (.cells 135 2 (L.take i ++ zentry :: L.drop i))) := by
 refine ZF tK (Tryz.func115) rfl (fun C => ?_)
 simp only [Tryz.ntmps115, Tryz.results115, go_sem]
 refine wGq tK ?_ ?_
 ·simp [go_sem]; omega
 refine wD (fun h => ?_) (fun h => ?_)
 ·simp at h
 by_cases hin : i = L.length
 ·subst hin
  refine wGq tK ?_ ?_
  ·simp [go_sem]
  refine wD (fun h => ?_) (fun h => ?_)
  ·refine wGq tK ?_ ?_
   ·refine ⟨by simp, by simp, by intro row h; rw [List.mem_singleton.1 h]; rfl, fun _ _ _ _ h => by injection h, rfl, by omega, .inr trivial, by simp, ⟨fun _ => by rfl, by simp⟩, ?_⟩
    rw [hnr 1000]; rfl
   refine wT ?_
   simp [go_sem]
  ·simp at h
 ·refine wGq tK ?_ ?_
  ·simp [go_sem]
  refine wD (fun h => ?_) (fun h => ?_)
  ·simp at h; omega
  refine wR ?_
  refine wN tK 4 ?_
  refine cw_cap tK rfl rfl rfl rfl (id := 1000) (s := 2) (off := 0) (len := L.length) (e' := 135) (rows := L) (by simp only [go_sem]; try exact rfl) (by simp only [go_sem]; try exact rfl) (by omega) (by omega) (by simp only [go_sem]; try exact rfl) (fun c hc1 hc2 => ?_)
  simp only [go_sem]
  refine wG tK ?_
  have hw1 : IntKind.i64.wrap ((L.length : Int) + ((1 : Nat) : Int)) = ((L.length + 1 : Nat) : Int) := by rw [Eng.wrap_small (by omega) (by omega)]; omega
  have hw3 : IntKind.i64.wrap ((i : Int) + ((1 : Nat) : Int)) = ((i + 1 : Nat) : Int) := by rw [Eng.wrap_small (by omega) (by omega)]; omega
  have hil : i < L.length := by omega
  simp only [go_sem, hw1]
  refine wD (fun h => ?_) (fun h => ?_)
  ·have hc : c < L.length + 1 := by simp at h; omega
   have hcl : c = L.length := by omega
   subst hcl
   have hw2 : IntKind.i64.wrap (((L.length + 1 : Nat) : Int) - (i : Int)) = ((L.length + 1 - i : Nat) : Int) := by rw [Eng.wrap_small (by omega) (by omega)]; omega
   simp only [go_sem, Nat.zero_add, Nat.sub_self, List.replicate_zero, List.append_nil]
   refine wGq tK ?_ ?_ (by simp only [go_sem, hw1, hw2]; try exact rfl)
   ·simp [go_sem]; exact hi
   refine cw_step rfl (trip_growZ tK rfl rfl rfl (id := 1000) (s := 2) (len := i) (n := L.length + 1 - i) (j := 30) (N := L.length) (d := 40) (e' := 135) (by simp only [go_sem]; try exact rfl) (by simp only [go_sem]; try exact rfl) (by simp only [go_sem]; try exact rfl) (by omega) (by omega) (by simp only [go_sem]; try exact rfl) (by omega) rfl (by omega) (by decide) (by show (_ + 768) * 24 ≤ _; omega) (by simp only [go_sem]; try exact rfl)) ?_
   simp only [go_sem]
   refine wGq tK ?_ ?_ (by simp only [go_sem, hw1]; try exact rfl)
   ·refine ⟨⟨by simp, by omega, by omega⟩, by simp, by intro row h; rw [List.mem_singleton.1 h]; rfl, fun _ _ _ _ h => by injection h, ?_, ?_⟩
    ·rw [take_one _ _ (by omega)]; rfl
    ·simp; omega
   simp only [go_sem, take_one (i + (L.length + 1 - i) - i) zentry (by omega)]
   refine ZW ZM ?_
   refine ZS rfl ?_
   refine sNq tK 8 ?_ ?_ (h := by simp only [go_sem, hw3]; try exact rfl)
   ·refine ⟨⟨by simp, by omega, by omega⟩, by simp, by omega, hi⟩
   refine sE ?_
   refine dSq tK ?_ ?_
   ·simp only [go_sem]
    have e1 : List.take (L.length - i) (List.drop i L) = L.drop i := List.take_of_length_le (by simp)
    have e2 : List.take (i + (L.length + 1 - i) - (i + 1)) (L.drop i) = L.drop i := List.take_of_length_le (by simp; omega)
    rw [e1, e2]
    refine ⟨by simp, fun row hrow => hL row (List.mem_of_mem_drop hrow), fun _ _ _ _ h => by injection h; simp; omega, all_drop i hlf, ?_⟩
    rw [overRows_length (by simp; omega)]
    simp; omega
   refine wKd ?_
   have e1 : List.take (L.length - i) (List.drop i L) = L.drop i := List.take_of_length_le (by simp)
   have e2 : List.take (i + (L.length + 1 - i) - (i + 1)) (L.drop i) = L.drop i := List.take_of_length_le (by simp; omega)
   simp only [go_sem, e1, e2]
   refine wG tK ?_
   refine wT ?_
   refine ⟨40, ?_, ?_⟩
   ·simp [go_sem]; omega
   ·rw [ins_grow L i _ _ hi]; rfl
  ·have hc : ¬ c < L.length + 1 := by simp at h; omega
   refine wR ?_
   refine wN tK 4 ?_
   simp only [go_sem, hw1]
   refine cw_step rfl (trip_reslice tK rfl rfl (id := 1000) (s := 2) (off := 0) (len := L.length) (h := L.length + 1) (j := 30) (N := 0 + c) (by simp only [go_sem]; try exact rfl) (by simp only [go_sem]; try exact rfl) (by simp only [go_sem]; try exact rfl) (by omega) (by omega) rfl (by omega)) ?_
   simp only [go_sem]
   refine wGq tK ?_ ?_ (by simp only [go_sem, hw3]; try exact rfl)
   ·exact ⟨by simp, by omega, hi⟩
   refine cw_step rfl (trip_apart tK rfl (f := 129) (i1 := 28) (i2 := 1000) (s1 := 2) (s2 := 2) (by simp only [go_sem]; try exact rfl) (Go.Proofs.Tryz.func129) rfl rfl rfl rfl rfl (by decide) (by simp only [go_sem]; try exact rfl) (by simp only [go_sem]; try exact rfl) (by decide) (by omega) (by omega) (by decide) (by simp only [go_sem]; try exact rfl) (by simp only [go_sem]; try exact rfl)) ?_
   simp only [go_sem]
   refine wG tK ?_
   refine wD (fun h => ?_) (fun h => ?_)
   ·have hZ1 : rowsOf 2 (List.replicate (c - L.length) [AV.any,AV.any]) := fun row hr => by rw [(List.mem_replicate.1 hr).2]; rfl
    have hZ2 : 0 < (List.replicate (c - L.length) [AV.any,AV.any]).length := by rw [List.length_replicate]; omega
    generalize List.replicate (c - L.length) [AV.any,AV.any] = Z at hZ1 hZ2
    have e0 : List.drop i (L ++ Z) = L.drop i ++ Z := by rw [List.drop_append, show i - L.length = 0 by omega, List.drop_zero]
    have e1 : (List.take (L.length + 1 - i) (List.drop i (L ++ Z))).length = L.length + 1 - i := by rw [e0]; simp; omega
    have e2 : List.take (L.length - i) (List.take (L.length + 1 - i) (List.drop i (L ++ Z))) = L.drop i := by
     rw [List.take_take, Nat.min_eq_left (by omega), e0, List.take_append, List.length_drop, Nat.sub_self, List.take_zero, List.append_nil, List.take_of_length_le (by simp)]
    have e3 : L.length + 1 - (i + 1) = L.length - i := by omega
    refine wR ?_
    refine ZW ZM ?_
    refine ZS rfl ?_
    refine sNq tK 8 ?_ ?_ (h := by simp only [go_sem, hw3]; try exact rfl)
    ·exact ⟨⟨by simp, by omega, hi⟩, by simp, by omega, by omega⟩
    refine sE ?_
    refine dSq tK ?_ ?_
    ·simp only [go_sem]
     refine ⟨by simp, fun row hr => ?_, fun _ _ _ _ h => by injection h with _ _ _ h; rw [e1, h], ?_, ?_⟩
     ·have := List.mem_of_mem_drop (List.mem_of_mem_take hr)
      rcases List.mem_append.1 this with h | h
      ·exact hL row h
      ·exact hZ1 row h
     ·rw [e3, e2]; exact all_drop i hlf
     ·omega
    refine wKd ?_
    simp only [go_sem, e2, e3, gA, gB, gC]
    refine wGq tK ?_ ?_
    ·refine ⟨⟨by simp, by omega, by omega⟩, by simp, by intro row h; rw [List.mem_singleton.1 h]; rfl, fun _ _ _ _ h => by injection h, ?_, ?_⟩
     ·rw [take_one _ _ (by omega)]; rfl
     ·rw [overRows_length (by simp; omega), List.length_append]; omega
    simp only [go_sem, take_one (L.length + 1 - i) zentry (by omega)]
    refine Yl (le_shrink (id := 1000) (L.length + 1) (by simp only [go_sem]; exact rfl)) ?_
    simp only [go_sem, ins_room L Z i zentry hil hZ2]
    refine wT ?_
    refine ⟨1000, ?_, ?_⟩
    ·simp [go_sem]
    ·rfl
   ·simp at h
theorem clone_bytes (d : List UInt8) (hd : d.length ≤ 100000000) : FnOK Tryz.prog 57 [.sl (d.map ZY)] [] (fun r _ => r = .sl (d.map ZY)) := by
 refine ZF tK (Tryz.func57) rfl (fun C => ?_)
 simp only [Tryz.ntmps57, Tryz.results57, go_sem]
 refine wG tK ?_
 refine cw_nileq tK rfl rfl rfl (by first | rfl | (simp only [go_sem]; exact rfl)) (by first | rfl | (simp only [go_sem]; exact rfl)) (fun b hb => ?_)
 simp only [go_sem]
 refine wG tK ?_
 refine wD (fun h => ?_) (fun h => ?_)
 ·refine wG tK ?_
  refine cw_ret ⟨_, _, (by simp only [go_sem]; try exact rfl), by simp [go_sem], .sl [], .inr (.inr ⟨rfl, .inl rfl⟩), ?_⟩
  rw [hb h]
 ·refine wGq tK ?_ ?_
  ·simp; omega
  refine ZZ 7 rfl (byteRow_pure _) ?_
  simp only [go_sem]
  refine wT ?_
  simp
theorem clone_entries (d : List Entry) (hd : d.length ≤ 100000000) : FnOK Tryz.prog 67 [.sl (d.map ZE)] [] (fun r _ => r = .sl (d.map ZE)) := by
 refine ZF tK (Tryz.func67) rfl (fun C => ?_)
 simp only [Tryz.ntmps67, Tryz.results67, go_sem]
 refine wG tK ?_
 refine cw_nileq tK rfl rfl rfl (by first | rfl | (simp only [go_sem]; exact rfl)) (by first | rfl | (simp only [go_sem]; exact rfl)) (fun b hb => ?_)
 simp only [go_sem]
 refine wG tK ?_
 refine wD (fun h => ?_) (fun h => ?_)
 ·refine wG tK ?_
  refine cw_ret ⟨_, _, (by simp only [go_sem]; try exact rfl), by simp [go_sem], .sl [], .inr (.inr ⟨rfl, .inl rfl⟩), ?_⟩
  rw [hb h]
 ·refine wGq tK ?_ ?_
  ·simp; omega
  refine ZZ 7 rfl (entryRow_pure _) ?_
  simp only [go_sem]
  refine wT ?_
  simp
theorem own_okH (l : List Node) (hl : Small l) : FnOK Tryz.prog 38 [.sl (l.map ZN)] [] (fun r H => r = .osl 23 5 0 (l.map ZN).length ∧ ∀ i b, Yk [(23, .cells 60 5 (l.map ZN))] i = some b → Yk H i = some b) := by
 have hlen := hl.len
 refine ZF tK (Tryz.func38) rfl (fun C => ?_)
 simp only [Tryz.ntmps38, Tryz.results38, go_sem]
 refine wG tK ?_
 refine ZL (fun i : Nat => i ≤ l.length) (fun i => l.length - i) (fun i => [(3, .osl 23 5 0 i), (5, .any), (8, .int .i64 i), (9, .any), (10, .any), (11, .any), (12, .any), (13, .any), (14, .any), (15, .any), (16, .any), (17, .any), (18, .any), (19, .any), (20, .any), (21, .any), (22, .any), (23, .any), (24, .any)])
  (fun i => [(23, .cells 60 5 ((l.take i).map ZN))]) 0 (by omega) ?_ fun i hi => ?_
 ·simp only [go_sem]
  exact ZU (by simp [go_sem]) (by simp [go_sem]) (by simp only [go_sem])
 simp only [go_sem]
 refine wG tK ?_
 refine wD (fun h => ?_) (fun h => ?_)
 ·have hlt : i < l.length := by simp at h; omega
  have hn := hl.each _ (YG hlt)
  have hg : (l.map ZN).getD i [] = ZN (l.getD i default) := Fam.getD hlt
  have hs := take_succ_map ZN hlt
  generalize l.getD i default = n at hn hg hs
  refine wGq tK ?_ ?_ (by simp only [go_sem, hg, ZN]; try exact rfl)
  ·simp [hlt, ZN]
  refine ZW ZM ?_
  refine ZS rfl ?_
  refine sG tK ?_
  refine sC Tryz.func57 (hf := (clone_bytes _ hn.data)) (hk := ?_)
  refine sG tK ?_
  refine sC Tryz.func67 (hf := (clone_entries _ hn.entries)) (hk := ?_)
  refine sG tK ?_
  refine sE ?_
  refine dS tK ?_
  refine ZS rfl ?_
  refine sG tK ?_
  refine sE ?_
  refine dS tK ?_
  refine wKd ?_
  have ht : List.take i (List.map ZN (List.take i l)) = List.map ZN (List.take i l) := List.take_of_length_le (by simp; omega)
  have hw : IntKind.i64.wrap ((i : Int) + 1) = (i : Int) + 1 := wrap_small (by omega) (by omega)
  refine wGq tK ?_ ?_ (by simp only [go_sem, ht, hw]; try exact rfl)
  ·simp [rowsOf]; omega
  refine ZB ⟨i + 1, by omega, by omega, ZU ?_ ?_ ?_⟩
  ·simp [go_sem]
  ·simp [go_sem, hs, ZN]
  ·simp only [go_sem]
 ·have e : i = l.length := by simp at h; omega
  subst e
  refine wG tK ?_
  refine wT ?_
  simp [go_sem]
theorem own_ok (l : List Node) (hl : Small l) : FnOK Tryz.prog 38 [.sl (l.map ZN)] [] (fun r _ => r = .sl (l.map ZN)) := FnOK.read (own_okH l hl) (nodeRow_pure _)
def Yz : Node := ⟨0, false, [], [], 0⟩
def findR (l : List Node) (f : Int) : AV := .tup [.agg (ZN ((Yf l f).getD Yz)), .bool (isAt l f)]
theorem findN_at {l : List Node} {k : Int} (h : isAt l k = true) : Yf l k = some (l.getD (Yp l k) default) := by unfold Yf; rw [if_pos h]
theorem findN_no {l : List Node} {k : Int} (h : isAt l k = false) : Yf l k = none := by unfold Yf; rw [if_neg (by simp [h])]
@[go_sem, simp] theorem findR_refs (l : List Node) (f : Int) : refs (findR l f) = [] := by unfold findR; simp [refs, refsL]
theorem isAt_eq (l : List Node) (k : Int) : isAt l k = (Yf l k).isSome := by
 cases h : isAt l k
 ·rw [findN_no h]; rfl
 ·rw [findN_at h]; rfl
theorem findN_mem {l : List Node} {k : Int} {n : Node} (h : Yf l k = some n) : n ∈ l := by
 unfold Yf at h
 split at h
 ·rename_i hc
  injection h with h
  subst h
  unfold isAt at hc
  rw [Bool.and_eq_true] at hc
  exact YG (of_decide_eq_true hc.1)
 ·cases h
theorem Small.find {l : List Node} (h : Small l) (k : Int) : ((Yf l k).getD Yz).Small := by
 cases e : Yf l k with
 | none => exact ⟨by simp [Yz], by simp [Yz]⟩
 | some n => exact h.each n (findN_mem e)
theorem nrm_nodeRow (n : Node) : nrmL (ZN n) = ZN n := by
 have h1 : nrmR (n.data.map ZY) = n.data.map ZY := by rw [nrmR_map, List.map_map]; rfl
 have h2 : nrmR (n.entries.map ZE) = n.entries.map ZE := by rw [nrmR_map, List.map_map]; rfl
 simp only [ZN, nrmL, nrm, h1, h2]
theorem find_raw (l : List Node) (f : Int) (hl : Small l) : FnOK Tryz.prog 47 [.sl (l.map ZN), .int .i64 f] [] (fun r _ => r = .tup [.agg (if isAt l f = true then ZN (l.getD (Yp l f) default) else [.int .i64 0, .bool false, .nils, .nils, .int .i64 0]), .bool (isAt l f)]) := by
 refine ZF tK (Tryz.func47) rfl (fun C => ?_)
 simp only [Tryz.ntmps47, Tryz.results47, go_sem]
 refine wG tK ?_
 refine wC Tryz.func71 (hf := (where_ok l f hl.len)) (hk := ?_)
 refine wG tK ?_
 have hple := placeOf_le l f
 have hlen := hl.len
 refine wD (fun h => ?_) (fun h => ?_)
 ·have hat : isAt l f = false := by simpa using h
  refine wG tK ?_
  refine wT ?_
  simp [hat]
 ·have hat : isAt l f = true := by simpa using h
  have hpl : Yp l f < l.length := by
   unfold isAt at hat
   rw [Bool.and_eq_true] at hat
   exact of_decide_eq_true hat.1
  have hn := YG hpl
  have hd : (l.take (Yp l f + 1)).drop (Yp l f) = [l.getD (Yp l f) default] := by rw [List.drop_take, drop_getD hpl, Nat.add_sub_cancel_left]; rfl
  have hw : IntKind.i64.wrap ((Yp l f : Int) + 1) = ((Yp l f + 1 : Nat) : Int) := by rw [Eng.wrap_small (by omega) (by omega)]; omega
  generalize l.getD (Yp l f) default = n at hn hd
  refine wGq tK ?_ ?_ (by simp only [go_sem, hw]; try exact rfl)
  ·simp
   exact ⟨by omega, by omega, fun _ _ => rfl⟩
  simp only [go_sem, ← List.map_take, ← List.map_drop, hd]
  refine wC Tryz.func38 (hf := (own_ok [n] ⟨by simp, fun x hx => by rw [List.mem_singleton.1 hx]; exact hl.each n hn⟩)) (hk := ?_)
  refine wGq tK ?_ ?_ (by simp only [go_sem, ZN]; try exact rfl)
  ·simp [go_sem, ZN]
  refine cw_ret ⟨_, _, by simp only [go_sem, ZN]; try exact rfl, by simp [go_sem], _, .inr (.inl rfl), ?_⟩
  simp [hat, ZN]
theorem find_ok (l : List Node) (f : Int) (hl : Small l) : FnOK Tryz.prog 47 [.sl (l.map ZN), .int .i64 f] [] (fun r _ => r = findR l f) := by
 refine FnOK.nrmR (find_raw l f hl) ?_
 unfold findR
 cases h : isAt l f
 ·rw [findN_no h]; rfl
 ·rw [findN_at h]
  simp only [if_true, nrm, nrmL, nrm_nodeRow, Option.getD_some]
theorem putN_length (l : List Node) (n : Node) : (Yu l n).length ≤ l.length + 1 := by
 unfold Yu
 split
 ·simp
 ·have := placeOf_le l n.fid
  simp; omega
theorem rowFree {rows : List (List AV)} (h : ∀ id, (rows.all fun row => row.all fun x => !(refs x).contains id) = true) : ∀ row, row ∈ rows → ∀ x, x ∈ row → refs x = [] := fun row hr x hx => by
 refine List.eq_nil_iff_forall_not_mem.2 fun id hid => ?_
 have := List.all_eq_true.1 (List.all_eq_true.1 (h id) row hr) x hx
 rw [Bool.not_eq_true', List.contains_eq_mem, decide_eq_false_iff_not] at this
 exact this hid
theorem ins_free {L : List (List AV)} {i : Nat} {z : List AV} (h : ∀ id, (L.all fun row => row.all fun x => !(refs x).contains id) = true) (hz : ∀ x, x ∈ z → refs x = []) : ∀ row, row ∈ L.take i ++ z :: L.drop i → ∀ x, x ∈ row → refs x = [] := fun row hr x hx => by
 rcases List.mem_append.1 hr with h1 | h1
 ·exact rowFree h row (List.mem_of_mem_take h1) x hx
 ·rcases List.mem_cons.1 h1 with rfl | h1
  ·exact hz x hx
  ·exact rowFree h row (List.mem_of_mem_drop h1) x hx
theorem nodeRow_nil1 (l : List Node) : (l.map ZN).map (fun row => row.map nil1) = l.map ZN := by
 rw [List.map_map]; rfl
theorem entryRow_nil1 (l : List Entry) : (l.map ZE).map (fun row => row.map nil1) = l.map ZE := by
 rw [List.map_map]; rfl
theorem node_insertR (l : List Node) (i : Nat) (hi : i ≤ l.length) (hlen : l.length ≤ 100000000) :
  FnOK Tryz.prog 127 [.osl 1000 5 0 l.length, .int .i64 i, .osl 22 5 0 1] [(22, .cells 60 5 [[.int .i64 0, .bool false, .nils, .nils, .int .i64 0]]), (1000, .cells 60 5 (l.map ZN))]
   (fun r H => r = .osl 7 5 0 (l.length + 1) ∧ ∀ i' b, Yk [(7, .cells 60 5 ((l.take i ++ Yz :: l.drop i).map ZN))] i' = some b → Yk H i' = some b) := by
 have hL : (l.map ZN).length = l.length := List.length_map ..
 have := FnOK.renum (rows' := (l.take i ++ Yz :: l.drop i).map ZN) 7 (node_insert (l.map ZN) i (by omega) (by omega) (nodeRow_rowsOf l) (nodeRow_leaf l) (fun id => nodeRow_noRef id l)) (by
  rw [List.map_append, List.map_cons, List.map_append, List.map_cons, ← List.map_take, ← List.map_drop, nodeRow_nil1, nodeRow_nil1]; rfl) (ins_free (fun id => nodeRow_noRef id l) (by decide))
 rw [hL] at this
 exact this
theorem nodeRow_set (M : List Node) (i : Nat) (n : Node) : (M.map ZN).set i (ZN n) = (M.set i n).map ZN := by rw [List.map_set]
theorem nodeRow_at {M : List Node} {i : Nat} (h : i < M.length) : (M.map ZN).getD i [] = [.int .i64 (M.getD i default).fid, .bool (M.getD i default).dir, .sl ((M.getD i default).data.map ZY), .sl ((M.getD i default).entries.map ZE), .int .i64 (M.getD i default).version] := by
 rw [Fam.getD h]; rfl
theorem put_ok (l : List Node) (n : Node) (hl : Small l) (hn : n.Small) : FnOK Tryz.prog 111 [.sl (l.map ZN), .agg (ZN n)] [] (fun r _ => r = .sl ((Yu l n).map ZN)) := by
 have hlen := hl.len
 refine ZF tK (Tryz.func111) rfl (fun C => ?_)
 simp only [Tryz.ntmps111, Tryz.results111, go_sem]
 refine wGq tK ?_ ?_ (by simp only [go_sem, ZN]; try exact rfl)
 ·simp
 refine ZZ 3 rfl (rfl) ?_
 simp only [go_sem]
 refine wCG [] 977 Tryz.func38 (hf := (own_okH l hl)) (hk := ?_)
 refine wG tK ?_
 refine wV Tryz.func71 (hf := (where_ok l n.fid hlen)) (hk := ?_)
 refine wG tK ?_
 have hple := placeOf_le l n.fid
 refine wD (fun h => ?_) (fun h => ?_)
 ·have hat : isAt l n.fid = false := by simpa using h
  refine wG tK ?_
  refine wCG [1000, 22] 200 Tryz.func127 (hf := (node_insertR l (Yp l n.fid) hple hlen)) (hk := ?_)
  have hM : (l.take (Yp l n.fid) ++ Yz :: l.drop (Yp l n.fid)).length = l.length + 1 := by simp; omega
  have hS : (l.take (Yp l n.fid) ++ Yz :: l.drop (Yp l n.fid)).set (Yp l n.fid) n = Yu l n := by
   unfold Yu
   rw [hat, if_neg (by simp), List.set_append_right _ _ (by rw [List.length_take]; omega), List.length_take, Nat.min_eq_left hple, Nat.sub_self]; rfl
  have hpl : Yp l n.fid < l.length + 1 := by omega
  generalize l.take (Yp l n.fid) ++ Yz :: l.drop (Yp l n.fid) = M at *
  have hlt : Yp l n.fid < (M).length := by omega
  have hg := nodeRow_at hlt
  have hq : ((M).map ZN).set (Yp l n.fid) [.int .i64 n.fid, .bool n.dir, .sl (n.data.map ZY), .sl (n.entries.map ZE), .int .i64 n.version] = (Yu l n).map ZN := by
   rw [← hS, ← nodeRow_set]; rfl
  refine wGq tK ?_ ?_ (by simp only [go_sem, ZN]; try exact rfl)
  ·simp [ZN]
  refine ZZ 27 rfl (rfl) ?_
  simp only [go_sem]
  refine wC Tryz.func38 (hf := (own_ok [n] ⟨by simp, fun x hx => by rw [List.mem_singleton.1 hx]; exact hn⟩)) (hk := ?_)
  refine wR ?_
  refine wN tK 2 ?_ (h := by simp only [go_sem, ZN]; try exact rfl) (hp := by simp [go_sem, ZN])
  refine wNq tK 1 ?_ ?_ (h := by simp only [go_sem, ZN]; try exact rfl)
  ·simp [ZN, hpl, hM]
  refine wNq tK 1 ?_ ?_ (h := by simp only [go_sem, ZN]; try exact rfl)
  ·exact ⟨by simp, hlt⟩
  simp only [go_sem, hg, hq]
  refine wG tK ?_
  refine ZZ 207 rfl (nodeRow_pure _) ?_
  simp only [go_sem]
  refine wT ?_
  rw [if_pos (by rw [← hS, List.length_set]; omega), List.take_of_length_le (by rw [List.length_map, ← hS, List.length_set]; omega)]
 ·have hat : isAt l n.fid = true := by simpa using h
  have hpl : Yp l n.fid < l.length := by
   unfold isAt at hat
   rw [Bool.and_eq_true] at hat
   exact of_decide_eq_true hat.1
  have hS : l.set (Yp l n.fid) n = Yu l n := by
   unfold Yu
   rw [hat, if_pos rfl]
  have hlt : Yp l n.fid < (l).length := by omega
  have hg := nodeRow_at hlt
  have hq : ((l).map ZN).set (Yp l n.fid) [.int .i64 n.fid, .bool n.dir, .sl (n.data.map ZY), .sl (n.entries.map ZE), .int .i64 n.version] = (Yu l n).map ZN := by
   rw [← hS, ← nodeRow_set]; rfl
  refine wGq tK ?_ ?_ (by simp only [go_sem, ZN]; try exact rfl)
  ·simp [ZN]
  refine ZZ 27 rfl (rfl) ?_
  simp only [go_sem]
  refine wC Tryz.func38 (hf := (own_ok [n] ⟨by simp, fun x hx => by rw [List.mem_singleton.1 hx]; exact hn⟩)) (hk := ?_)
  refine wR ?_
  refine wN tK 2 ?_ (h := by simp only [go_sem, ZN]; try exact rfl) (hp := by simp [go_sem, ZN])
  refine wNq tK 1 ?_ ?_ (h := by simp only [go_sem, ZN]; try exact rfl)
  ·simp [ZN, hpl, hple]
  refine wNq tK 1 ?_ ?_ (h := by simp only [go_sem, ZN]; try exact rfl)
  ·exact ⟨by simp, hlt⟩
  simp only [go_sem, hg, hq]
  refine wG tK ?_
  refine ZZ 1000 rfl (nodeRow_pure _) ?_
  simp only [go_sem]
  refine wT ?_
  rw [if_pos (by rw [← hS, List.length_set]; omega), List.take_of_length_le (by rw [List.length_map, ← hS, List.length_set]; omega)]
end La
namespace La
open Go
theorem less_iff : ∀ (a b : List UInt8), Op.bytesLess a b = decide (a < b)
 | [], [] => by simp [Op.bytesLess]
 | [], _ :: _ => by simp [Op.bytesLess]
 | _ :: _, [] => by simp [Op.bytesLess]
 | p :: a, q :: b => by
  unfold Op.bytesLess
  rw [less_iff a b, Bool.eq_iff_iff]
  simp only [Bool.or_eq_true, decide_eq_true_eq, Bool.and_eq_true, beq_iff_eq, List.cons_lt_cons_iff]
theorem sirr (a : List UInt8) : ¬ a < a := List.lt_irrefl a
theorem strans {a b c : List UInt8} (h : a < b) (k : b < c) : a < c := List.lt_trans h k
theorem stri {a b : List UInt8} (h : ¬ a < b) (k : ¬ b < a) : a = b := List.le_antisymm (List.not_lt.1 k) (List.not_lt.1 h)
def eltAt (l : List Entry) (s : List UInt8) (i : Nat) : Bool := decide ((l.getD i default).name < s)
def Yq (l : List Entry) (s : List UInt8) : Nat := bsearch (eltAt l s) l.length 0 l.length
def isE (l : List Entry) (s : List UInt8) : Bool := decide (Yq l s < l.length) && decide ((l.getD (Yq l s) default).name = s)
def entryN (n : Node) (s : List UInt8) : Option Int := if isE n.entries s then some (n.entries.getD (Yq n.entries s) default).fid else none
def Zt (l : List Entry) (s : List UInt8) (f : Int) : List Entry := if isE l s then l.set (Yq l s) ⟨s, f⟩ else l.take (Yq l s) ++ ⟨s, f⟩ :: l.drop (Yq l s)
def leaveE (l : List Entry) (s : List UInt8) : List Entry := l.filter fun e => !(e.name == s)
def Ye (n : Node) (s : List UInt8) (f : Int) : Node := { n with entries := Zt n.entries s f }
def Yv (n : Node) (s : List UInt8) : Node := { n with entries := leaveE n.entries s }
theorem eplace_le (l : List Entry) (s : List UInt8) : Yq l s ≤ l.length := (bsearch_le _ _ _ _ (Nat.zero_le _)).2
def EUp (l : List Entry) : Prop := l.Pairwise fun a b => a.name < b.name
theorem EUp.lt {l : List Entry} (h : EUp l) {i j : Nat} (hij : i < j) (hj : j < l.length) : (l.getD i default).name < (l.getD j default).name := by
 have := List.pairwise_iff_getElem.1 h i j (by omega) hj hij
 rw [List.getD_eq_getElem?_getD, List.getD_eq_getElem?_getD, List.getElem?_eq_getElem (by omega), List.getElem?_eq_getElem hj]
 exact this
theorem EUp.place {l : List Entry} (h : EUp l) (s : List UInt8) : (∀ i, i < Yq l s → (l.getD i default).name < s) ∧ ∀ i, Yq l s ≤ i → i < l.length → ¬ (l.getD i default).name < s := by
 have := bsearch_spec (eltAt l s) l.length (fun i j hij hj hl => by
  rcases Nat.lt_or_eq_of_le hij with h1 | rfl
  ·exact decide_eq_true (strans (h.lt h1 hj) (of_decide_eq_true hl))
  ·exact hl) l.length 0 l.length (by omega) (by omega) (Nat.le_refl _) (fun i hi => by omega) (fun i h1 h2 => by omega)
 obtain ⟨_, h2, h3⟩ := this
 exact ⟨fun i hi => of_decide_eq_true (h2 i hi), fun i hi hl => of_decide_eq_false (h3 i hi hl)⟩
theorem egetD_of {l : List Entry} {x : Entry} {i : Nat} (h : l[i]? = some x) : l.getD i default = x := by rw [List.getD_eq_getElem?_getD, h]; rfl
theorem isE_iff {l : List Entry} (h : EUp l) (s : List UInt8) : isE l s = true ↔ ∃ e, e ∈ l ∧ e.name = s := by
 obtain ⟨p1, p2⟩ := h.place s
 unfold isE
 rw [Bool.and_eq_true, decide_eq_true_eq, decide_eq_true_eq]
 constructor
 ·rintro ⟨h1, h2⟩; exact ⟨_, YG h1, h2⟩
 ·rintro ⟨e, he, rfl⟩
  obtain ⟨i, hi⟩ := List.getElem?_of_mem he
  have hil : i < l.length := (List.getElem?_eq_some_iff.1 hi).1
  have hix := egetD_of hi
  have hpi : Yq l e.name = i := by
   rcases Nat.lt_trichotomy (Yq l e.name) i with h1 | h1 | h1
   ·have := p2 _ (Nat.le_refl _) (by omega)
    have h3 := h.lt h1 hil
    rw [hix] at h3
    exact absurd h3 this
   ·exact h1
   ·have := p1 i h1
    rw [hix] at this
    exact absurd this (sirr _)
  rw [hpi, hix]
  exact ⟨hil, rfl⟩
theorem EUp.parts {l : List Entry} (h : EUp l) {s : List UInt8} (hs : isE l s = false) : (∀ e, e ∈ l.take (Yq l s) → e.name < s) ∧ ∀ e, e ∈ l.drop (Yq l s) → s < e.name := by
 obtain ⟨p1, p2⟩ := h.place s
 refine ⟨fun e he => ?_, fun e he => ?_⟩
 ·obtain ⟨i, hi⟩ := List.getElem?_of_mem he
  rw [List.getElem?_take] at hi
  split at hi
  ·rename_i hip
   have := p1 i hip
   rwa [egetD_of hi] at this
  ·cases hi
 ·obtain ⟨i, hi⟩ := List.getElem?_of_mem he
  rw [List.getElem?_drop] at hi
  have h1 := p2 (Yq l s + i) (by omega) (List.getElem?_eq_some_iff.1 hi).1
  rw [egetD_of hi] at h1
  by_cases h2 : s < e.name
  ·exact h2
  ·have h3 := stri h1 h2
   have : isE l s = true := (isE_iff h s).2 ⟨e, List.mem_of_getElem? hi, h3⟩
   rw [hs] at this; cases this
theorem enterE_up {l : List Entry} (h : EUp l) {s : List UInt8} (hs : isE l s = false) (f : Int) : EUp (Zt l s f) ∧ (∀ e, e ∈ Zt l s f ↔ e = ⟨s, f⟩ ∨ e ∈ l) ∧ leaveE (Zt l s f) s = l := by
 obtain ⟨h1, h2⟩ := h.parts hs
 unfold Zt leaveE
 rw [hs, if_neg (by simp)]
 generalize Yq l s = p at *
 have hmem : ∀ x, x ∈ l ↔ x ∈ l.take p ∨ x ∈ l.drop p := fun x => by
  have := List.mem_append (a := x) (s := l.take p) (t := l.drop p)
  rw [List.take_append_drop] at this
  exact this
 refine ⟨?_, fun e => ?_, ?_⟩
 ·refine List.pairwise_append.2 ⟨h.sublist (List.take_sublist _ _), List.pairwise_cons.2 ⟨h2, h.sublist (List.drop_sublist _ _)⟩, fun a ha b hb => ?_⟩
  rcases List.mem_cons.1 hb with rfl | hb
  ·exact h1 a ha
  ·exact strans (h1 a ha) (h2 b hb)
 ·rw [hmem, List.mem_append, List.mem_cons]
  constructor
  ·rintro (h | h | h)
   ·exact .inr (.inl h)
   ·exact .inl h
   ·exact .inr (.inr h)
  ·rintro (h | h | h)
   ·exact .inr (.inl h)
   ·exact .inl h
   ·exact .inr (.inr h)
 ·rw [List.filter_append, List.filter_cons, List.filter_eq_self.2 (fun e he => ?_), List.filter_eq_self.2 (fun e he => ?_)]
  ·simp
  ·have : e.name ≠ s := by rintro rfl; exact sirr _ (h2 e he)
   simpa using this
  ·have : e.name ≠ s := by rintro rfl; exact sirr _ (h1 e he)
   simpa using this
theorem EUp.same {l : List Entry} (h : EUp l) {a b : Entry} (ha : a ∈ l) (hb : b ∈ l) (hn : a.name = b.name) : a = b := by
 obtain ⟨i, hi⟩ := List.getElem?_of_mem ha
 obtain ⟨j, hj⟩ := List.getElem?_of_mem hb
 have hil := (List.getElem?_eq_some_iff.1 hi).1
 have hjl := (List.getElem?_eq_some_iff.1 hj).1
 rcases Nat.lt_trichotomy i j with h1 | h1 | h1
 ·have := h.lt h1 hjl
  rw [egetD_of hi, egetD_of hj, hn] at this
  exact absurd this (sirr _)
 ·subst h1
  rw [hi] at hj; injection hj
 ·have := h.lt h1 hil
  rw [egetD_of hi, egetD_of hj, hn] at this
  exact absurd this (sirr _)
theorem YE {n : Node} (h : EUp n.entries) {s : List UInt8} {f : Int} : entryN n s = some f ↔ ⟨s, f⟩ ∈ n.entries := by
 unfold entryN
 constructor
 ·intro hf
  split at hf
  ·rename_i hc
   unfold isE at hc
   rw [Bool.and_eq_true, decide_eq_true_eq, decide_eq_true_eq] at hc
   have := YG hc.1
   injection hf with hf
   have e : n.entries.getD (Yq n.entries s) default = ⟨s, f⟩ := by
    cases h0 : n.entries.getD (Yq n.entries s) default with
    | mk a b => rw [h0] at hf hc; simp only at hf hc; rw [← hf, ← hc.2]
   rw [← e]; exact this
  ·cases hf
 ·intro hm
  have hi := (isE_iff h s).2 ⟨_, hm, rfl⟩
  rw [if_pos hi]
  unfold isE at hi
  rw [Bool.and_eq_true, decide_eq_true_eq, decide_eq_true_eq] at hi
  have := h.same (YG hi.1) hm hi.2
  rw [this]
theorem entryN_none {n : Node} (h : EUp n.entries) {s : List UInt8} : entryN n s = none ↔ ∀ e, e ∈ n.entries → e.name ≠ s := by
 unfold entryN
 constructor
 ·intro hf e he hn
  rw [if_pos ((isE_iff h s).2 ⟨e, he, hn⟩)] at hf; cases hf
 ·intro hn
  rw [if_neg]
  intro hi
  obtain ⟨e, he, h1⟩ := (isE_iff h s).1 hi
  exact hn e he h1
end La
namespace La
open Go Go.Eng
structure Kept where
 node : Node
 dirty : Bool
 worth : Int
 last : Int
deriving DecidableEq, Inhabited
structure Verdict where
 err : Int
 fid : Int
deriving DecidableEq, Inhabited
structure Past where
 client : Int
 act : Act
deriving DecidableEq, Inhabited
def ZK (k : Kept) : List AV := [.int .i64 k.node.fid, .bool k.node.dir, .sl (k.node.data.map ZY), .sl (k.node.entries.map ZE), .int .i64 k.node.version, .bool k.dirty, .int .i64 k.worth, .int .i64 k.last]
def strRow (s : List UInt8) : List AV := [.str s]
def ZV (v : Verdict) : List AV := [.int .i64 v.err, .int .i64 v.fid]
def ZP (p : Past) : List AV := [.int .i64 p.client, .int .i64 p.act.kind, .int .i64 p.act.fid, .int .i64 p.act.dir, .str p.act.name, .int .i64 p.act.to, .str p.act.toName, .sl (p.act.data.map ZY)]
theorem fam_keptRow : Fam ZK 8 := ⟨fun _ => rfl, fun _ => rfl, fun _ => rfl, fun _ => rfl⟩
@[go_sem, simp] theorem keptRow_rowsOf (l : List _) : Eng.rowsOf 8 (l.map ZK) := fam_keptRow.rowsOf l
@[go_sem, simp] theorem keptRow_leaf (l : List _) : ((l.map ZK).all fun row => row.all AV.leaf) = true := fam_keptRow.allLeaf l
@[go_sem, simp] theorem keptRow_pure (l : List _) : ((l.map ZK).all fun row => row.all AV.pureB) = true := fam_keptRow.allPure l
@[go_sem, simp] theorem keptRow_noRef (id : Nat) (l : List _) : ((l.map ZK).all fun row => row.all fun x => !(refs x).contains id) = true := fam_keptRow.noRef id l
@[go_sem, simp] theorem keptRow_refsB (e s : Nat) (l : List _) : refsB (.cells e s (l.map ZK)) = [] := fam_keptRow.refsB e s l
@[go_sem, simp] theorem keptRow_frzL (id s : Nat) (rows : List (List AV)) (l : List _) : (l.map ZK).map (frzL id s rows) = l.map ZK := Fam.frzL (fun _ _ _ _ => rfl) id s rows l
@[go_sem, simp] theorem keptRow_refsL (a) : refsL (ZK a) = [] := fam_keptRow.free a
theorem fam_verdictRow : Fam ZV 2 := ⟨fun _ => rfl, fun _ => rfl, fun _ => rfl, fun _ => rfl⟩
@[go_sem, simp] theorem verdictRow_pure (l : List _) : ((l.map ZV).all fun row => row.all AV.pureB) = true := fam_verdictRow.allPure l
@[go_sem, simp] theorem verdictRow_noRef (id : Nat) (l : List _) : ((l.map ZV).all fun row => row.all fun x => !(refs x).contains id) = true := fam_verdictRow.noRef id l
@[go_sem, simp] theorem verdictRow_refsB (e s : Nat) (l : List _) : refsB (.cells e s (l.map ZV)) = [] := fam_verdictRow.refsB e s l
@[go_sem, simp] theorem verdictRow_frzL (id s : Nat) (rows : List (List AV)) (l : List _) : (l.map ZV).map (frzL id s rows) = l.map ZV := Fam.frzL (fun _ _ _ _ => rfl) id s rows l
@[go_sem, simp] theorem verdictRow_refsL (a) : refsL (ZV a) = [] := fam_verdictRow.free a
theorem fam_pastRow : Fam ZP 8 := ⟨fun _ => rfl, fun _ => rfl, fun _ => rfl, fun _ => rfl⟩
@[go_sem, simp] theorem pastRow_rowsOf (l : List _) : Eng.rowsOf 8 (l.map ZP) := fam_pastRow.rowsOf l
@[go_sem, simp] theorem pastRow_leaf (l : List _) : ((l.map ZP).all fun row => row.all AV.leaf) = true := fam_pastRow.allLeaf l
@[go_sem, simp] theorem pastRow_pure (l : List _) : ((l.map ZP).all fun row => row.all AV.pureB) = true := fam_pastRow.allPure l
@[go_sem, simp] theorem pastRow_noRef (id : Nat) (l : List _) : ((l.map ZP).all fun row => row.all fun x => !(refs x).contains id) = true := fam_pastRow.noRef id l
@[go_sem, simp] theorem pastRow_refsB (e s : Nat) (l : List _) : refsB (.cells e s (l.map ZP)) = [] := fam_pastRow.refsB e s l
@[go_sem, simp] theorem pastRow_renL (off : Nat) (l : List _) : (l.map ZP).map (renL off) = l.map ZP := Fam.renL (fun _ _ => rfl) off l
@[go_sem, simp] theorem pastRow_frzL (id s : Nat) (rows : List (List AV)) (l : List _) : (l.map ZP).map (frzL id s rows) = l.map ZP := Fam.frzL (fun _ _ _ _ => rfl) id s rows l
theorem fam_strRow : Fam strRow 1 := ⟨fun _ => rfl, fun _ => rfl, fun _ => rfl, fun _ => rfl⟩
@[go_sem, simp] theorem strRow_pure (l : List _) : ((l.map strRow).all fun row => row.all AV.pureB) = true := fam_strRow.allPure l
@[go_sem, simp] theorem strRow_noRef (id : Nat) (l : List _) : ((l.map strRow).all fun row => row.all fun x => !(refs x).contains id) = true := fam_strRow.noRef id l
@[go_sem, simp] theorem strRow_refsB (e s : Nat) (l : List _) : refsB (.cells e s (l.map strRow)) = [] := fam_strRow.refsB e s l
@[go_sem, simp] theorem strRow_refsL (a) : refsL (strRow a) = [] := fam_strRow.free a
end La
namespace La
open Go Go.Eng Go.Proofs
def cmpS (a b : List UInt8) : Int := if a < b then -1 else if b < a then 1 else 0
theorem cmpS_lt (a b : List UInt8) : decide (cmpS a b < 0) = decide (a < b) := by
 unfold cmpS
 split
 ·rename_i h; simp [h]
 ·rename_i h
  split
  ·simp [h]
  ·simp [h]
theorem cmpS_eq (a b : List UInt8) : decide (cmpS a b = 0) = decide (a = b) := by
 unfold cmpS
 split
 ·rename_i h
  have : a ≠ b := by rintro rfl; exact sirr _ h
  simp [this]
 ·rename_i h
  split
  ·rename_i h2
   have : a ≠ b := by rintro rfl; exact sirr _ h2
   simp [this]
  ·rename_i h2
   simp [stri h h2]
theorem isNaNS_ok (a : List UInt8) : FnOK Tryz.prog 128 [.str a] [] (fun r _ => r = .bool false) := by
 refine ZF tK (Tryz.func128) rfl (fun C => ?_)
 simp only [Tryz.ntmps128, Tryz.results128, go_sem]
 refine wG tK ?_
 refine wT ?_
 simp
theorem compareS_ok (a b : List UInt8) : FnOK Tryz.prog 114 [.str a, .str b] [] (fun r _ => r = .int .i64 (cmpS a b)) := by
 refine ZF tK (Tryz.func114) rfl (fun C => ?_)
 simp only [Tryz.ntmps114, Tryz.results114, go_sem]
 refine wG tK ?_
 refine wC Tryz.func128 (hf := (isNaNS_ok a)) (hk := ?_)
 refine wG tK ?_
 refine wC Tryz.func128 (hf := (isNaNS_ok b)) (hk := ?_)
 refine wG tK ?_
 refine wD (fun h => ?_) (fun h => ?_)
 ·cases h
 refine wG tK ?_
 refine wD (fun h => ?_) (fun h => ?_)
 ·cases h
 refine wG tK ?_
 refine wD (fun h => ?_) (fun h => ?_)
 ·rename_i h0 h1
  have hab : a < b := by rw [less_iff] at h; exact of_decide_eq_true h
  refine wG tK ?_
  refine wT ?_
  simp [cmpS, hab]
 have hab : ¬ a < b := by rw [less_iff] at h; exact of_decide_eq_false h
 refine wG tK ?_
 refine wD (fun h => ?_) (fun h => ?_)
 ·have hba : b < a := by
   rw [less_iff] at h
   by_cases h3 : b < a
   ·exact h3
   ·have := stri hab h3
    subst this
    simp at h
  refine wG tK ?_
  refine wT ?_
  simp [cmpS, hab, hba]
 have hba : ¬ b < a := by
  intro h3
  have hne : a ≠ b := by rintro rfl; exact sirr _ h3
  rw [less_iff] at h
  simp [hab, hne] at h
 refine wG tK ?_
 refine wT ?_
 simp [cmpS, hab, hba]
theorem entryCmp_ok (e : Entry) (s : List UInt8) : FnOK Tryz.prog 126 [.agg (ZE e), .str s] [] (fun r _ => r = .int .i64 (cmpS e.name s)) := by
 unfold ZE
 refine ZF tK (Tryz.func126) rfl (fun C => ?_)
 simp only [Tryz.ntmps126, Tryz.results126, go_sem]
 refine wG tK ?_
 refine wC Tryz.func114 (hf := (compareS_ok e.name s)) (hk := ?_)
 refine wG tK ?_
 refine wT ?_
 rfl
theorem enterCmp_ok (e : Entry) (s : List UInt8) : FnOK Tryz.prog 113 [.agg (ZE e), .str s] [] (fun r _ => r = .int .i64 (cmpS e.name s)) := by
 unfold ZE
 refine ZF tK (Tryz.func113) rfl (fun C => ?_)
 simp only [Tryz.ntmps113, Tryz.results113, go_sem]
 refine wG tK ?_
 refine wC Tryz.func114 (hf := (compareS_ok e.name s)) (hk := ?_)
 refine wG tK ?_
 refine wT ?_
 rfl
theorem entry_search (l : List Entry) (s : List UInt8) (hlen : l.length ≤ 100000000) {f : FuncId} (hcal : Callable Tryz.prog f) (hf : ∀ e, FnOK Tryz.prog f [.agg (ZE e), .str s] [] (fun r _ => r = .int .i64 (cmpS e.name s))) :
  FnOK Tryz.prog 112 [.sl (l.map ZE), .str s, .fn f []] [] (fun r _ => r = .tup [.int .i64 (Yq l s), .bool (isE l s)]) := by
 refine ZF tK (Tryz.func112) rfl (fun C => ?_)
 simp only [Tryz.ntmps112, Tryz.results112, go_sem]
 refine wG tK ?_
 refine ZL (fun i : Nat × Nat => i.1 ≤ i.2 ∧ i.2 ≤ l.length ∧ bsearch (eltAt l s) (i.2 - i.1) i.1 i.2 = Yq l s) (fun i => i.2 - i.1) (fun i => [(9, .int .i64 i.1), (10, .int .i64 i.2), (11, .any), (15, .any), (16, .any), (17, .any), (18, .any), (19, .any), (20, .any), (21, .any), (22, .any), (23, .any), (24, .any), (25, .any), (26, .any), (27, .any), (28, .any), (29, .any), (30, .any), (31, .any), (32, .any), (33, .any), (34, .any)]) (fun _ => []) (0, l.length) ⟨by simp, by simp, rfl⟩ ?_ fun i hi => ?_
 ·simp only [go_sem]
  exact ZU (by simp [go_sem]) (by simp [go_sem]) (by simp [go_sem])
 obtain ⟨lo, hi'⟩ := i
 obtain ⟨h1, h2, h3⟩ := hi
 simp only at h1 h2 h3
 simp only [go_sem]
 refine wG tK ?_
 refine wD (fun h => ?_) (fun h => ?_)
 ·have hlt : lo < hi' := by simp at h; omega
  have hml : (lo + hi') / 2 < l.length := by omega
  have hn := hf (l.getD ((lo + hi') / 2) default)
  have hg : (l.map ZE).getD ((lo + hi') / 2) [] = ZE (l.getD ((lo + hi') / 2) default) := Fam.getD hml
  have hmid : IntKind.i64.wrap ((IntKind.u64.wrap (IntKind.i64.wrap ((lo : Int) + (hi' : Int)))).fdiv (2 ^ min 1 64)) = (((lo + hi') / 2 : Nat) : Int) := mid_ok (by omega)
  have hst := bsearch_step (eltAt l s) hlt
  have hlm : eltAt l s ((lo + hi') / 2) = decide ((l.getD ((lo + hi') / 2) default).name < s) := rfl
  have hm1 : lo ≤ (lo + hi') / 2 := by omega
  have hm2 : (lo + hi') / 2 < hi' := by omega
  generalize l.getD ((lo + hi') / 2) default = n at hn hg hlm
  generalize (lo + hi') / 2 = m at *
  refine wGq tK ?_ ?_ (by simp only [go_sem, hmid, hg, ZE]; try exact rfl)
  ·simp [hmid, hg, hml, ZE]
  refine cw_call rfl rfl (by simp only [go_sem]; try exact rfl) (by simp [go_sem]) hcal (by simp [go_sem, ne_eq]) (hn) (by simp [go_sem]) (by simp only [go_sem]; exact rfl) ?_
  refine wG tK ?_
  refine wD (fun h => ?_) (fun h => ?_)
  ·rw [cmpS_lt, ← hlm] at h
   rw [h, if_pos rfl] at hst
   have hw : IntKind.i64.wrap ((m : Int) + 1) = ((m + 1 : Nat) : Int) := by rw [Eng.wrap_small (by omega) (by omega)]; omega
   refine wG tK ?_ (by simp only [go_sem, hw]; try exact rfl) (by simp [go_sem, hw])
   refine ZB ⟨(m + 1, hi'), ⟨by omega, h2, hst ▸ h3⟩, by simp; omega, ZU ?_ ?_ ?_⟩
   ·simp [go_sem]
   ·simp [go_sem]
   ·simp [go_sem]
  ·rw [cmpS_lt, ← hlm] at h
   rw [h, if_neg (by simp)] at hst
   refine wG tK ?_
   refine ZB ⟨(lo, m), ⟨by omega, by omega, hst ▸ h3⟩, by simp; omega, ZU ?_ ?_ ?_⟩
   ·simp [go_sem]
   ·simp [go_sem]
   ·simp [go_sem]
 ·have hge : ¬ lo < hi' := by simp at h; omega
  rw [bsearch_end _ hge] at h3
  subst h3
  refine wR ?_
  refine wN tK 5 ?_
  refine Yn 39 (by simp only [go_sem]; exact rfl) (fun c39 h39 => ?_)
  simp only [go_sem]
  cases c39 with
  | true =>
   have hpl : Yq l s < l.length := by have := of_decide_eq_true h39; omega
   have hn := hf (l.getD (Yq l s) default)
   have hg : (l.map ZE).getD (Yq l s) [] = ZE (l.getD (Yq l s) default) := Fam.getD hpl
   have hat : isE l s = decide ((l.getD (Yq l s) default).name = s) := by simp [isE, hpl]
   generalize l.getD (Yq l s) default = n at hn hg hat
   refine wGq tK ?_ ?_ (by simp only [go_sem, hg, ZE]; try exact rfl)
   ·simp [hg, hpl, ZE]
   refine cw_callC rfl (by simp only [go_sem]; try exact rfl) (by simp only [go_sem]; try exact rfl) (by simp [go_sem]) hcal (by simp [go_sem]) (fun hb => (hn)) (by simp [go_sem]) (by simp only [go_sem]; exact rfl) ?_
   refine wG tK ?_
   refine wT ?_
   have e : (cmpS n.name s == 0) = decide (n.name = s) := by rw [← cmpS_eq]; by_cases h0 : cmpS n.name s = 0 <;> simp [h0]
   simp [hat, e]
  | false =>
   have hpl : ¬ Yq l s < l.length := by have := of_decide_eq_false h39; omega
   have hat : isE l s = false := by simp [isE, hpl]
   refine wG tK ?_
   refine cw_pass (.int .i64 0) rfl ?_
   simp only [go_sem]
   refine wG tK ?_
   refine wT ?_
   simp [hat]
def optInt : Option Int → AV
 | none => .tup [.int .i64 0, .bool false]
 | some f => .tup [.int .i64 f, .bool true]
@[go_sem, simp] theorem optInt_refs (o : Option Int) : refs (optInt o) = [] := by cases o <;> simp [optInt, refs, refsL]
theorem entry_ok (n : Node) (s : List UInt8) (hn : n.Small) : FnOK Tryz.prog 110 [.agg (ZN n), .str s] [] (fun r _ => r = optInt (entryN n s)) := by
 have hlen := hn.entries
 unfold ZN
 refine ZF tK (Tryz.func110) rfl (fun C => ?_)
 simp only [Tryz.ntmps110, Tryz.results110, go_sem]
 refine wG tK ?_
 refine wC Tryz.func112 (hf := (entry_search n.entries s hlen ⟨_, Go.Proofs.Tryz.func126, by kernel_rfl, rfl⟩ (fun e => entryCmp_ok e s))) (hk := ?_)
 refine wG tK ?_
 refine wD (fun h => ?_) (fun h => ?_)
 ·have hat : isE n.entries s = false := by simpa using h
  refine wG tK ?_
  refine wT ?_
  simp [entryN, hat, optInt]
 ·have hat : isE n.entries s = true := by simpa using h
  have hpl : Yq n.entries s < n.entries.length := by
   unfold isE at hat
   rw [Bool.and_eq_true] at hat
   exact of_decide_eq_true hat.1
  have hg : (n.entries.map ZE).getD (Yq n.entries s) [] = ZE (n.entries.getD (Yq n.entries s) default) := Fam.getD hpl
  have hr : entryN n s = some (n.entries.getD (Yq n.entries s) default).fid := by simp [entryN, hat]
  rw [hr]
  generalize n.entries.getD (Yq n.entries s) default = e at hg
  refine wGq tK ?_ ?_ (by simp only [go_sem, hg, ZE]; try exact rfl)
  ·simp [hg, hpl, ZE]
  refine wT ?_
  simp [optInt]
theorem clone_entriesH (d : List Entry) (hd : d.length ≤ 100000000) : FnOK Tryz.prog 67 [.sl (d.map ZE)] [] (fun r H => r = .osl 7 2 0 d.length ∧ ∀ i b, Yk [(7, .cells 135 2 (d.map ZE))] i = some b → Yk H i = some b) := by
 refine ZF tK (Tryz.func67) rfl (fun C => ?_)
 simp only [Tryz.ntmps67, Tryz.results67, go_sem]
 refine wG tK ?_
 refine cw_nileq tK rfl rfl rfl (by first | rfl | (simp only [go_sem]; exact rfl)) (by first | rfl | (simp only [go_sem]; exact rfl)) (fun b hb => ?_)
 simp only [go_sem]
 refine wG tK ?_
 refine wD (fun h => ?_) (fun h => ?_)
 ·have hn : d.map ZE = [] := hb h
  have hd0 : d = [] := by simpa using hn
  subst hd0
  refine Yl (Ze 7 135 2 rfl) ?_
  refine wG tK ?_
  refine cw_ret ⟨_, _, by simp only [go_sem]; try exact rfl, by simp [go_sem], .osl 7 2 0 0, .inr (.inr ⟨rfl, .inr ⟨7, 2, 0, rfl⟩⟩), ?_⟩
  simp [go_sem]
 ·refine wGq tK ?_ ?_
  ·simp; omega
  refine wT ?_
  simp [go_sem]
def heldRow (n : Node) (id : Nat) : List AV := [.int .i64 n.fid, .bool n.dir, .sl (n.data.map ZY), .osl id 2 0 n.entries.length, .int .i64 n.version]
@[go_sem, simp] theorem heldRow_eq (n : Node) (id : Nat) : heldRow n id = [.int .i64 n.fid, .bool n.dir, .sl (n.data.map ZY), .osl id 2 0 n.entries.length, .int .i64 n.version] := rfl
theorem own_oneH (n : Node) (hn : n.Small) : FnOK Tryz.prog 38 [.sl [ZN n]] [] (fun r H => r = .osl 23 5 0 1 ∧ ∀ i b, Yk [(23, .cells 60 5 [heldRow n 1000]), (1000, .cells 135 2 (n.entries.map ZE))] i = some b → Yk H i = some b) := by
 refine ZF tK (Tryz.func38) rfl (fun C => ?_)
 simp only [Tryz.ntmps38, Tryz.results38, go_sem]
 refine wG tK ?_
 refine ZL (fun _ : Bool => True) (fun i => cond i 1 0) (fun i => match i with
   | true => [(3, .osl 23 5 0 0), (5, .any), (8, .int .i64 0), (9, .any), (10, .any), (11, .any), (12, .any), (13, .any), (14, .any), (15, .any), (16, .any), (17, .any), (18, .any), (19, .any), (20, .any), (21, .any), (22, .any), (23, .any), (24, .any)]
   | false => [(3, .osl 23 5 0 1), (5, .any), (8, .int .i64 1), (9, .any), (10, .any), (11, .any), (12, .any), (13, .any), (14, .any), (15, .any), (16, .any), (17, .any), (18, .any), (19, .any), (20, .any), (21, .any), (22, .any), (23, .any), (24, .any)])
  (fun i => match i with
   | true => [(23, .cells 60 5 [])]
   | false => [(23, .cells 60 5 [heldRow n 1000]), (1000, .cells 135 2 (n.entries.map ZE))]) true trivial ?_ fun i hi => ?_
 ·simp only [go_sem]
  exact ZU (by simp [go_sem]) (by simp [go_sem]) (by simp only [go_sem])
 cases i with
 | true =>
  simp only [go_sem]
  refine wG tK ?_
  refine wD (fun h => ?_) (fun h => ?_)
  ·refine wGq tK ?_ ?_ (by simp only [go_sem, ZN]; try exact rfl)
   ·simp [ZN]
   refine ZW ZM ?_
   refine ZS rfl ?_
   refine sG tK ?_
   refine sC Tryz.func57 (hf := (clone_bytes _ hn.data)) (hk := ?_)
   refine sG tK ?_
   refine seg_callN 993 rfl rfl (by simp only [go_sem]; try exact rfl) (by simp [go_sem]) ⟨_, Tryz.func67, by kernel_rfl, rfl⟩ (by simp [go_sem]) (clone_entriesH _ hn.entries) (by simp [go_sem]) (by simp only [go_sem]; try exact rfl) (by simp only [go_sem]; try exact rfl) (by simp [go_sem]) (by simp only [go_sem]; exact rfl) (by simp only [go_sem]; exact rfl) ?_
   refine sG tK ?_
   refine sE ?_
   refine dS tK ?_
   refine ZS rfl ?_
   refine sG tK ?_
   refine sE ?_
   refine dS tK ?_
   refine wKd ?_
   refine wGq tK ?_ ?_
   ·simp [rowsOf]
   refine ZB ⟨false, by simp, ZU ?_ ?_ ?_⟩
   ·simp [go_sem]; rfl
   ·simp [go_sem, heldRow]
   ·simp [go_sem, heldRow]
  ·simp at h
 | false =>
  simp only [go_sem]
  refine wG tK ?_
  refine wD (fun h => ?_) (fun h => ?_)
  ·simp at h
  refine wG tK ?_
  refine wT ?_
  simp [go_sem]
theorem idxI_any {α : Type} {p : α → Bool} (l : List α) : decide (idxI (l.findIdx? p) ≥ 0) = l.any p := by
 cases h : l.findIdx? p with
 | none =>
  rw [List.findIdx?_eq_none_iff] at h
  have : l.any p = false := by rw [List.any_eq_false]; intro x hx; simp [h x hx]
  rw [this]; rfl
 | some k =>
  have : l.any p = true := by
   obtain ⟨hk, h1, _⟩ := List.findIdx?_eq_some_iff_getElem.1 h
   exact List.any_eq_true.2 ⟨_, List.getElem_mem hk, h1⟩
  rw [this]
  simp [idxI]
theorem viewL_pure : ∀ {l : List AV}, (l.all AV.pureB) = true → ∃ q, (∀ h, viewL h l = some (q, l)) ∧ q
 | [], _ => ⟨True, fun _ => rfl, trivial⟩
 | x :: r, hp => by
  simp only [List.all_cons, Bool.and_eq_true] at hp
  obtain ⟨q, h1, h2⟩ := viewL_pure hp.2
  have hx : ∀ h, view h x = some (True, x) := fun h => by
   cases x with
   | osl => cases hp.1
   | ptr => cases hp.1
   | mp => cases hp.1
   | fn => cases hp.1
   | agg => cases hp.1
   | any => cases hp.1
   | tup => cases hp.1
   | cnd => cases hp.1
   | exs => cases hp.1
   | _ => rfl
  exact ⟨True ∧ q, fun h => by simp only [viewL, hx, h1], trivial, h2⟩
theorem refsL_pure : ∀ {l : List AV}, (l.all AV.pureB) = true → refsL l = []
 | [], _ => rfl
 | x :: r, hp => by
  simp only [List.all_cons, Bool.and_eq_true] at hp
  have hx : refs x = [] := by cases x <;> first | rfl | cases hp.1
  simp only [refsL, hx, refsL_pure hp.2, List.append_nil]
theorem filter_split {α : Type} {l : List α} {p : α → Bool} {j : Nat} (h : l.findIdx? p = some j) : (l.take (j + 1)).filter (fun x => !p x) = l.take j := by
 obtain ⟨hk, h1, h2⟩ := List.findIdx?_eq_some_iff_getElem.1 h
 rw [List.take_succ_eq_append_getElem hk, List.filter_append]
 have e1 : (l.take j).filter (fun x => !p x) = l.take j := List.filter_eq_self.2 fun x hx => by
  obtain ⟨i, hi⟩ := List.getElem?_of_mem hx
  rw [List.getElem?_take] at hi
  split at hi
  ·rename_i hij
   have := h2 i hij
   have e : l[i]? = some l[i] := List.getElem?_eq_getElem (by omega)
   rw [e] at hi; injection hi with hi
   rw [← hi]; simpa using this
  ·cases hi
 rw [e1]
 simp [h1]
structure DelInv {α : Type} (p : α → Bool) (l : List α) (j : Nat) (L : List α) : Prop where
 le : j ≤ l.length
 len : L.length = l.length
 drop : L.drop j = l.drop j
 take : L.take ((l.take j).filter fun x => !p x).length = (l.take j).filter fun x => !p x
 lt : ((l.take j).filter fun x => !p x).length < j
theorem DelInv.start {α : Type} {p : α → Bool} {l : List α} {k : Nat} (h : l.findIdx? p = some k) : DelInv p l (k + 1) l := by
 have hk : k < l.length := (List.findIdx?_eq_some_iff_getElem.1 h).1
 have e := filter_split h
 have el : (l.take k).length = k := by simp; omega
 refine ⟨hk, rfl, rfl, ?_, ?_⟩
 ·rw [e, el]
 ·rw [e, el]; omega
theorem DelInv.get {α : Type} [Inhabited α] {p : α → Bool} {l L : List α} {j : Nat} (h : DelInv p l j L) (hj : j < l.length) : L.getD j default = l.getD j default := by
 have := h.drop
 rw [drop_getD hj, drop_getD (show j < L.length by rw [h.len]; exact hj)] at this
 injection this
theorem DelInv.skip {α : Type} [Inhabited α] {p : α → Bool} {l L : List α} {j : Nat} (h : DelInv p l j L) (hj : j < l.length) (hp : p (l.getD j default) = true) : DelInv p l (j + 1) L := by
 have e : (l.take (j + 1)).filter (fun x => !p x) = (l.take j).filter fun x => !p x := by
  rw [ZT hj, List.filter_append]; simp only [List.filter_cons, hp, List.filter_nil, Bool.not_true, Bool.false_eq_true, if_false, List.append_nil]
 refine ⟨hj, h.len, ?_, ?_, ?_⟩
 ·rw [← List.drop_drop, ← List.drop_drop, h.drop]
 ·rw [e]; exact h.take
 ·rw [e]; have := h.lt; omega
theorem DelInv.keep {α : Type} [Inhabited α] {p : α → Bool} {l L : List α} {j : Nat} (h : DelInv p l j L) (hj : j < l.length) (hp : p (l.getD j default) = false) :
  DelInv p l (j + 1) (L.set ((l.take j).filter fun x => !p x).length (l.getD j default)) ∧ ((l.take (j + 1)).filter fun x => !p x).length = ((l.take j).filter fun x => !p x).length + 1 := by
 have e : (l.take (j + 1)).filter (fun x => !p x) = (l.take j).filter (fun x => !p x) ++ [l.getD j default] := by
  rw [ZT hj, List.filter_append]; simp only [List.filter_cons, hp, List.filter_nil, Bool.not_false, if_true]
 have hlt := h.lt
 have hlen := h.len
 have htk := h.take
 generalize hd : (l.take j).filter (fun x => !p x) = d at *
 refine ⟨⟨hj, by simp [hlen], ?_, ?_, ?_⟩, by rw [e]; simp⟩
 ·have : (L.set d.length (l.getD j default)).drop (j + 1) = L.drop (j + 1) := by
   rw [List.drop_set]; rw [if_pos (by omega)]
  rw [this, ← List.drop_drop, ← List.drop_drop, h.drop]
 ·rw [e]
  simp only [List.length_append, List.length_cons, List.length_nil, Nat.zero_add]
  rw [List.take_succ_eq_append_getElem (by simp; omega), List.take_set_of_le (Nat.le_refl _), htk]
  simp
 ·rw [e]; simp; omega
theorem DelInv.fin {α : Type} {p : α → Bool} {l L : List α} (h : DelInv p l l.length L) : L.take (l.filter fun x => !p x).length = l.filter fun x => !p x := by
 have := h.take
 rwa [List.take_length] at this
theorem set_map {α : Type} (f : α → List AV) (l : List α) (i : Nat) (x : α) : (l.map f).set i (f x) = (l.set i x).map f := by rw [List.map_set]
theorem clear_rows {α : Type} (f : α → List AV) {L : List α} {d : List α} (z : List AV) (h : L.take d.length = d) (hd : d.length ≤ L.length) :
  overRows (L.map f) d.length (List.replicate (L.length - d.length) z) = d.map f ++ List.replicate (L.length - d.length) z := by
 unfold overRows
 rw [← List.map_take, h, List.drop_eq_nil_of_le (by simp; omega), List.append_nil]
@[go_sem, simp] theorem refsB_append (e s : Nat) (a b : List (List AV)) : Eng.refsB (.cells e s (a ++ b)) = Eng.refsB (.cells e s a) ++ Eng.refsB (.cells e s b) := by
 simp only [Eng.refsB, List.flatMap_append]
@[go_sem, simp] theorem refsB_rep (e s n : Nat) (z : List AV) (h : refsL z = []) : Eng.refsB (.cells e s (List.replicate n z)) = [] := by
 simp only [Eng.refsB]
 induction n with
 | zero => rfl
 | succ n ih => simp only [List.replicate_succ, List.flatMap_cons, h, ih, List.append_nil]
attribute [go_sem] List.map_append List.map_replicate
theorem take_app {α : Type} {a b : List α} {n : Nat} (h : n = a.length) : (a ++ b).take n = a := by subst h; simp
theorem rep_pure (n : Nat) {z : List AV} (h : (z.all AV.pureB) = true) : ((List.replicate n z).all fun row => row.all AV.pureB) = true := by
 rw [List.all_eq_true]
 intro row hr
 rw [(List.mem_replicate.1 hr).2]
 exact h
theorem node_indexFunc (l : List Node) (hlen : l.length ≤ 100000000) {f : FuncId} {caps : List AV} {p : Node → Bool} (hcal : Callable Tryz.prog f) (hpure : (caps.all AV.pureB) = true)
  (hf : ∀ x, x ∈ l → FnOK Tryz.prog f (.agg (ZN x) :: caps) [] (fun r _ => r = .bool (p x))) :
  FnOK Tryz.prog 132 [.sl (l.map ZN), .fn f caps] [] (fun r _ => r = .int .i64 (idxI (l.findIdx? p))) := by
 have hcaps := refsL_pure hpure
 refine ZF tK (Tryz.func132) rfl (fun C => ?_)
 simp only [Tryz.ntmps132, Tryz.results132, go_sem]
 refine wG tK ?_
 refine ZL (fun i : Nat => i ≤ l.length ∧ ∀ x, x ∈ l.take i → p x = false) (fun i => l.length - i) (fun i => [(8, .int .i64 i), (5, .any), (9, .any), (10, .any), (11, .any), (12, .any), (13, .any), (14, .any), (15, .any), (16, .any), (17, .any), (18, .any)]) (fun _ => []) 0 ⟨by omega, by simp⟩ ?_ fun i hi => ?_
 ·simp only [go_sem]
  exact ZU (by simp [go_sem]) (by simp [go_sem]) (by simp [go_sem, hcaps])
 obtain ⟨hi, hno⟩ := hi
 simp only [go_sem]
 refine wG tK ?_
 refine wD (fun h => ?_) (fun h => ?_)
 ·have hlt : i < l.length := by simp at h; omega
  have hn := hf _ (YG hlt)
  have hg : (l.map ZN).getD i [] = ZN (l.getD i default) := Fam.getD hlt
  have htk := ZT hlt
  have hgi : l[i]? = some (l.getD i default) := by rw [List.getD_eq_getElem?_getD, List.getElem?_eq_getElem hlt]; rfl
  generalize l.getD i default = n at hn hg htk hgi
  refine wGq tK ?_ ?_ (by simp only [go_sem, hg, ZN]; try exact rfl)
  ·simp [hlt, ZN]
  refine cw_call rfl rfl (by simp only [go_sem]; try exact rfl) (by simp [go_sem]) hcal (by simp [go_sem, hcaps]) (hn) (by simp [go_sem]) (by simp only [go_sem]; exact rfl) ?_
  refine wG tK ?_
  refine wD (fun h => ?_) (fun h => ?_)
  ·refine wG tK ?_
   refine wT ?_
   rw [findIdx_at hgi hno h]; rfl
  ·have hw : IntKind.i64.wrap ((i : Int) + 1) = (i : Int) + 1 := wrap_small (by omega) (by omega)
   refine wG tK ?_ (by simp only [go_sem, hw]; try exact rfl) (by simp [go_sem, hw])
   refine ZB ⟨i + 1, ⟨by omega, ?_⟩, by omega, ZU ?_ ?_ ?_⟩
   ·rw [htk]
    intro x hx
    rcases List.mem_append.1 hx with hx | hx
    ·exact hno x hx
    ·rw [List.mem_singleton.1 hx]; exact h
   ·simp [go_sem]
   ·simp [go_sem]
   ·simp [go_sem, hcaps]
 ·have e : i = l.length := by simp at h; omega
  refine wG tK ?_
  refine wT ?_
  rw [e, List.take_length] at hno
  rw [List.findIdx?_eq_none_iff.2 hno]; rfl
theorem node_deleteFunc (l : List Node) (hlen : l.length ≤ 100000000) (id : Nat) {f : FuncId} {caps : List AV} {p : Node → Bool} (hcal : Callable Tryz.prog f) (hpure : (caps.all AV.pureB) = true) (hid : id ≠ 7)
  (hf : ∀ x, x ∈ l → FnOK Tryz.prog f (.agg (ZN x) :: caps) [] (fun r _ => r = .bool (p x))) :
  FnOK Tryz.prog 118 [.osl id 5 0 l.length, .fn f caps] [(id, .cells 60 5 (l.map ZN))] (fun r H => r = .osl id 5 0 (l.filter fun x => !p x).length ∧
   ∀ i b, Yk [(id, .cells 60 5 ((l.filter fun x => !p x).map ZN ++ List.replicate (l.length - (l.filter fun x => !p x).length) [.int .i64 0, .bool false, .nils, .nils, .int .i64 0]))] i = some b → Yk H i = some b) := by
 have hcaps := refsL_pure hpure
 obtain ⟨q, hv, hq⟩ := viewL_pure hpure
 refine ZF tK (Tryz.func118) rfl (fun C => ?_)
 simp only [Tryz.ntmps118, Tryz.results118, go_sem]
 refine wG tK ?_
 refine cw_view rfl rfl (by simp only [go_sem]; try exact rfl) (by simp [go_sem]) (by simp only [go_sem, hv, hq]; exact rfl) (by simp [go_sem, hv, hq]) ⟨_, Tryz.func132, by kernel_rfl, rfl⟩ (node_indexFunc l hlen hcal hpure hf) (by simp [go_sem]) (by simp only [go_sem]; exact rfl) ?_
 refine wG tK ?_
 refine wD (fun h => ?_) (fun h => ?_)
 ·refine wG tK ?_
  refine wT ?_
  have hn : l.findIdx? p = none := by
   cases e : l.findIdx? p with
   | none => rfl
   | some k => rw [e] at h; simp [idxI] at h
  have hfl : l.filter (fun x => !p x) = l := List.filter_eq_self.2 fun x hx => by
   simp [List.findIdx?_eq_none_iff.1 hn x hx]
  rw [hfl]
  simp [Yk]
 obtain ⟨k, hk⟩ : ∃ k, l.findIdx? p = some k := by
  cases e : l.findIdx? p with
  | none => rw [e] at h; simp [idxI] at h
  | some k => exact ⟨k, rfl⟩
 have hkl : k < l.length := (List.findIdx?_eq_some_iff_getElem.1 hk).1
 have hsp := filter_split hk
 rw [hk]
 have hw : IntKind.i64.wrap ((k : Int) + 1) = ((k + 1 : Nat) : Int) := by rw [Eng.wrap_small (by omega) (by omega)]; rfl
 simp only [idxI]
 refine wG tK ?_ (by simp only [go_sem, hw]; try exact rfl) (by simp [go_sem, hw])
 refine ZL (fun s : Nat × List Node => DelInv p l s.1 s.2) (fun s => l.length - s.1) (fun s => [(5, .int .i64 (((l.take s.1).filter fun x => !p x).length : Nat)), (6, .int .i64 (s.1 : Nat)), (7, .any), (16, .any), (17, .any), (18, .any), (19, .any), (20, .any), (21, .any), (22, .any), (23, .any), (24, .any), (25, .any), (26, .any), (27, .any), (28, .any), (29, .any), (30, .any), (31, .any), (32, .any), (33, .any), (34, .any), (35, .any)]) (fun s => [(id, .cells 60 5 (s.2.map ZN))]) (k + 1, l) (DelInv.start hk) ?_ fun s hs => ?_
 ·have el : ((l.take (k + 1)).filter fun x => !p x).length = k := by rw [hsp]; simp; omega
  simp only [go_sem, el]
  exact ZU (by simp [go_sem]) (by simp [go_sem]) (by simp [go_sem, hcaps])
 obtain ⟨j, L⟩ := s
 have hjl := hs.le
 have hL := hs.len
 have hlt := hs.lt
 simp only at hs hjl hL hlt
 simp only [go_sem]
 refine wG tK ?_
 refine wD (fun h => ?_) (fun h => ?_)
 ·have hj : j < l.length := by simp at h; omega
  have hn := hf _ (YG hj)
  have hg : (L.map ZN).getD j [] = ZN (l.getD j default) := by rw [Fam.getD (by omega), hs.get hj]
  have hkeep := hs.keep hj
  have hskip := hs.skip hj
  have htk := ZT hj
  generalize l.getD j default = n at hn hg hkeep hskip htk
  refine wGq tK ?_ ?_ (by simp only [go_sem, hg, ZN, hid, Ne.symm hid]; try exact rfl)
  ·simp [ZN]; omega
  refine cw_call rfl rfl (by simp only [go_sem]; try exact rfl) (by simp [go_sem]) hcal (by simp [go_sem, hcaps]) (hn) (by simp [go_sem]) (by simp only [go_sem]; exact rfl) ?_
  generalize hm : ((l.take j).filter fun x => !p x).length = m at hkeep hlt
  have hw1 : IntKind.i64.wrap ((j : Int) + 1) = ((j + 1 : Nat) : Int) := by rw [Eng.wrap_small (by omega) (by omega)]; rfl
  have hw2 : IntKind.i64.wrap ((m : Int) + 1) = ((m + 1 : Nat) : Int) := by rw [Eng.wrap_small (by omega) (by omega)]; rfl
  refine wG tK ?_ (by simp only [go_sem, hm]; try exact rfl) (by simp [go_sem, hm])
  refine wD (fun h => ?_) (fun h => ?_)
  ·have hp : p n = false := by simpa using h
   obtain ⟨hk1, hk2⟩ := hkeep hp
   have Zh := set_map ZN L m n
   simp only [ZN] at Zh
   have hgl : (L.map ZN).getD m [] = ZN (L.getD m default) := Fam.getD (by omega)
   simp only [ZN] at hgl
   refine wGq tK ?_ ?_ (by simp only [go_sem, hw1, hw2, hm, hid, Ne.symm hid, hgl, Zh]; try exact rfl)
   ·simp [hid, Ne.symm hid]; omega
   refine ZB ⟨(j + 1, L.set m n), hk1, by simp only; omega, ZU ?_ ?_ ?_⟩
   ·simp [go_sem, hk2]
   ·simp [go_sem, hid, Ne.symm hid, Zh]
   ·simp [go_sem, hcaps, -List.map_set]
  ·have hp : p n = true := by simpa using h
   refine wG tK ?_ (by simp only [go_sem, hw1, hid, Ne.symm hid]; try exact rfl) (by simp [go_sem, hw1, hid, Ne.symm hid])
   have hsame : ((l.take (j + 1)).filter fun x => !p x).length = m := by
    rw [← hm, htk, List.filter_append]
    simp only [List.filter_cons, hp, Bool.not_true, Bool.false_eq_true, if_false, List.filter_nil, List.append_nil]
   refine ZB ⟨(j + 1, L), hskip hp, by simp only; omega, ZU ?_ ?_ ?_⟩
   ·simp [go_sem, hsame, hm]
   ·simp [go_sem, hid, Ne.symm hid]
   ·simp [go_sem, hcaps]
 have e : j = l.length := by simp at h; omega
 subst e
 have hfin := hs.fin
 rw [List.take_length]
 generalize hd : (l.filter fun x => !p x) = d at *
 have hdl : d.length ≤ l.length := by rw [← hd]; exact List.length_filter_le _ _
 have hcl := clear_rows ZN (d := d) (L := L) [.int .i64 0, .bool false, .nils, .nils, .int .i64 0] hfin (by omega)
 rw [hL] at hcl
 refine wGq tK ?_ ?_ (by simp only [go_sem, hid, Ne.symm hid, hcl]; try exact rfl)
 ·simp only [not_false_eq_true, true_and]
  omega
 refine wT ?_
 simp [Yk]
theorem entry_indexFunc (l : List Entry) (hlen : l.length ≤ 100000000) {f : FuncId} {caps : List AV} {p : Entry → Bool} (hcal : Callable Tryz.prog f) (hpure : (caps.all AV.pureB) = true)
  (hf : ∀ x, x ∈ l → FnOK Tryz.prog f (.agg (ZE x) :: caps) [] (fun r _ => r = .bool (p x))) :
  FnOK Tryz.prog 131 [.sl (l.map ZE), .fn f caps] [] (fun r _ => r = .int .i64 (idxI (l.findIdx? p))) := by
 have hcaps := refsL_pure hpure
 refine ZF tK (Tryz.func131) rfl (fun C => ?_)
 simp only [Tryz.ntmps131, Tryz.results131, go_sem]
 refine wG tK ?_
 refine ZL (fun i : Nat => i ≤ l.length ∧ ∀ x, x ∈ l.take i → p x = false) (fun i => l.length - i) (fun i => [(8, .int .i64 i), (5, .any), (9, .any), (10, .any), (11, .any), (12, .any), (13, .any), (14, .any), (15, .any), (16, .any), (17, .any), (18, .any)]) (fun _ => []) 0 ⟨by omega, by simp⟩ ?_ fun i hi => ?_
 ·simp only [go_sem]
  exact ZU (by simp [go_sem]) (by simp [go_sem]) (by simp [go_sem, hcaps])
 obtain ⟨hi, hno⟩ := hi
 simp only [go_sem]
 refine wG tK ?_
 refine wD (fun h => ?_) (fun h => ?_)
 ·have hlt : i < l.length := by simp at h; omega
  have hn := hf _ (YG hlt)
  have hg : (l.map ZE).getD i [] = ZE (l.getD i default) := Fam.getD hlt
  have htk := ZT hlt
  have hgi : l[i]? = some (l.getD i default) := by rw [List.getD_eq_getElem?_getD, List.getElem?_eq_getElem hlt]; rfl
  generalize l.getD i default = n at hn hg htk hgi
  refine wGq tK ?_ ?_ (by simp only [go_sem, hg, ZE]; try exact rfl)
  ·simp [hlt, ZE]
  refine cw_call rfl rfl (by simp only [go_sem]; try exact rfl) (by simp [go_sem]) hcal (by simp [go_sem, hcaps]) (hn) (by simp [go_sem]) (by simp only [go_sem]; exact rfl) ?_
  refine wG tK ?_
  refine wD (fun h => ?_) (fun h => ?_)
  ·refine wG tK ?_
   refine wT ?_
   rw [findIdx_at hgi hno h]; rfl
  ·have hw : IntKind.i64.wrap ((i : Int) + 1) = (i : Int) + 1 := wrap_small (by omega) (by omega)
   refine wG tK ?_ (by simp only [go_sem, hw]; try exact rfl) (by simp [go_sem, hw])
   refine ZB ⟨i + 1, ⟨by omega, ?_⟩, by omega, ZU ?_ ?_ ?_⟩
   ·rw [htk]
    intro x hx
    rcases List.mem_append.1 hx with hx | hx
    ·exact hno x hx
    ·rw [List.mem_singleton.1 hx]; exact h
   ·simp [go_sem]
   ·simp [go_sem]
   ·simp [go_sem, hcaps]
 ·have e : i = l.length := by simp at h; omega
  refine wG tK ?_
  refine wT ?_
  rw [e, List.take_length] at hno
  rw [List.findIdx?_eq_none_iff.2 hno]; rfl
theorem entry_deleteFunc (l : List Entry) (hlen : l.length ≤ 100000000) (id : Nat) {f : FuncId} {caps : List AV} {p : Entry → Bool} (hcal : Callable Tryz.prog f) (hpure : (caps.all AV.pureB) = true) (hid : id ≠ 7)
  (hf : ∀ x, x ∈ l → FnOK Tryz.prog f (.agg (ZE x) :: caps) [] (fun r _ => r = .bool (p x))) :
  FnOK Tryz.prog 116 [.osl id 2 0 l.length, .fn f caps] [(id, .cells 135 2 (l.map ZE))] (fun r H => r = .osl id 2 0 (l.filter fun x => !p x).length ∧
   ∀ i b, Yk [(id, .cells 135 2 ((l.filter fun x => !p x).map ZE ++ List.replicate (l.length - (l.filter fun x => !p x).length) [.str [], .int .i64 0]))] i = some b → Yk H i = some b) := by
 have hcaps := refsL_pure hpure
 obtain ⟨q, hv, hq⟩ := viewL_pure hpure
 refine ZF tK (Tryz.func116) rfl (fun C => ?_)
 simp only [Tryz.ntmps116, Tryz.results116, go_sem]
 refine wG tK ?_
 refine cw_view rfl rfl (by simp only [go_sem]; try exact rfl) (by simp [go_sem]) (by simp only [go_sem, hv, hq]; exact rfl) (by simp [go_sem, hv, hq]) ⟨_, Tryz.func131, by kernel_rfl, rfl⟩ (entry_indexFunc l hlen hcal hpure hf) (by simp [go_sem]) (by simp only [go_sem]; exact rfl) ?_
 refine wG tK ?_
 refine wD (fun h => ?_) (fun h => ?_)
 ·refine wG tK ?_
  refine wT ?_
  have hn : l.findIdx? p = none := by
   cases e : l.findIdx? p with
   | none => rfl
   | some k => rw [e] at h; simp [idxI] at h
  have hfl : l.filter (fun x => !p x) = l := List.filter_eq_self.2 fun x hx => by
   simp [List.findIdx?_eq_none_iff.1 hn x hx]
  rw [hfl]
  simp [Yk]
 obtain ⟨k, hk⟩ : ∃ k, l.findIdx? p = some k := by
  cases e : l.findIdx? p with
  | none => rw [e] at h; simp [idxI] at h
  | some k => exact ⟨k, rfl⟩
 have hkl : k < l.length := (List.findIdx?_eq_some_iff_getElem.1 hk).1
 have hsp := filter_split hk
 rw [hk]
 have hw : IntKind.i64.wrap ((k : Int) + 1) = ((k + 1 : Nat) : Int) := by rw [Eng.wrap_small (by omega) (by omega)]; rfl
 simp only [idxI]
 refine wG tK ?_ (by simp only [go_sem, hw]; try exact rfl) (by simp [go_sem, hw])
 refine ZL (fun s : Nat × List Entry => DelInv p l s.1 s.2) (fun s => l.length - s.1) (fun s => [(5, .int .i64 (((l.take s.1).filter fun x => !p x).length : Nat)), (6, .int .i64 (s.1 : Nat)), (7, .any), (16, .any), (17, .any), (18, .any), (19, .any), (20, .any), (21, .any), (22, .any), (23, .any), (24, .any), (25, .any), (26, .any), (27, .any), (28, .any), (29, .any), (30, .any), (31, .any), (32, .any), (33, .any), (34, .any), (35, .any)]) (fun s => [(id, .cells 135 2 (s.2.map ZE))]) (k + 1, l) (DelInv.start hk) ?_ fun s hs => ?_
 ·have el : ((l.take (k + 1)).filter fun x => !p x).length = k := by rw [hsp]; simp; omega
  simp only [go_sem, el]
  exact ZU (by simp [go_sem]) (by simp [go_sem]) (by simp [go_sem, hcaps])
 obtain ⟨j, L⟩ := s
 have hjl := hs.le
 have hL := hs.len
 have hlt := hs.lt
 simp only at hs hjl hL hlt
 simp only [go_sem]
 refine wG tK ?_
 refine wD (fun h => ?_) (fun h => ?_)
 ·have hj : j < l.length := by simp at h; omega
  have hn := hf _ (YG hj)
  have hg : (L.map ZE).getD j [] = ZE (l.getD j default) := by rw [Fam.getD (by omega), hs.get hj]
  have hkeep := hs.keep hj
  have hskip := hs.skip hj
  have htk := ZT hj
  generalize l.getD j default = n at hn hg hkeep hskip htk
  refine wGq tK ?_ ?_ (by simp only [go_sem, hg, ZE, hid, Ne.symm hid]; try exact rfl)
  ·simp [ZE]; omega
  refine cw_call rfl rfl (by simp only [go_sem]; try exact rfl) (by simp [go_sem]) hcal (by simp [go_sem, hcaps]) (hn) (by simp [go_sem]) (by simp only [go_sem]; exact rfl) ?_
  generalize hm : ((l.take j).filter fun x => !p x).length = m at hkeep hlt
  have hw1 : IntKind.i64.wrap ((j : Int) + 1) = ((j + 1 : Nat) : Int) := by rw [Eng.wrap_small (by omega) (by omega)]; rfl
  have hw2 : IntKind.i64.wrap ((m : Int) + 1) = ((m + 1 : Nat) : Int) := by rw [Eng.wrap_small (by omega) (by omega)]; rfl
  refine wG tK ?_ (by simp only [go_sem, hm]; try exact rfl) (by simp [go_sem, hm])
  refine wD (fun h => ?_) (fun h => ?_)
  ·have hp : p n = false := by simpa using h
   obtain ⟨hk1, hk2⟩ := hkeep hp
   have Zh := set_map ZE L m n
   simp only [ZE] at Zh
   have hgl : (L.map ZE).getD m [] = ZE (L.getD m default) := Fam.getD (by omega)
   simp only [ZE] at hgl
   refine wGq tK ?_ ?_ (by simp only [go_sem, hw1, hw2, hm, hid, Ne.symm hid, hgl, Zh]; try exact rfl)
   ·simp [hid, Ne.symm hid]; omega
   refine ZB ⟨(j + 1, L.set m n), hk1, by simp only; omega, ZU ?_ ?_ ?_⟩
   ·simp [go_sem, hk2]
   ·simp [go_sem, hid, Ne.symm hid, Zh]
   ·simp [go_sem, hcaps, -List.map_set]
  ·have hp : p n = true := by simpa using h
   refine wG tK ?_ (by simp only [go_sem, hw1, hid, Ne.symm hid]; try exact rfl) (by simp [go_sem, hw1, hid, Ne.symm hid])
   have hsame : ((l.take (j + 1)).filter fun x => !p x).length = m := by
    rw [← hm, htk, List.filter_append]
    simp only [List.filter_cons, hp, Bool.not_true, Bool.false_eq_true, if_false, List.filter_nil, List.append_nil]
   refine ZB ⟨(j + 1, L), hskip hp, by simp only; omega, ZU ?_ ?_ ?_⟩
   ·simp [go_sem, hsame, hm]
   ·simp [go_sem, hid, Ne.symm hid]
   ·simp [go_sem, hcaps]
 have e : j = l.length := by simp at h; omega
 subst e
 have hfin := hs.fin
 rw [List.take_length]
 generalize hd : (l.filter fun x => !p x) = d at *
 have hdl : d.length ≤ l.length := by rw [← hd]; exact List.length_filter_le _ _
 have hcl := clear_rows ZE (d := d) (L := L) [.str [], .int .i64 0] hfin (by omega)
 rw [hL] at hcl
 refine wGq tK ?_ ?_ (by simp only [go_sem, hid, Ne.symm hid, hcl]; try exact rfl)
 ·simp only [not_false_eq_true, true_and]
  omega
 refine wT ?_
 simp [Yk]
theorem entry_containsFunc (l : List Entry) (hlen : l.length ≤ 100000000) {f : FuncId} {caps : List AV} {p : Entry → Bool} (hcal : Callable Tryz.prog f) (hpure : (caps.all AV.pureB) = true)
  (hf : ∀ x, x ∈ l → FnOK Tryz.prog f (.agg (ZE x) :: caps) [] (fun r _ => r = .bool (p x))) :
  FnOK Tryz.prog 120 [.sl (l.map ZE), .fn f caps] [] (fun r _ => r = .bool (l.any p)) := by
 have hcaps := refsL_pure hpure
 refine ZF tK (Tryz.func120) rfl (fun C => ?_)
 simp only [Tryz.ntmps120, Tryz.results120, go_sem]
 refine wG tK ?_
 refine cw_call rfl rfl (by simp only [go_sem]; try exact rfl) (by simp [go_sem]) ⟨_, Tryz.func131, by kernel_rfl, rfl⟩ (by simp [go_sem, hcaps]) (entry_indexFunc l hlen hcal hpure hf) (by simp [go_sem]) (by simp only [go_sem]; exact rfl) ?_
 refine wG tK ?_
 refine wT ?_
 rw [idxI_any]
end La
