/- Texts of this claim, part 22: RList, CKeep, EngAP, RU, Cut. No condition. -/
import Derived.Test.YtfiiingppbkpkaaGreatXF18
import Derived.Test.YtfiiingppbkpkaaGreatXF21
import Derived.Test.YtfiiingppbkpkaaGreatXF11
import Derived.Test.YtfiiingppbkpkaaGreatXF14
import Derived.Test.YtfiiingppbkpkaaGreatXF15
import Derived.Test.YtfiiingppbkpkaaGreatXF17
import Derived.Test.YtfiiingppbkpkaaGreatXF19
import Derived.Test.YtfiiingppbkpkaaGreatXF16
import Derived.Test.YtfiiingppbkpkaaGreatXF13
set_option maxRecDepth 10000
set_option maxHeartbeats 4000000
set_option linter.unusedSimpArgs false
set_option linter.unusedVariables false
namespace La
open Go Go.Eng Go.Proofs
theorem mput_at {α : Type} {n : Int} {v : α} [Inhabited α] : ∀ (S : List (Int × α)) (k : Nat), k ≤ S.length → (∀ j, j < k → (S.getD j default).1 < n) → (∀ h : k < S.length, n < (S.getD k default).1) → mput S n v = S.take k ++ (n, v) :: S.drop k
 | [], k, hk, _, _ => by
  have : k = 0 := by simpa using hk
  subst this
  rfl
 | p :: S, 0, _, _, h => by
  have := h (by simp)
  simp only [List.getD_cons_zero] at this
  simp only [mput, List.take_zero, List.drop_zero, List.nil_append]
  rw [if_neg (by omega), if_pos this]
 | p :: S, k + 1, hk, h1, h2 => by
  have h0 := h1 0 (by omega)
  simp only [List.getD_cons_zero] at h0
  have ih := mput_at (n := n) (v := v) S k (by simpa using hk) (fun j hj => by have := h1 (j + 1) (by omega); simpa using this) (fun h => by have := h2 (by simpa using h); simpa using this)
  simp only [mput, List.take_succ_cons, List.drop_succ_cons, List.cons_append]
  rw [if_neg (by omega), if_neg (by omega), ih]
def rowP (p : Int × Node) : List AV := ZN p.2
theorem fam_rowP : Fam rowP 5 := ⟨fun _ => rfl, fun _ => rfl, fun _ => rfl, fun _ => rfl⟩
@[go_sem, simp] theorem rowP_rowsOf (l : List _) : Eng.rowsOf 5 (l.map rowP) := fam_rowP.rowsOf l
@[go_sem, simp] theorem rowP_leaf (l : List _) : ((l.map rowP).all fun row => row.all AV.leaf) = true := fam_rowP.allLeaf l
@[go_sem, simp] theorem rowP_pure (l : List _) : ((l.map rowP).all fun row => row.all AV.pureB) = true := fam_rowP.allPure l
@[go_sem, simp] theorem rowP_noRef (id : Nat) (l : List _) : ((l.map rowP).all fun row => row.all fun x => !(refs x).contains id) = true := fam_rowP.noRef id l
@[go_sem, simp] theorem rowP_refsB (e s : Nat) (l : List _) : refsB (.cells e s (l.map rowP)) = [] := fam_rowP.refsB e s l
@[go_sem, simp] theorem rowP_frzL (id s : Nat) (rows : List (List AV)) (l : List _) : (l.map rowP).map (frzL id s rows) = l.map rowP := Fam.frzL (fun _ _ _ _ => rfl) id s rows l
theorem row5 (nd : Node) : rowsOf 5 [[AV.int .i64 nd.fid, .bool nd.dir, .sl (nd.data.map ZY), .sl (nd.entries.map ZE), .int .i64 nd.version]] := by
 intro row h
 rw [List.mem_singleton] at h
 subst h
 rfl
theorem list_raw (m : List (Int × Node)) (hr : RiseM m) (hkf : ∀ p, p ∈ m → p.2.fid = p.1) (hlen : m.length ≤ 50000000) : FnOK Tryz.prog 37 [.rm (mN m)] [] (fun r _ => r = .sl (m.map rowP)) := by
 refine ZF tK (Tryz.func37) rfl (fun C => ?_)
 simp only [Tryz.ntmps37, Tryz.results37, go_sem]
 refine wG tK ?_
 refine cw_range tK rfl rfl rfl (by simp only [go_sem]; try exact rfl) (by simp only [go_sem]; try exact rfl) (by simp only [go_sem]; try exact rfl) ?_
 refine wG tK ?_
 refine cw_le (le_empty 99 60 5 (by simp only [go_sem]; try exact rfl)) ?_
 simp only [go_sem]
 refine ZL (fun _ : List Int => True) (fun seen => leftM m seen) (fun seen => [(3, .osl 99 5 0 (seenM m seen).length), (5, .any), (6, .any), (9, .any), (10, .any), (11, .any), (12, .any), (13, .any), (14, .any), (15, .any), (16, .any), (17, .any), (18, .any), (19, .any), (20, .any), (21, .any), (22, .any), (23, .any), (24, .any), (25, .any), (26, .any), (27, .any), (28, .any), (29, .any), (30, .any), (31, .any), (32, .any), (33, .any), (34, .any), (35, .any), (36, .any), (37, .any), (38, .any), (39, .any), (40, .any)]) (fun seen => [(99, .cells 60 5 ((seenM m seen).map rowP)), (8, .iter (mN m) seen)]) [] trivial ?_ fun seen _ => ?_
 ·simp only [go_sem]
  exact ZU (by simp [go_sem, seenM_nil]) (by simp [go_sem, seenM_nil, mN_nil]) (by simp [go_sem])
 simp only [go_sem]
 refine wR ?_
 refine cw_next rfl rfl (by simp only [go_sem]; try exact rfl) (by simp only [go_sem]; try exact rfl) (fun hall => ?_) (fun n v hnv hns => ?_)
 ·have hsa : seenM m seen = m := seenM_all fun p hp => hall (p.1, .agg (ZN p.2)) (mN_has hp)
  rw [hsa]
  simp only [go_sem]
  refine wG tK ?_
  refine wDF (hb := (rfl)) (hk := ?_)
  refine wG tK ?_
  refine ZZ 99 rfl (rowP_pure _) ?_
  simp only [go_sem]
  refine wT ?_
  simp
 ·obtain ⟨nd, rfl, hmem⟩ := mN_mem hnv
  have hpt := seenM_put hr hmem (seen := seen)
  have hlt := leftM_lt hmem hns
  have hfid : nd.fid = n := hkf _ hmem
  have hsub : ∀ p, p ∈ seenM m seen → p.2.fid = p.1 ∧ p.1 ≠ n := fun p hp => by
   have h1 := List.mem_filter.1 hp
   refine ⟨hkf p h1.1, fun e => hns ?_⟩
   have := h1.2
   rw [e] at this
   simpa using this
  have hsl : (seenM m seen).length ≤ m.length := List.length_filter_le _ _
  have hsr : RiseM (seenM m seen) := hr.filter _
  simp only [go_sem]
  refine wG tK ?_
  refine wDT (hb := (rfl)) (hk := ?_)
  refine wR ?_
  refine cw_entry rfl rfl (by simp only [go_sem]; try exact rfl) (by simp only [go_sem]; try exact rfl) (hnv) ?_
  simp only [go_sem]
  refine wGq tK ?_ ?_ (by simp only [go_sem, ZN]; try exact rfl)
  ·simp [ZN, AV.deepB, AV.pureB]
  clear hlt hnv
  have hlt := leftM_lt hmem hns
  generalize hS : seenM m seen = S at *
  refine ZL (fun k : Nat => k ≤ S.length ∧ ∀ j, j < k → (S.getD j default).1 < n) (fun k => S.length - k) (fun k => [(6, .int .i64 k), (13, .any), (14, .any), (15, .any), (16, .any), (17, .any), (18, .any), (19, .any), (20, .any), (21, .any), (22, .any), (23, .any), (24, .any), (25, .any), (26, .any), (27, .any), (28, .any)]) (fun _ => []) 0 ⟨by omega, by omega⟩ ?_ fun k hk => ?_
  ·simp only [go_sem]
   exact ZU (by simp [go_sem]) (by simp [go_sem]) (by simp [go_sem])
  obtain ⟨hk, hk2⟩ := hk
  simp only [go_sem]
  refine wG tK ?_
  refine ZW ZM ?_
  refine ZS rfl ?_
  by_cases hkl : k < S.length
  ·have hg : (S.map rowP).getD k [] = rowP (S.getD k default) := Fam.getD hkl
   have hw : IntKind.i64.wrap ((k : Int) + 1) = ((k + 1 : Nat) : Int) := by rw [Eng.wrap_small (by omega) (by omega)]; rfl
   have hmk := hsub _ (YG hkl)
   have hat : (∀ h : k < S.length, n < (S.getD k default).1) → mput S n nd = S.take k ++ (n, nd) :: S.drop k := mput_at S k hk hk2
   have hk3 : (S.getD k default).1 < n → ∀ j, j < k + 1 → (S.getD j default).1 < n := fun h0 j hj => by
    rcases Nat.lt_succ_iff_lt_or_eq.1 hj with h1 | rfl
    ·exact hk2 j h1
    ·exact h0
   generalize S.getD k default = q at hg hmk hat hk3
   refine sNq tK 14 ?_ ?_ (by simp only [go_sem]; exact rfl) (by simp only [go_sem]; exact rfl) (by simp only [go_sem, hg, rowP, ZN]; try exact rfl)
   ·simp [hg, rowP, ZN, hkl]
   refine sE ?_
   refine wKd ?_
   try simp only [go_sem, gA, gB, gC]
   refine wD (fun h => ?_) (fun h => ?_)
   ·have hqn : q.1 < n := by
     rw [← hmk.1, ← hfid]; simpa [hkl] using h
    refine wG tK ?_ (by simp only [go_sem, hw]; try exact rfl) (by simp [go_sem, hw])
    refine ZB ⟨k + 1, ⟨by omega, hk3 hqn⟩, by omega, ZU ?_ ?_ ?_⟩
    ·simp [go_sem]
    ·simp [go_sem]
    ·simp [go_sem]
   ·have hqn : ¬ q.1 < n := by
     rw [← hmk.1, ← hfid]; simpa [hkl] using h
    have hput := hat fun _ => by have := hmk.2; omega
    have hA1 : List.take k (S.map rowP) = (S.take k).map rowP := by rw [List.map_take]
    have hB1 : List.take (S.length - k) (List.drop k (S.map rowP)) = (S.drop k).map rowP := by rw [← List.map_drop, List.take_of_length_le (by simp)]
    have hlA : (S.take k).length = k := by rw [List.length_take]; omega
    have hlB : (S.drop k).length = S.length - k := List.length_drop
    generalize S.take k = A at hA1 hlA hput
    generalize S.drop k = B at hB1 hlB hput
    subst hlA
    have htk : List.take (A.length + 1) (A.map rowP ++ [[AV.int .i64 nd.fid, .bool nd.dir, .sl (nd.data.map ZY), .sl (nd.entries.map ZE), .int .i64 nd.version]]) = A.map rowP ++ [[AV.int .i64 nd.fid, .bool nd.dir, .sl (nd.data.map ZY), .sl (nd.entries.map ZE), .int .i64 nd.version]] := List.take_of_length_le (by simp)
    refine wG tK ?_
    refine ZW ZM ?_
    refine draw_earlyM 1 [0, 2, 3, 4, 5, 6, 7, 8, 9, 10, 11, 12] [0, 0, 1, 2, 3, 4, 5, 6, 7, 8, 9, 10, 11] rfl rfl rfl (fun _ _ _ h => h) (by kernel_rfl) (by kernel_rfl) (by simp [remOps, remOp, renE]; exact rfl) (by simp only [go_sem]; try exact rfl) ?_
    simp only [go_sem, gA, gB, gC]
    refine draw_earlyM 1 [0, 2, 3, 4, 5, 6, 7, 8, 9, 10, 11] [0, 0, 1, 2, 3, 4, 5, 6, 7, 8, 9, 10] rfl rfl rfl (fun _ _ _ h => h) (by kernel_rfl) (by kernel_rfl) (by simp [remOps, remOp, renE]; exact rfl) (by simp only [go_sem]; try exact rfl) ?_
    simp only [go_sem, gA, gB, gC]
    refine draw_earlyV 1 [0, 2, 3, 4, 5, 6, 7, 8, 9, 10] [0, 0, 1, 2, 3, 4, 5, 6, 7, 8, 9] rfl rfl (fun _ _ _ h => h) (by kernel_rfl) (by kernel_rfl) (by simp [remOps, remOp, renE]; exact rfl) (slice_any tK rfl rfl rfl (by decide) (by simp only [go_sem]; try exact rfl) (.inl ⟨rfl, rfl⟩) (.inr ⟨_, rfl, _, (by simp only [go_sem]; try exact rfl)⟩) (by simp [hk]) (by simp [hk])) ?_
    simp only [go_sem, gA, gB, gC]
    refine draw_earlyM 5 [0, 1, 2, 3, 4, 6, 7, 8, 9] [0, 1, 2, 3, 4, 0, 5, 6, 7, 8] rfl rfl rfl (fun _ _ _ h => h) (by kernel_rfl) (by kernel_rfl) (by simp [remOps, remOp, renE]; exact rfl) (by simp only [go_sem]; try exact rfl) ?_
    simp only [go_sem, gA, gB, gC]
    refine draw_earlyM 5 [0, 1, 2, 3, 4, 6, 7, 8] [0, 1, 2, 3, 4, 0, 5, 6, 7] rfl rfl rfl (fun _ _ _ h => h) (by kernel_rfl) (by kernel_rfl) (by simp [remOps, remOp, renE]; exact rfl) (by simp only [go_sem]; try exact rfl) ?_
    simp only [go_sem, gA, gB, gC]
    refine draw_earlyV 5 [0, 1, 2, 3, 4, 6, 7] [0, 1, 2, 3, 4, 0, 5, 6] rfl rfl (fun _ _ _ h => h) (by kernel_rfl) (by kernel_rfl) (by simp [remOps, remOp, renE]; exact rfl) (slice_any tK rfl rfl rfl (by decide) (by simp only [go_sem]; try exact rfl) (.inr ⟨_, rfl, _, (by simp only [go_sem]; try exact rfl)⟩) (.inl ⟨rfl, rfl⟩) (by simp [hk]) (by simp [hk])) ?_
    simp only [go_sem, gA, gB, gC]
    refine drawD (n := 7) (by kernel_rfl) rfl ?_
    refine drawD_two (i := 0) (j := 2) (by kernel_rfl) rfl rfl rfl rfl (YT tK rfl (by simp only [go_sem]; try exact rfl) (by simp [go_sem])) (YT tK rfl (by simp only [go_sem]; try exact rfl) (by simp [go_sem])) ?_ ?_
    ·refine drawD_two (i := 1) (j := 2) (by kernel_rfl) rfl rfl rfl rfl (YT tK rfl (by simp only [go_sem, hA1, hB1, htk, gD, gE, gF, gG, gA, gB, gC]; try exact rfl) ?_) (YT tK rfl (by simp only [go_sem, hA1, hB1, htk, gD, gE, gF, gG, gA, gB, gC]; try exact rfl) ?_) ?_ ?_
     ·skip
      try simp only [go_sem, hA1, hB1, htk, gD, gE, gF, gG, gA, gB, gC]
      simp
      omega
     ·skip
      first | trivial | simp [go_sem, hA1, hB1, htk, gD, gE, gF, gG, gA, gB, gC]
     ·try simp only [go_sem, hA1, hB1, htk, gD, gE, gF, gG, gA, gB, gC]
      refine YD (i := 2) (by kernel_rfl) rfl rfl (YT tK rfl (by simp only [go_sem]; try exact rfl) (by simp [go_sem])) ?_
      try simp only [go_sem, hA1, hB1, htk, gD, gE, gF, gG, gA, gB, gC]
      refine YD (i := 3) (by kernel_rfl) rfl rfl (YT tK rfl (by simp only [go_sem]; try exact rfl) (by simp [go_sem])) ?_
      try simp only [go_sem, hA1, hB1, htk, gD, gE, gF, gG, gA, gB, gC]
      refine YD (i := 4) (by kernel_rfl) rfl rfl (YT tK rfl (by simp only [go_sem, hA1, hB1, htk, gD, gE, gF, gG, gA, gB, gC]; try exact rfl) ?_) ?_
      ·simp [go_sem, row5, hA1, hB1, htk, gD, gE, gF, gG, gA, gB, gC]
       omega
      try simp only [go_sem, hA1, hB1, htk, gD, gE, gF, gG, gA, gB, gC]
      refine YD (i := 5) (by kernel_rfl) rfl rfl (YT tK rfl (by simp only [go_sem, hA1, hB1, htk, gD, gE, gF, gG, gA, gB, gC, hlB]; try exact rfl) ?_) ?_
      ·simp [go_sem, hA1, hB1, htk, gD, gE, gF, gG, gA, gB, gC, hlB]
       omega
      try simp only [go_sem, hA1, hB1, htk, gD, gE, gF, gG, gA, gB, gC]
      refine YD (i := 6) (by kernel_rfl) rfl rfl (YT tK rfl (by simp only [go_sem]; try exact rfl) (by simp [go_sem])) ?_
      refine drawD_end (by kernel_rfl) ?_
      simp only [go_sem, gA, gB, gC]
      refine cw_le (le_drop 99) ?_
      refine cw_le (le_mv 40 99) ?_
      refine wG tK ?_
      refine ZB ⟨n :: seen, hlt, ZU ?_ ?_ ?_⟩
      ·simp [go_sem, ← hpt, hput, hlB]
       omega
      ·simp [go_sem, ← hpt, hput, rowP, ZN, htk, hB1]
      ·simp [go_sem]
     ·try simp only [go_sem, hA1, hB1, htk, gD, gE, gF, gG, gA, gB, gC]
      refine drawD_two (i := 1) (j := 3) (by kernel_rfl) rfl rfl rfl rfl (YT tK rfl (by simp only [go_sem, hA1, hB1, htk, gD, gE, gF, gG, gA, gB, gC]; try exact rfl) ?_) (YT tK rfl (by simp only [go_sem, hA1, hB1, htk, gD, gE, gF, gG, gA, gB, gC]; try exact rfl) ?_) ?_ ?_
      ·skip
       try simp only [go_sem, hA1, hB1, htk, gD, gE, gF, gG, gA, gB, gC]
       simp
       omega
      ·skip
       first | trivial | simp [go_sem, hA1, hB1, htk, gD, gE, gF, gG, gA, gB, gC]
      ·try simp only [go_sem, hA1, hB1, htk, gD, gE, gF, gG, gA, gB, gC]
       refine YD (i := 3) (by kernel_rfl) rfl rfl (YT tK rfl (by simp only [go_sem]; try exact rfl) (by simp [go_sem])) ?_
       try simp only [go_sem, hA1, hB1, htk, gD, gE, gF, gG, gA, gB, gC]
       refine YD (i := 4) (by kernel_rfl) rfl rfl (YT tK rfl (by simp only [go_sem, hA1, hB1, htk, gD, gE, gF, gG, gA, gB, gC]; try exact rfl) ?_) ?_
       ·simp [go_sem, row5, hA1, hB1, htk, gD, gE, gF, gG, gA, gB, gC]
        omega
       try simp only [go_sem, hA1, hB1, htk, gD, gE, gF, gG, gA, gB, gC]
       refine YD (i := 5) (by kernel_rfl) rfl rfl (YT tK rfl (by simp only [go_sem, hA1, hB1, htk, gD, gE, gF, gG, gA, gB, gC, hlB]; try exact rfl) ?_) ?_
       ·simp [go_sem, hA1, hB1, htk, gD, gE, gF, gG, gA, gB, gC, hlB]
        omega
       try simp only [go_sem, hA1, hB1, htk, gD, gE, gF, gG, gA, gB, gC]
       refine YD (i := 6) (by kernel_rfl) rfl rfl (YT tK rfl (by simp only [go_sem]; try exact rfl) (by simp [go_sem])) ?_
       refine drawD_end (by kernel_rfl) ?_
       simp only [go_sem, gA, gB, gC]
       refine cw_le (le_drop 99) ?_
       refine cw_le (le_mv 40 99) ?_
       refine wG tK ?_
       refine ZB ⟨n :: seen, hlt, ZU ?_ ?_ ?_⟩
       ·simp [go_sem, ← hpt, hput, hlB]
        omega
       ·simp [go_sem, ← hpt, hput, rowP, ZN, htk, hB1]
       ·simp [go_sem]
      ·try simp only [go_sem, hA1, hB1, htk, gD, gE, gF, gG, gA, gB, gC]
       refine YD (i := 1) (by kernel_rfl) rfl rfl (YT tK rfl (by simp only [go_sem, hA1, hB1, htk, gD, gE, gF, gG, gA, gB, gC]; try exact rfl) ?_) ?_
       ·skip
        try simp only [go_sem, hA1, hB1, htk, gD, gE, gF, gG, gA, gB, gC]
        simp
        omega
       try simp only [go_sem, hA1, hB1, htk, gD, gE, gF, gG, gA, gB, gC]
       refine YD (i := 4) (by kernel_rfl) rfl rfl (YT tK rfl (by simp only [go_sem, hA1, hB1, htk, gD, gE, gF, gG, gA, gB, gC]; try exact rfl) ?_) ?_
       ·simp [go_sem, row5, hA1, hB1, htk, gD, gE, gF, gG, gA, gB, gC]
        omega
       try simp only [go_sem, hA1, hB1, htk, gD, gE, gF, gG, gA, gB, gC]
       refine YD (i := 5) (by kernel_rfl) rfl rfl (YT tK rfl (by simp only [go_sem, hA1, hB1, htk, gD, gE, gF, gG, gA, gB, gC, hlB]; try exact rfl) ?_) ?_
       ·simp [go_sem, hA1, hB1, htk, gD, gE, gF, gG, gA, gB, gC, hlB]
        omega
       try simp only [go_sem, hA1, hB1, htk, gD, gE, gF, gG, gA, gB, gC]
       refine YD (i := 6) (by kernel_rfl) rfl rfl (YT tK rfl (by simp only [go_sem]; try exact rfl) (by simp [go_sem])) ?_
       refine drawD_end (by kernel_rfl) ?_
       simp only [go_sem, gA, gB, gC]
       refine cw_le (le_drop 99) ?_
       refine cw_le (le_mv 40 99) ?_
       refine wG tK ?_
       refine ZB ⟨n :: seen, hlt, ZU ?_ ?_ ?_⟩
       ·simp [go_sem, ← hpt, hput, hlB]
        omega
       ·simp [go_sem, ← hpt, hput, rowP, ZN, htk, hB1]
       ·simp [go_sem]
    ·try simp only [go_sem, hA1, hB1, htk, gD, gE, gF, gG, gA, gB, gC]
     refine drawD_two (i := 0) (j := 3) (by kernel_rfl) rfl rfl rfl rfl (YT tK rfl (by simp only [go_sem, hA1, hB1, htk, gD, gE, gF, gG, gA, gB, gC]; try exact rfl) ?_) (YT tK rfl (by simp only [go_sem, hA1, hB1, htk, gD, gE, gF, gG, gA, gB, gC]; try exact rfl) ?_) ?_ ?_
     ·skip
      first | trivial | simp [go_sem, hA1, hB1, htk, gD, gE, gF, gG, gA, gB, gC]
     ·skip
      first | trivial | simp [go_sem, hA1, hB1, htk, gD, gE, gF, gG, gA, gB, gC]
     ·try simp only [go_sem, hA1, hB1, htk, gD, gE, gF, gG, gA, gB, gC]
      refine drawD_two (i := 1) (j := 3) (by kernel_rfl) rfl rfl rfl rfl (YT tK rfl (by simp only [go_sem, hA1, hB1, htk, gD, gE, gF, gG, gA, gB, gC]; try exact rfl) ?_) (YT tK rfl (by simp only [go_sem, hA1, hB1, htk, gD, gE, gF, gG, gA, gB, gC]; try exact rfl) ?_) ?_ ?_
      ·skip
       try simp only [go_sem, hA1, hB1, htk, gD, gE, gF, gG, gA, gB, gC]
       simp
       omega
      ·skip
       first | trivial | simp [go_sem, hA1, hB1, htk, gD, gE, gF, gG, gA, gB, gC]
      ·try simp only [go_sem, hA1, hB1, htk, gD, gE, gF, gG, gA, gB, gC]
       refine YD (i := 3) (by kernel_rfl) rfl rfl (YT tK rfl (by simp only [go_sem]; try exact rfl) (by simp [go_sem])) ?_
       try simp only [go_sem, hA1, hB1, htk, gD, gE, gF, gG, gA, gB, gC]
       refine YD (i := 4) (by kernel_rfl) rfl rfl (YT tK rfl (by simp only [go_sem, hA1, hB1, htk, gD, gE, gF, gG, gA, gB, gC]; try exact rfl) ?_) ?_
       ·simp [go_sem, row5, hA1, hB1, htk, gD, gE, gF, gG, gA, gB, gC]
        omega
       try simp only [go_sem, hA1, hB1, htk, gD, gE, gF, gG, gA, gB, gC]
       refine YD (i := 5) (by kernel_rfl) rfl rfl (YT tK rfl (by simp only [go_sem, hA1, hB1, htk, gD, gE, gF, gG, gA, gB, gC, hlB]; try exact rfl) ?_) ?_
       ·simp [go_sem, hA1, hB1, htk, gD, gE, gF, gG, gA, gB, gC, hlB]
        omega
       try simp only [go_sem, hA1, hB1, htk, gD, gE, gF, gG, gA, gB, gC]
       refine YD (i := 6) (by kernel_rfl) rfl rfl (YT tK rfl (by simp only [go_sem]; try exact rfl) (by simp [go_sem])) ?_
       refine drawD_end (by kernel_rfl) ?_
       simp only [go_sem, gA, gB, gC]
       refine cw_le (le_drop 99) ?_
       refine cw_le (le_mv 40 99) ?_
       refine wG tK ?_
       refine ZB ⟨n :: seen, hlt, ZU ?_ ?_ ?_⟩
       ·simp [go_sem, ← hpt, hput, hlB]
        omega
       ·simp [go_sem, ← hpt, hput, rowP, ZN, htk, hB1]
       ·simp [go_sem]
      ·try simp only [go_sem, hA1, hB1, htk, gD, gE, gF, gG, gA, gB, gC]
       refine YD (i := 1) (by kernel_rfl) rfl rfl (YT tK rfl (by simp only [go_sem, hA1, hB1, htk, gD, gE, gF, gG, gA, gB, gC]; try exact rfl) ?_) ?_
       ·skip
        try simp only [go_sem, hA1, hB1, htk, gD, gE, gF, gG, gA, gB, gC]
        simp
        omega
       try simp only [go_sem, hA1, hB1, htk, gD, gE, gF, gG, gA, gB, gC]
       refine YD (i := 4) (by kernel_rfl) rfl rfl (YT tK rfl (by simp only [go_sem, hA1, hB1, htk, gD, gE, gF, gG, gA, gB, gC]; try exact rfl) ?_) ?_
       ·simp [go_sem, row5, hA1, hB1, htk, gD, gE, gF, gG, gA, gB, gC]
        omega
       try simp only [go_sem, hA1, hB1, htk, gD, gE, gF, gG, gA, gB, gC]
       refine YD (i := 5) (by kernel_rfl) rfl rfl (YT tK rfl (by simp only [go_sem, hA1, hB1, htk, gD, gE, gF, gG, gA, gB, gC, hlB]; try exact rfl) ?_) ?_
       ·simp [go_sem, hA1, hB1, htk, gD, gE, gF, gG, gA, gB, gC, hlB]
        omega
       try simp only [go_sem, hA1, hB1, htk, gD, gE, gF, gG, gA, gB, gC]
       refine YD (i := 6) (by kernel_rfl) rfl rfl (YT tK rfl (by simp only [go_sem]; try exact rfl) (by simp [go_sem])) ?_
       refine drawD_end (by kernel_rfl) ?_
       simp only [go_sem, gA, gB, gC]
       refine cw_le (le_drop 99) ?_
       refine cw_le (le_mv 40 99) ?_
       refine wG tK ?_
       refine ZB ⟨n :: seen, hlt, ZU ?_ ?_ ?_⟩
       ·simp [go_sem, ← hpt, hput, hlB]
        omega
       ·simp [go_sem, ← hpt, hput, rowP, ZN, htk, hB1]
       ·simp [go_sem]
     ·try simp only [go_sem, hA1, hB1, htk, gD, gE, gF, gG, gA, gB, gC]
      refine YD (i := 0) (by kernel_rfl) rfl rfl (YT tK rfl (by simp only [go_sem]; try exact rfl) (by simp [go_sem])) ?_
      try simp only [go_sem, hA1, hB1, htk, gD, gE, gF, gG, gA, gB, gC]
      refine YD (i := 1) (by kernel_rfl) rfl rfl (YT tK rfl (by simp only [go_sem, hA1, hB1, htk, gD, gE, gF, gG, gA, gB, gC]; try exact rfl) ?_) ?_
      ·skip
       try simp only [go_sem, hA1, hB1, htk, gD, gE, gF, gG, gA, gB, gC]
       simp
       omega
      try simp only [go_sem, hA1, hB1, htk, gD, gE, gF, gG, gA, gB, gC]
      refine YD (i := 4) (by kernel_rfl) rfl rfl (YT tK rfl (by simp only [go_sem, hA1, hB1, htk, gD, gE, gF, gG, gA, gB, gC]; try exact rfl) ?_) ?_
      ·simp [go_sem, row5, hA1, hB1, htk, gD, gE, gF, gG, gA, gB, gC]
       omega
      try simp only [go_sem, hA1, hB1, htk, gD, gE, gF, gG, gA, gB, gC]
      refine YD (i := 5) (by kernel_rfl) rfl rfl (YT tK rfl (by simp only [go_sem, hA1, hB1, htk, gD, gE, gF, gG, gA, gB, gC, hlB]; try exact rfl) ?_) ?_
      ·simp [go_sem, hA1, hB1, htk, gD, gE, gF, gG, gA, gB, gC, hlB]
       omega
      try simp only [go_sem, hA1, hB1, htk, gD, gE, gF, gG, gA, gB, gC]
      refine YD (i := 6) (by kernel_rfl) rfl rfl (YT tK rfl (by simp only [go_sem]; try exact rfl) (by simp [go_sem])) ?_
      refine drawD_end (by kernel_rfl) ?_
      simp only [go_sem, gA, gB, gC]
      refine cw_le (le_drop 99) ?_
      refine cw_le (le_mv 40 99) ?_
      refine wG tK ?_
      refine ZB ⟨n :: seen, hlt, ZU ?_ ?_ ?_⟩
      ·simp [go_sem, ← hpt, hput, hlB]
       omega
      ·simp [go_sem, ← hpt, hput, rowP, ZN, htk, hB1]
      ·simp [go_sem]
  ·have hkl2 : k = S.length := by omega
   have hput : mput S n nd = S.take k ++ (n, nd) :: S.drop k := mput_at S k hk hk2 fun h => absurd h hkl
   have hdf : decide ((k : Int) < (S.length : Int)) = false := decide_eq_false (by omega)
   refine sN tK 5 ?_
   rw [hdf]
   iterate 7 refine sS ?_
   refine sSB ?_
   refine sN tK 1 ?_
   refine sE ?_
   refine wKd ?_
   try simp only [go_sem, gA, gB, gC]
   refine wD (fun h => ?_) (fun h => ?_)
   ·exfalso; simp at h
   have hA1 : List.take k (S.map rowP) = (S.take k).map rowP := by rw [List.map_take]
   have hB1 : List.take (S.length - k) (List.drop k (S.map rowP)) = (S.drop k).map rowP := by rw [← List.map_drop, List.take_of_length_le (by simp)]
   have hlA : (S.take k).length = k := by rw [List.length_take]; omega
   have hlB : (S.drop k).length = S.length - k := List.length_drop
   generalize S.take k = A at hA1 hlA hput
   generalize S.drop k = B at hB1 hlB hput
   subst hlA
   have htk : List.take (A.length + 1) (A.map rowP ++ [[AV.int .i64 nd.fid, .bool nd.dir, .sl (nd.data.map ZY), .sl (nd.entries.map ZE), .int .i64 nd.version]]) = A.map rowP ++ [[AV.int .i64 nd.fid, .bool nd.dir, .sl (nd.data.map ZY), .sl (nd.entries.map ZE), .int .i64 nd.version]] := List.take_of_length_le (by simp)
   refine wG tK ?_
   refine ZW ZM ?_
   refine draw_earlyM 1 [0, 2, 3, 4, 5, 6, 7, 8, 9, 10, 11, 12] [0, 0, 1, 2, 3, 4, 5, 6, 7, 8, 9, 10, 11] rfl rfl rfl (fun _ _ _ h => h) (by kernel_rfl) (by kernel_rfl) (by simp [remOps, remOp, renE]; exact rfl) (by simp only [go_sem]; try exact rfl) ?_
   simp only [go_sem, gA, gB, gC]
   refine draw_earlyM 1 [0, 2, 3, 4, 5, 6, 7, 8, 9, 10, 11] [0, 0, 1, 2, 3, 4, 5, 6, 7, 8, 9, 10] rfl rfl rfl (fun _ _ _ h => h) (by kernel_rfl) (by kernel_rfl) (by simp [remOps, remOp, renE]; exact rfl) (by simp only [go_sem]; try exact rfl) ?_
   simp only [go_sem, gA, gB, gC]
   refine draw_earlyV 1 [0, 2, 3, 4, 5, 6, 7, 8, 9, 10] [0, 0, 1, 2, 3, 4, 5, 6, 7, 8, 9] rfl rfl (fun _ _ _ h => h) (by kernel_rfl) (by kernel_rfl) (by simp [remOps, remOp, renE]; exact rfl) (slice_any tK rfl rfl rfl (by decide) (by simp only [go_sem]; try exact rfl) (.inl ⟨rfl, rfl⟩) (.inr ⟨_, rfl, _, (by simp only [go_sem]; try exact rfl)⟩) (by simp [hk]) (by simp [hk])) ?_
   simp only [go_sem, gA, gB, gC]
   refine draw_earlyM 5 [0, 1, 2, 3, 4, 6, 7, 8, 9] [0, 1, 2, 3, 4, 0, 5, 6, 7, 8] rfl rfl rfl (fun _ _ _ h => h) (by kernel_rfl) (by kernel_rfl) (by simp [remOps, remOp, renE]; exact rfl) (by simp only [go_sem]; try exact rfl) ?_
   simp only [go_sem, gA, gB, gC]
   refine draw_earlyM 5 [0, 1, 2, 3, 4, 6, 7, 8] [0, 1, 2, 3, 4, 0, 5, 6, 7] rfl rfl rfl (fun _ _ _ h => h) (by kernel_rfl) (by kernel_rfl) (by simp [remOps, remOp, renE]; exact rfl) (by simp only [go_sem]; try exact rfl) ?_
   simp only [go_sem, gA, gB, gC]
   refine draw_earlyV 5 [0, 1, 2, 3, 4, 6, 7] [0, 1, 2, 3, 4, 0, 5, 6] rfl rfl (fun _ _ _ h => h) (by kernel_rfl) (by kernel_rfl) (by simp [remOps, remOp, renE]; exact rfl) (slice_any tK rfl rfl rfl (by decide) (by simp only [go_sem]; try exact rfl) (.inr ⟨_, rfl, _, (by simp only [go_sem]; try exact rfl)⟩) (.inl ⟨rfl, rfl⟩) (by simp [hk]) (by simp [hk])) ?_
   simp only [go_sem, gA, gB, gC]
   refine drawD (n := 7) (by kernel_rfl) rfl ?_
   refine drawD_two (i := 0) (j := 2) (by kernel_rfl) rfl rfl rfl rfl (YT tK rfl (by simp only [go_sem]; try exact rfl) (by simp [go_sem])) (YT tK rfl (by simp only [go_sem]; try exact rfl) (by simp [go_sem])) ?_ ?_
   ·refine drawD_two (i := 1) (j := 2) (by kernel_rfl) rfl rfl rfl rfl (YT tK rfl (by simp only [go_sem, hA1, hB1, htk, gD, gE, gF, gG, gA, gB, gC]; try exact rfl) ?_) (YT tK rfl (by simp only [go_sem, hA1, hB1, htk, gD, gE, gF, gG, gA, gB, gC]; try exact rfl) ?_) ?_ ?_
    ·skip
     try simp only [go_sem, hA1, hB1, htk, gD, gE, gF, gG, gA, gB, gC]
     simp
     omega
    ·skip
     first | trivial | simp [go_sem, hA1, hB1, htk, gD, gE, gF, gG, gA, gB, gC]
    ·try simp only [go_sem, hA1, hB1, htk, gD, gE, gF, gG, gA, gB, gC]
     refine YD (i := 2) (by kernel_rfl) rfl rfl (YT tK rfl (by simp only [go_sem]; try exact rfl) (by simp [go_sem])) ?_
     try simp only [go_sem, hA1, hB1, htk, gD, gE, gF, gG, gA, gB, gC]
     refine YD (i := 3) (by kernel_rfl) rfl rfl (YT tK rfl (by simp only [go_sem]; try exact rfl) (by simp [go_sem])) ?_
     try simp only [go_sem, hA1, hB1, htk, gD, gE, gF, gG, gA, gB, gC]
     refine YD (i := 4) (by kernel_rfl) rfl rfl (YT tK rfl (by simp only [go_sem, hA1, hB1, htk, gD, gE, gF, gG, gA, gB, gC]; try exact rfl) ?_) ?_
     ·simp [go_sem, row5, hA1, hB1, htk, gD, gE, gF, gG, gA, gB, gC]
      omega
     try simp only [go_sem, hA1, hB1, htk, gD, gE, gF, gG, gA, gB, gC]
     refine YD (i := 5) (by kernel_rfl) rfl rfl (YT tK rfl (by simp only [go_sem, hA1, hB1, htk, gD, gE, gF, gG, gA, gB, gC, hlB]; try exact rfl) ?_) ?_
     ·simp [go_sem, hA1, hB1, htk, gD, gE, gF, gG, gA, gB, gC, hlB]
      omega
     try simp only [go_sem, hA1, hB1, htk, gD, gE, gF, gG, gA, gB, gC]
     refine YD (i := 6) (by kernel_rfl) rfl rfl (YT tK rfl (by simp only [go_sem]; try exact rfl) (by simp [go_sem])) ?_
     refine drawD_end (by kernel_rfl) ?_
     simp only [go_sem, gA, gB, gC]
     refine cw_le (le_drop 99) ?_
     refine cw_le (le_mv 40 99) ?_
     refine wG tK ?_
     refine ZB ⟨n :: seen, hlt, ZU ?_ ?_ ?_⟩
     ·simp [go_sem, ← hpt, hput, hlB]
      omega
     ·simp [go_sem, ← hpt, hput, rowP, ZN, htk, hB1]
     ·simp [go_sem]
    ·try simp only [go_sem, hA1, hB1, htk, gD, gE, gF, gG, gA, gB, gC]
     refine drawD_two (i := 1) (j := 3) (by kernel_rfl) rfl rfl rfl rfl (YT tK rfl (by simp only [go_sem, hA1, hB1, htk, gD, gE, gF, gG, gA, gB, gC]; try exact rfl) ?_) (YT tK rfl (by simp only [go_sem, hA1, hB1, htk, gD, gE, gF, gG, gA, gB, gC]; try exact rfl) ?_) ?_ ?_
     ·skip
      try simp only [go_sem, hA1, hB1, htk, gD, gE, gF, gG, gA, gB, gC]
      simp
      omega
     ·skip
      first | trivial | simp [go_sem, hA1, hB1, htk, gD, gE, gF, gG, gA, gB, gC]
     ·try simp only [go_sem, hA1, hB1, htk, gD, gE, gF, gG, gA, gB, gC]
      refine YD (i := 3) (by kernel_rfl) rfl rfl (YT tK rfl (by simp only [go_sem]; try exact rfl) (by simp [go_sem])) ?_
      try simp only [go_sem, hA1, hB1, htk, gD, gE, gF, gG, gA, gB, gC]
      refine YD (i := 4) (by kernel_rfl) rfl rfl (YT tK rfl (by simp only [go_sem, hA1, hB1, htk, gD, gE, gF, gG, gA, gB, gC]; try exact rfl) ?_) ?_
      ·simp [go_sem, row5, hA1, hB1, htk, gD, gE, gF, gG, gA, gB, gC]
       omega
      try simp only [go_sem, hA1, hB1, htk, gD, gE, gF, gG, gA, gB, gC]
      refine YD (i := 5) (by kernel_rfl) rfl rfl (YT tK rfl (by simp only [go_sem, hA1, hB1, htk, gD, gE, gF, gG, gA, gB, gC, hlB]; try exact rfl) ?_) ?_
      ·simp [go_sem, hA1, hB1, htk, gD, gE, gF, gG, gA, gB, gC, hlB]
       omega
      try simp only [go_sem, hA1, hB1, htk, gD, gE, gF, gG, gA, gB, gC]
      refine YD (i := 6) (by kernel_rfl) rfl rfl (YT tK rfl (by simp only [go_sem]; try exact rfl) (by simp [go_sem])) ?_
      refine drawD_end (by kernel_rfl) ?_
      simp only [go_sem, gA, gB, gC]
      refine cw_le (le_drop 99) ?_
      refine cw_le (le_mv 40 99) ?_
      refine wG tK ?_
      refine ZB ⟨n :: seen, hlt, ZU ?_ ?_ ?_⟩
      ·simp [go_sem, ← hpt, hput, hlB]
       omega
      ·simp [go_sem, ← hpt, hput, rowP, ZN, htk, hB1]
      ·simp [go_sem]
     ·try simp only [go_sem, hA1, hB1, htk, gD, gE, gF, gG, gA, gB, gC]
      refine YD (i := 1) (by kernel_rfl) rfl rfl (YT tK rfl (by simp only [go_sem, hA1, hB1, htk, gD, gE, gF, gG, gA, gB, gC]; try exact rfl) ?_) ?_
      ·skip
       try simp only [go_sem, hA1, hB1, htk, gD, gE, gF, gG, gA, gB, gC]
       simp
       omega
      try simp only [go_sem, hA1, hB1, htk, gD, gE, gF, gG, gA, gB, gC]
      refine YD (i := 4) (by kernel_rfl) rfl rfl (YT tK rfl (by simp only [go_sem, hA1, hB1, htk, gD, gE, gF, gG, gA, gB, gC]; try exact rfl) ?_) ?_
      ·simp [go_sem, row5, hA1, hB1, htk, gD, gE, gF, gG, gA, gB, gC]
       omega
      try simp only [go_sem, hA1, hB1, htk, gD, gE, gF, gG, gA, gB, gC]
      refine YD (i := 5) (by kernel_rfl) rfl rfl (YT tK rfl (by simp only [go_sem, hA1, hB1, htk, gD, gE, gF, gG, gA, gB, gC, hlB]; try exact rfl) ?_) ?_
      ·simp [go_sem, hA1, hB1, htk, gD, gE, gF, gG, gA, gB, gC, hlB]
       omega
      try simp only [go_sem, hA1, hB1, htk, gD, gE, gF, gG, gA, gB, gC]
      refine YD (i := 6) (by kernel_rfl) rfl rfl (YT tK rfl (by simp only [go_sem]; try exact rfl) (by simp [go_sem])) ?_
      refine drawD_end (by kernel_rfl) ?_
      simp only [go_sem, gA, gB, gC]
      refine cw_le (le_drop 99) ?_
      refine cw_le (le_mv 40 99) ?_
      refine wG tK ?_
      refine ZB ⟨n :: seen, hlt, ZU ?_ ?_ ?_⟩
      ·simp [go_sem, ← hpt, hput, hlB]
       omega
      ·simp [go_sem, ← hpt, hput, rowP, ZN, htk, hB1]
      ·simp [go_sem]
   ·try simp only [go_sem, hA1, hB1, htk, gD, gE, gF, gG, gA, gB, gC]
    refine drawD_two (i := 0) (j := 3) (by kernel_rfl) rfl rfl rfl rfl (YT tK rfl (by simp only [go_sem, hA1, hB1, htk, gD, gE, gF, gG, gA, gB, gC]; try exact rfl) ?_) (YT tK rfl (by simp only [go_sem, hA1, hB1, htk, gD, gE, gF, gG, gA, gB, gC]; try exact rfl) ?_) ?_ ?_
    ·skip
     first | trivial | simp [go_sem, hA1, hB1, htk, gD, gE, gF, gG, gA, gB, gC]
    ·skip
     first | trivial | simp [go_sem, hA1, hB1, htk, gD, gE, gF, gG, gA, gB, gC]
    ·try simp only [go_sem, hA1, hB1, htk, gD, gE, gF, gG, gA, gB, gC]
     refine drawD_two (i := 1) (j := 3) (by kernel_rfl) rfl rfl rfl rfl (YT tK rfl (by simp only [go_sem, hA1, hB1, htk, gD, gE, gF, gG, gA, gB, gC]; try exact rfl) ?_) (YT tK rfl (by simp only [go_sem, hA1, hB1, htk, gD, gE, gF, gG, gA, gB, gC]; try exact rfl) ?_) ?_ ?_
     ·skip
      try simp only [go_sem, hA1, hB1, htk, gD, gE, gF, gG, gA, gB, gC]
      simp
      omega
     ·skip
      first | trivial | simp [go_sem, hA1, hB1, htk, gD, gE, gF, gG, gA, gB, gC]
     ·try simp only [go_sem, hA1, hB1, htk, gD, gE, gF, gG, gA, gB, gC]
      refine YD (i := 3) (by kernel_rfl) rfl rfl (YT tK rfl (by simp only [go_sem]; try exact rfl) (by simp [go_sem])) ?_
      try simp only [go_sem, hA1, hB1, htk, gD, gE, gF, gG, gA, gB, gC]
      refine YD (i := 4) (by kernel_rfl) rfl rfl (YT tK rfl (by simp only [go_sem, hA1, hB1, htk, gD, gE, gF, gG, gA, gB, gC]; try exact rfl) ?_) ?_
      ·simp [go_sem, row5, hA1, hB1, htk, gD, gE, gF, gG, gA, gB, gC]
       omega
      try simp only [go_sem, hA1, hB1, htk, gD, gE, gF, gG, gA, gB, gC]
      refine YD (i := 5) (by kernel_rfl) rfl rfl (YT tK rfl (by simp only [go_sem, hA1, hB1, htk, gD, gE, gF, gG, gA, gB, gC, hlB]; try exact rfl) ?_) ?_
      ·simp [go_sem, hA1, hB1, htk, gD, gE, gF, gG, gA, gB, gC, hlB]
       omega
      try simp only [go_sem, hA1, hB1, htk, gD, gE, gF, gG, gA, gB, gC]
      refine YD (i := 6) (by kernel_rfl) rfl rfl (YT tK rfl (by simp only [go_sem]; try exact rfl) (by simp [go_sem])) ?_
      refine drawD_end (by kernel_rfl) ?_
      simp only [go_sem, gA, gB, gC]
      refine cw_le (le_drop 99) ?_
      refine cw_le (le_mv 40 99) ?_
      refine wG tK ?_
      refine ZB ⟨n :: seen, hlt, ZU ?_ ?_ ?_⟩
      ·simp [go_sem, ← hpt, hput, hlB]
       omega
      ·simp [go_sem, ← hpt, hput, rowP, ZN, htk, hB1]
      ·simp [go_sem]
     ·try simp only [go_sem, hA1, hB1, htk, gD, gE, gF, gG, gA, gB, gC]
      refine YD (i := 1) (by kernel_rfl) rfl rfl (YT tK rfl (by simp only [go_sem, hA1, hB1, htk, gD, gE, gF, gG, gA, gB, gC]; try exact rfl) ?_) ?_
      ·skip
       try simp only [go_sem, hA1, hB1, htk, gD, gE, gF, gG, gA, gB, gC]
       simp
       omega
      try simp only [go_sem, hA1, hB1, htk, gD, gE, gF, gG, gA, gB, gC]
      refine YD (i := 4) (by kernel_rfl) rfl rfl (YT tK rfl (by simp only [go_sem, hA1, hB1, htk, gD, gE, gF, gG, gA, gB, gC]; try exact rfl) ?_) ?_
      ·simp [go_sem, row5, hA1, hB1, htk, gD, gE, gF, gG, gA, gB, gC]
       omega
      try simp only [go_sem, hA1, hB1, htk, gD, gE, gF, gG, gA, gB, gC]
      refine YD (i := 5) (by kernel_rfl) rfl rfl (YT tK rfl (by simp only [go_sem, hA1, hB1, htk, gD, gE, gF, gG, gA, gB, gC, hlB]; try exact rfl) ?_) ?_
      ·simp [go_sem, hA1, hB1, htk, gD, gE, gF, gG, gA, gB, gC, hlB]
       omega
      try simp only [go_sem, hA1, hB1, htk, gD, gE, gF, gG, gA, gB, gC]
      refine YD (i := 6) (by kernel_rfl) rfl rfl (YT tK rfl (by simp only [go_sem]; try exact rfl) (by simp [go_sem])) ?_
      refine drawD_end (by kernel_rfl) ?_
      simp only [go_sem, gA, gB, gC]
      refine cw_le (le_drop 99) ?_
      refine cw_le (le_mv 40 99) ?_
      refine wG tK ?_
      refine ZB ⟨n :: seen, hlt, ZU ?_ ?_ ?_⟩
      ·simp [go_sem, ← hpt, hput, hlB]
       omega
      ·simp [go_sem, ← hpt, hput, rowP, ZN, htk, hB1]
      ·simp [go_sem]
    ·try simp only [go_sem, hA1, hB1, htk, gD, gE, gF, gG, gA, gB, gC]
     refine YD (i := 0) (by kernel_rfl) rfl rfl (YT tK rfl (by simp only [go_sem]; try exact rfl) (by simp [go_sem])) ?_
     try simp only [go_sem, hA1, hB1, htk, gD, gE, gF, gG, gA, gB, gC]
     refine YD (i := 1) (by kernel_rfl) rfl rfl (YT tK rfl (by simp only [go_sem, hA1, hB1, htk, gD, gE, gF, gG, gA, gB, gC]; try exact rfl) ?_) ?_
     ·skip
      try simp only [go_sem, hA1, hB1, htk, gD, gE, gF, gG, gA, gB, gC]
      simp
      omega
     try simp only [go_sem, hA1, hB1, htk, gD, gE, gF, gG, gA, gB, gC]
     refine YD (i := 4) (by kernel_rfl) rfl rfl (YT tK rfl (by simp only [go_sem, hA1, hB1, htk, gD, gE, gF, gG, gA, gB, gC]; try exact rfl) ?_) ?_
     ·simp [go_sem, row5, hA1, hB1, htk, gD, gE, gF, gG, gA, gB, gC]
      omega
     try simp only [go_sem, hA1, hB1, htk, gD, gE, gF, gG, gA, gB, gC]
     refine YD (i := 5) (by kernel_rfl) rfl rfl (YT tK rfl (by simp only [go_sem, hA1, hB1, htk, gD, gE, gF, gG, gA, gB, gC, hlB]; try exact rfl) ?_) ?_
     ·simp [go_sem, hA1, hB1, htk, gD, gE, gF, gG, gA, gB, gC, hlB]
      omega
     try simp only [go_sem, hA1, hB1, htk, gD, gE, gF, gG, gA, gB, gC]
     refine YD (i := 6) (by kernel_rfl) rfl rfl (YT tK rfl (by simp only [go_sem]; try exact rfl) (by simp [go_sem])) ?_
     refine drawD_end (by kernel_rfl) ?_
     simp only [go_sem, gA, gB, gC]
     refine cw_le (le_drop 99) ?_
     refine cw_le (le_mv 40 99) ?_
     refine wG tK ?_
     refine ZB ⟨n :: seen, hlt, ZU ?_ ?_ ?_⟩
     ·simp [go_sem, ← hpt, hput, hlB]
      omega
     ·simp [go_sem, ← hpt, hput, rowP, ZN, htk, hB1]
     ·simp [go_sem]
theorem list_ok (l : List Node) (hu : Up l) (hlen : l.length ≤ 50000000) : FnOK Tryz.prog 37 [.rm (mN (mapD l))] [] (fun r _ => r = .sl (l.map ZN)) := by
 have h := list_raw (mapD l) (mapD_rise l) (fun p hp => by
  rw [mapD_eq hu] at hp
  obtain ⟨n, _, rfl⟩ := List.mem_map.1 hp
  rfl) (by rw [mapD_len hu]; exact hlen)
 have e : (mapD l).map rowP = l.map ZN := by
  rw [mapD_eq hu, List.map_map]; rfl
 rwa [e] at h
theorem rkeep_no {l : List Kept} {room : Int} {k : Kept} (hl : l.length ≤ 90000000) (h : keepK l room k = none) : FnOK Tryz.prog 108 [.sl (l.map ZK), .int .i64 room, .agg (ZK k)] [] (fun r _ => r = .tup [.sl (([] : List Kept).map ZK), .int .i64 5]) := by
 have := rkeep_ok l room k hl
 unfold keepR at this
 rw [h] at this
 exact this
theorem rkeep_yes {l L : List Kept} {room : Int} {k : Kept} (hl : l.length ≤ 90000000) (h : keepK l room k = some L) : FnOK Tryz.prog 108 [.sl (l.map ZK), .int .i64 room, .agg (ZK k)] [] (fun r _ => r = .tup [.sl (L.map ZK), .int .i64 0]) := by
 have := rkeep_ok l room k hl
 unfold keepR at this
 rw [h] at this
 exact this
end La
namespace Go.Eng
section
variable {P : Program} {C : Ctx} {σ : St}
def nil0 : AV → AV
 | .nils => .sl [] | .any => .any | .int k n => .int k n | .bool b => .bool b | .str s => .str s | .nilp => .nilp | .nili => .nili | .ifc => .ifc | .nilm => .nilm | .sl r => .sl r | .rp c o => .rp c o | .rm m => .rm m | .fn f c => .fn f c
 | .agg c => .agg (c.map fun | .nils => .sl [] | x => x) | .tup v => .tup v | .ptr a b c d => .ptr a b c d | .osl a b c d => .osl a b c d | .mp i => .mp i | .exs a b c d e => .exs a b c d e | .cnd c v => .cnd c v
theorem rd_nil {μ : Nat → Option Nat} {S : Nat → Prop} {w : World} {v : Value} (h : Rd μ S w v .nils) : Rd μ S w v (.sl []) := h.wk (.inr (.inr ⟨rfl, .inl rfl⟩))
theorem Rd.nil0 {μ : Nat → Option Nat} {S : Nat → Prop} {w : World} {v : Value} {x : AV} (h : Rd μ S w v x) : Rd μ S w v (Eng.nil0 x) := by
 cases x with
 | nils => exact rd_nil h
 | agg c =>
  have key : ∀ {cs : Array Value} {f : AV → AV}, (∀ j x, c[j]? = some x → Rd μ S w (cs.getD j undef) (f x)) → ∀ j x, (c.map f)[j]? = some x → Rd μ S w (cs.getD j undef) x := fun {cs f} h j x hx => by
   rw [List.getElem?_map] at hx
   cases e : c[j]? with
   | none => rw [e] at hx; cases hx
   | some y => rw [e] at hx; injection hx with hx; subst hx; exact h j y e
  have one : ∀ {v : Value} (x : AV), Rd μ S w v x → Rd μ S w v (match x with | .nils => .sl [] | x => x) := fun x hx => by
   split
   ·exact rd_nil hx
   ·exact hx
  cases h with
  | pure h =>
   cases h with
   | agg cs _ hl hr => exact .agg cs _ (by rw [List.length_map]; exact hl) (key fun j x hx => one x (.pure (hr j x hx)))
  | agg cs _ hl hr => exact .agg cs _ (by rw [List.length_map]; exact hl) (key fun j x hx => one x (hr j x hx))
 | _ => exact h
theorem le_nil0 (id : Nat) {e s : Nat} {rows rows' : List (List AV)} (hb : hget σ.hp id = some (.cells e s rows) := by simp only [go_sem]; exact rfl) (hr : rows.map (fun row => row.map nil0) = rows' := by simp only [go_sem, nil0]; exact rfl) : Le C σ ⟨σ.tm, hset σ.hp id (.cells e s rows')⟩ := by
 subst hr
 rintro a w ⟨μ, S, hi⟩
 refine ⟨μ, S, hi.size, hi.defers, hi.tm, fun i b hb' => ?_, fun i q hq => ?_, hi.inj, hi.frm, hi.sb⟩
 ·simp only [hget_hset] at hb'
  split at hb'
  ·rename_i h1
   injection hb' with hb'
   subst h1 hb'
   rcases hi.hp id _ hb with ⟨rfl, k2⟩ | ⟨g, c, k1, k2, k3, k4, k5⟩
   ·exact .inl ⟨by simp, k2⟩
   ·refine .inr ⟨g, c, k1, k2, by rw [List.length_map]; exact k3, fun row hrow => ?_, fun i row hi' q x hx => ?_⟩
    ·obtain ⟨r0, h0, rfl⟩ := List.mem_map.1 hrow
     rw [List.length_map]; exact k4 r0 h0
    ·rw [List.getElem?_map] at hi'
     cases e0 : rows[i]? with
     | none => rw [e0] at hi'; cases hi'
     | some r0 =>
      rw [e0] at hi'
      simp only [Option.map_some, Option.some.injEq] at hi'
      subst hi'
      rw [List.getElem?_map] at hx
      cases e1 : r0[q]? with
      | none => rw [e1] at hx; cases hx
      | some y =>
       rw [e1] at hx
       simp only [Option.map_some, Option.some.injEq] at hx
       subst hx
       exact (k5 i r0 e0 q y e1).nil0
  ·exact hi.hp i b hb'
 ·obtain ⟨⟨b, h1⟩, h2⟩ := hi.dom i q hq
  refine ⟨?_, h2⟩
  simp only [hget_hset]
  split
  ·exact ⟨_, rfl⟩
  ·exact ⟨b, h1⟩
theorem le_nilT (t : Nat) {x y : AV} (hx : σ.tm.getD t .any = x) (hy : nil0 x = y) : Le C σ ⟨σ.tm.set t y, σ.hp⟩ := by
 subst hx hy
 rintro a w ⟨μ, S, hi⟩
 refine ⟨μ, S, by rw [List.length_set]; exact hi.size, hi.defers, fun j z hz => ?_, hi.hp, hi.dom, hi.inj, hi.frm, hi.sb⟩
 rw [List.getElem?_set] at hz
 split at hz
 ·rename_i e
  subst e
  split at hz
  ·rename_i hlt
   injection hz with hz
   subst hz
   rw [List.getD_eq_getElem?_getD, List.getElem?_eq_getElem hlt]
   exact (hi.tm t _ (List.getElem?_eq_getElem hlt)).nil0
  ·cases hz
 ·exact hi.tm j z hz
end
end Go.Eng
namespace La
open Go Go.Eng Go.Proofs
def uH (u : U) (G Y N : Nat → Nat) : List (Nat × Blk) := [(900, .cells 156 13 [uRow u])] ++ pins [900] G Y N
theorem nodeK_hit {l : List Kept} (hn : (l.map fun k => k.node.fid).Nodup) {fid : Int} {i : Nat} (hi : i < l.length) (hf : (l.getD i default).node.fid = fid) : nodeK (l.take (i + 1)) fid = some (l.getD i default).node ∧ nodeK (l.take i) fid = none := by
 have h0 : nodeK (l.take i) fid = none := by
  unfold nodeK
  rw [Option.map_eq_none_iff, List.find?_eq_none]
  intro x hx
  obtain ⟨j, hj⟩ := List.getElem?_of_mem hx
  have hjl := (List.getElem?_eq_some_iff.1 hj).1
  rw [List.length_take] at hjl
  rw [List.getElem?_take, if_pos (by omega)] at hj
  simp only [beq_iff_eq]
  intro e
  have h2 : l[i]? = some (l.getD i default) := by rw [List.getD_eq_getElem?_getD, List.getElem?_eq_getElem hi]; rfl
  have := nodup_at hn hj h2 (e.trans hf.symm)
  omega
 refine ⟨?_, h0⟩
 unfold nodeK at h0 ⊢
 rw [ZT hi, List.find?_append]
 rw [Option.map_eq_none_iff] at h0
 have hb : ((l.getD i default).node.fid == fid) = true := by rw [hf]; exact beq_self_eq_true _
 rw [h0, Option.none_or, List.find?_cons]
 simp only [hb, Option.map_some]
theorem nodeK_miss {l : List Kept} {fid : Int} {i : Nat} (hi : i < l.length) (hf : (l.getD i default).node.fid ≠ fid) : nodeK (l.take (i + 1)) fid = nodeK (l.take i) fid := by
 unfold nodeK
 rw [ZT hi, List.find?_append, List.find?_cons]
 rw [show ((l.getD i default).node.fid == fid) = false by simpa using hf]
 simp
def lookTo (l : List Kept) (f w c : Int) (i : Nat) : List Kept := (l.take i).map (getF f w c)
theorem lookTo_succ {l : List Kept} (f w c : Int) {i : Nat} (h : i < l.length) : lookTo l f w c (i + 1) = lookTo l f w c i ++ [getF f w c (l.getD i default)] := by unfold lookTo; rw [ZT h, List.map_append]; rfl
theorem lookTo_len {l : List Kept} (f w c : Int) {i : Nat} (h : i ≤ l.length) : (lookTo l f w c i).length = i := by unfold lookTo; rw [List.length_map, List.length_take]; omega
theorem lookTo_all (l : List Kept) (f w c : Int) : lookTo l f w c l.length = l.map (getF f w c) := by unfold lookTo; rw [List.take_length]
@[go_sem, simp] theorem nodeRow_frz1 (id s : Nat) (rows : List (List AV)) (n : Node) : frzL id s rows (ZN n) = ZN n := rfl
@[go_sem, simp] theorem nodeRow_ren1 (off : Nat) (n : Node) : renL off (ZN n) = ZN n := rfl
@[go_sem, simp] theorem nodeRow_len (n : Node) : (ZN n).length = 5 := rfl
theorem row_noref {l : List AV} (h : refsL l = []) {x : AV} (hx : x ∈ l) (id : Nat) : ¬ id ∈ refs x := fun hi => by
 obtain ⟨j, hj⟩ := List.getElem?_of_mem hx
 have := refsL_mem hj hi
 rw [h] at this
 cases this
def gotA (g : Got) : AV := .tup [.agg (ZN g.n), .int .i64 g.e]
theorem rget_ok {B T : Nat} (u : U) (h : UInv B T u) (hB : B ≤ 40000000) (hT : T ≤ 1000000000000) (fid worth : Int) (G Y N : Nat → Nat) : FnOK Tryz.prog 104 [.ptr 900 13 0 0, .int .i64 fid, .int .i64 worth] (uH u G Y N)
  (fun r H => r = gotA (getU u fid worth) ∧ Holds (uH (getU u fid worth).u G Y N) H) := by
 have hcl := h.cli.clock
 have hlen : u.c.cache.length ≤ 24 := by have := h.cli.len; have := h.cli.room; omega
 have hnod := h.cli.nod
 have hup := h.srv.hist.good.up
 have htl : u.s.tree.length ≤ 24 := h.srv.hist.good.len
 have hw : IntKind.i64.wrap (u.c.clock + 1) = u.c.clock + 1 := Eng.wrap_small (by omega) (by omega)
 have hof := of_rm u.s.tree (by omega)
 have hgf : ∀ k, mget (mN (mapD u.s.tree)) k = (findN u.s.tree k).map fun n => AV.agg (ZN n) := fun k => by rw [mN_get, mapD_get hup]
 have hgu : getU u fid worth = match nodeK u.c.cache fid with
  | some n => ⟨n, 0, lookU u fid worth⟩
  | none => if u.c.away = true then ⟨zeroN, 12, lookU u fid worth⟩ else match findN u.s.tree fid with
   | none => ⟨zeroN, 6, lookU u fid worth⟩
   | some n => ⟨n, 0, keepU (lookU u fid worth) ⟨n, false, worth, u.c.clock + 1⟩⟩ := rfl
 have hD0 : lookTo u.c.cache fid worth (u.c.clock + 1) 0 = [] := rfl
 have hDs := fun i => @lookTo_succ u.c.cache fid worth (u.c.clock + 1) i
 have hDn := fun i => @lookTo_len u.c.cache fid worth (u.c.clock + 1) i
 have hDe := lookTo_all u.c.cache fid worth (u.c.clock + 1)
 generalize lookTo u.c.cache fid worth (u.c.clock + 1) = D at *
 unfold uH uRow
 refine ZF tK (Tryz.func104) rfl (fun C => ?_)
 simp only [Tryz.ntmps104, Tryz.results104, go_sem]
 refine wG tK ?_ (by simp only [go_sem, hw]; try exact rfl) (by simp [go_sem, hw])
 refine cw_le (le_empty 57 113 8 (by simp only [go_sem]; try exact rfl)) ?_
 simp only [go_sem]
 refine cw_le (le_nil0 6) ?_
 refine cw_le (le_nil0 9) ?_
 simp only [go_sem]
 refine ZL (fun i : Nat => i ≤ u.c.cache.length) (fun i => u.c.cache.length - i) (fun i => [(8, .osl 57 8 0 i), (10, .bool (nodeK (u.c.cache.take i) fid).isSome), (12, .any), (31, .int .i64 i), (32, .any), (33, .any), (34, .any), (35, .any), (36, .any), (37, .any), (38, .any), (39, .any), (40, .any), (41, .any), (42, .any), (43, .any), (44, .any), (45, .any), (46, .any), (47, .any), (48, .any), (49, .any), (50, .any), (51, .any), (52, .any), (53, .any), (54, .any), (55, .any), (56, .any), (57, .any), (58, .any)])
  (fun i => [(9, .cells 60 5 [ZN ((nodeK (u.c.cache.take i) fid).getD zeroN)]), (57, .cells 113 8 ((D i).map ZK))]) 0 (by omega) ?_ fun i hi => ?_
 ·simp only [go_sem]
  rw [hD0]
  exact ZU (by simp [go_sem, nodeK]) (by simp [go_sem, nodeK, ZN, zeroN]) (by simp [go_sem, ZN])
 simp only [go_sem]
 refine wG tK ?_
 refine wD (fun h => ?_) (fun h => ?_)
 ·have hlt : i < u.c.cache.length := by simp at h; omega
  have hg : (u.c.cache.map ZK).getD i [] = ZK (u.c.cache.getD i default) := Fam.getD hlt
  have hw1 := wi1 (i := i) (by omega)
  have hgt := hDs i hlt
  have hDl := hDn i hi
  have hit := @nodeK_hit u.c.cache hnod fid i hlt
  have hms := @nodeK_miss u.c.cache fid i hlt
  generalize D i = Di at *
  generalize u.c.cache.getD i default = k at *
  have htq : List.take i (Di.map ZK) = Di.map ZK := List.take_of_length_le (by simp [hDl])
  refine wGq tK ?_ ?_ (by simp only [go_sem, hg, ZK]; try exact rfl)
  ·simp [hg, ZK, hlt]
  refine wD (fun h => ?_) (fun h => ?_)
  ·have hf : k.node.fid = fid := by simpa using h
   obtain ⟨hnk, hn0⟩ := hit hf
   refine wG tK ?_
   refine wD (fun h => ?_) (fun h => ?_)
   ·have hwo : k.worth < worth := by simpa using h
    have hk : getF fid worth (u.c.clock + 1) k = { k with last := u.c.clock + 1, worth := worth } := by unfold getF maxI; rw [if_pos hf, if_pos hwo]
    refine wGq tK ?_ ?_ (by simp only [go_sem, hw1]; try exact rfl)
    ·simp [htq, refs]
     refine ⟨by intro row h; simp at h; subst h; rfl, by omega, by omega, fun x hx => ?_, fun x hx y hy => row_noref (keptRow_refsL x) hy _⟩
     first | exact row_noref (nodeRow_refsL _) hx _ | skip
    refine ZB ⟨i + 1, by omega, by omega, ZU ?_ ?_ ?_⟩
    ·simp [go_sem, hgt, hnk]
    ·simp [go_sem, hgt, htq, hk, ZK, ZN, hnk]
    ·simp [go_sem]
   ·have hwo : ¬ worth > k.worth := by simpa using h
    have hk : getF fid worth (u.c.clock + 1) k = { k with last := u.c.clock + 1 } := by unfold getF maxI; rw [if_pos hf, if_neg hwo]
    refine wGq tK ?_ ?_ (by simp only [go_sem, hw1]; try exact rfl)
    ·simp [htq, refs]
     refine ⟨by intro row h; simp at h; subst h; rfl, by omega, by omega, fun x hx => ?_, fun x hx y hy => row_noref (keptRow_refsL x) hy _⟩
     first | exact row_noref (nodeRow_refsL _) hx _ | skip
    refine ZB ⟨i + 1, by omega, by omega, ZU ?_ ?_ ?_⟩
    ·simp [go_sem, hgt, hnk]
    ·simp [go_sem, hgt, htq, hk, ZK, ZN, hnk]
    ·simp [go_sem]
  ·have hf : k.node.fid ≠ fid := by simpa using h
   have hnk := hms hf
   have hk : getF fid worth (u.c.clock + 1) k = k := by unfold getF; rw [if_neg hf]
   refine wGq tK ?_ ?_ (by simp only [go_sem, hw1]; try exact rfl)
   ·simp [htq, refs]
    refine ⟨by intro row h; simp at h; subst h; rfl, by omega, by omega, fun x hx => ?_, fun x hx y hy => row_noref (keptRow_refsL x) hy _⟩
    first | exact row_noref (nodeRow_refsL _) hx _ | skip
   refine ZB ⟨i + 1, by omega, by omega, ZU ?_ ?_ ?_⟩
   ·simp [go_sem, hgt, hnk]
   ·simp [go_sem, hgt, htq, hk, ZK, ZN, hnk]
   ·simp [go_sem]
 ·have e : i = u.c.cache.length := by simp at h; omega
  subst e
  rw [List.take_length, hDe]
  refine wR ?_
  have htk : List.take u.c.cache.length ((u.c.cache.map (getF fid worth (u.c.clock + 1))).map ZK) = (u.c.cache.map (getF fid worth (u.c.clock + 1))).map ZK := List.take_of_length_le (by simp)
  refine ZZ 57 rfl (keptRow_pure _) ?_
  simp only [go_sem, htk]
  refine wG tK ?_
  clear hgu
  cases hnk : nodeK u.c.cache fid with
  | some n =>
   have hG : getU u fid worth = ⟨n, 0, lookU u fid worth⟩ := by unfold getU; rw [hnk]
   rw [hG]
   refine wDT (hb := (rfl)) (hk := ?_)
   refine wG tK ?_ (by simp only [go_sem, ZN]; try exact rfl) (by simp [go_sem, ZN])
   refine wU ?_ ?_
   ·rfl
   ·skip
    simp only [pins, List.cons_append, List.nil_append, List.map_cons, List.map_nil]
    repeat' refine ZH ?_ ?_
    all_goals first | exact YH _ | rfl | simp [go_sem]
  | none =>
   refine wDF (hb := (rfl)) (hk := ?_)
   refine wG tK ?_
   cases ha : u.c.away with
   | true =>
    have hG : getU u fid worth = ⟨zeroN, 12, lookU u fid worth⟩ := by unfold getU; rw [hnk]; simp [ha]
    rw [hG]
    refine wDT (hb := (rfl)) (hk := ?_)
    refine wG tK ?_ (by simp only [go_sem, ZN, zeroN]; try exact rfl) (by simp [go_sem, ZN, zeroN])
    refine wU ?_ ?_
    ·rfl
    ·skip
     simp only [pins, List.cons_append, List.nil_append, List.map_cons, List.map_nil]
     repeat' refine ZH ?_ ?_
     all_goals first | exact YH _ | rfl | simp [go_sem, lookU, ha]
   | false =>
    refine wDF (hb := (rfl)) (hk := ?_)
    refine wG tK ?_
    refine wC Tryz.func20 (hf := (hof)) (hk := ?_)
    have hg1 := hgf fid
    cases hff : findN u.s.tree fid with
    | none =>
     rw [hff] at hg1
     simp only [Option.map_none] at hg1
     have hG : getU u fid worth = ⟨zeroN, 6, lookU u fid worth⟩ := by unfold getU; rw [hnk]; simp [ha, hff]
     rw [hG]
     refine wG tK ?_ (by simp only [go_sem, hg1]; try exact rfl) (by simp [go_sem, hg1])
     refine wDT (hb := (rfl)) (hk := ?_)
     refine wG tK ?_
     refine cw_le (le_nil0 6) ?_
     simp only [go_sem]
     refine wU ?_ ?_
     ·rfl
     ·skip
      simp only [pins, List.cons_append, List.nil_append, List.map_cons, List.map_nil]
      repeat' refine ZH ?_ ?_
      all_goals first | exact YH _ | rfl | simp [go_sem, lookU, ha]
    | some n =>
     rw [hff] at hg1
     simp only [Option.map_some] at hg1
     refine wG tK ?_ (by simp only [go_sem, hg1, ZN]; try exact rfl) (by simp [go_sem, hg1, ZN])
     refine wDF (hb := (rfl)) (hk := ?_)
     refine wG tK ?_
     have hcz : (u.c.cache.map (getF fid worth (u.c.clock + 1))).length ≤ 90000000 := by rw [List.length_map]; omega
     have hG : getU u fid worth = ⟨n, 0, keepU (lookU u fid worth) ⟨n, false, worth, u.c.clock + 1⟩⟩ := by unfold getU; rw [hnk]; simp [ha, hff]
     rw [hG]
     refine ZW ZM ?_
     refine ZS rfl ?_
     refine sN tK 17 ?_
     refine sB tK ?_
     cases hkp : keepK (u.c.cache.map (getF fid worth (u.c.clock + 1))) u.c.room ⟨n, false, worth, u.c.clock + 1⟩ with
     | none =>
      have hk := rkeep_no hcz hkp
      have hKU : keepU (lookU u fid worth) ⟨n, false, worth, u.c.clock + 1⟩ = lookU u fid worth := by unfold keepU lookU; simp only [hkp]
      rw [hKU]
      refine sC Tryz.func108 (hf := (hk)) (hk := ?_)
      refine sG tK ?_
      refine sE ?_
      refine wKd ?_
      try simp only [go_sem, gA, gB, gC]
      refine wG tK ?_
      refine wDF (hb := (rfl)) (hk := ?_)
      refine wG tK ?_
      refine wU ?_ ?_
      ·rfl
      ·skip
       simp only [pins, List.cons_append, List.nil_append, List.map_cons, List.map_nil]
       repeat' refine ZH ?_ ?_
       all_goals first | exact YH _ | rfl | simp [go_sem, lookU, ha]
     | some L =>
      have hk := rkeep_yes hcz hkp
      have hKU : keepU (lookU u fid worth) ⟨n, false, worth, u.c.clock + 1⟩ = ⟨{ (lookU u fid worth).c with cache := L }, u.s⟩ := by unfold keepU lookU; simp only [hkp]
      rw [hKU]
      refine sC Tryz.func108 (hf := (hk)) (hk := ?_)
      refine sG tK ?_
      refine sE ?_
      refine wKd ?_
      try simp only [go_sem, gA, gB, gC]
      refine wG tK ?_
      refine wDT (hb := (rfl)) (hk := ?_)
      refine wG tK ?_
      refine wU ?_ ?_
      ·rfl
      ·skip
       simp only [pins, List.cons_append, List.nil_append, List.map_cons, List.map_nil]
       repeat' refine ZH ?_ ?_
       all_goals first | exact YH _ | rfl | simp [go_sem, lookU, ha]
def Cutting (c : UInt8) (s : List UInt8) (i : Nat) (done : List (List UInt8)) (cur : List UInt8) : Prop :=
 i ≤ s.length ∧ cutA c done cur (s.drop i) = cutL c s ∧ done.length ≤ i ∧ cur.length ≤ i
theorem cut_ok (s : List UInt8) (c : UInt8) (hs : s.length ≤ 100000000) : FnOK Tryz.prog 103 [.str s, .int .u8 (c.toNat : Int)] [] (fun r _ => r = .sl ((cutL c s).map strRow)) := by
 refine ZF tK (Tryz.func103) rfl (fun C => ?_)
 simp only [Tryz.ntmps103, Tryz.results103, go_sem]
 refine wG tK ?_
 refine cw_le (le_mv 7 20) ?_
 refine ZL (fun x : Nat × List (List UInt8) × List UInt8 => Cutting c s x.1 x.2.1 x.2.2) (fun x => s.length - x.1) (fun x => [(5, .osl 20 1 0 (x.2.1.length + 1)), (6, .any), (7, .any), (10, .int .i64 x.1), (11, .any), (12, .any), (13, .any), (14, .any), (15, .any), (16, .any), (17, .any), (18, .any), (19, .any), (20, .any), (21, .any), (22, .any), (23, .any), (24, .any), (25, .any), (26, .any), (27, .any), (28, .any), (29, .any), (30, .any), (31, .any), (32, .any), (33, .any), (34, .any), (35, .any), (36, .any), (37, .any), (38, .any)]) (fun x => [(20, .cells 9 1 (x.2.1.map strRow ++ [[.str x.2.2]]))]) (0, [], []) ⟨by omega, by rw [List.drop_zero, cutA_cut], by simp, by simp⟩ ?_ fun x hx => ?_
 ·simp only [go_sem]
  exact ZU (by simp [go_sem]) (by simp [go_sem]) (by simp [go_sem])
 obtain ⟨i, done, cur⟩ := x
 obtain ⟨hi, hc, hd, hcl⟩ := hx
 simp only at hi hc hd hcl
 simp only [go_sem]
 refine wG tK ?_
 refine wD (fun h => ?_) (fun h => ?_)
 ·have hlt : i < s.length := by simp at h; omega
  have hw := wi1 (i := i) (by omega)
  have hdr : s.drop i = s.getD i 0 :: s.drop (i + 1) := by
   rw [List.getD_eq_getElem?_getD, List.getElem?_eq_getElem hlt]; simp
  have hdt : (s.take (i + 1)).drop i = [s.getD i 0] := by
   rw [ZT hlt, List.drop_left' (by rw [List.length_take]; omega)]; rfl
  rw [hdr, cutA] at hc
  refine wGq tK ?_ ?_
  ·simp; omega
  generalize s.getD i 0 = x at hc hdt
  refine wD (fun h => ?_) (fun h => ?_)
  ·have hx : x = c := UInt8.toNat_inj.1 (by have : ((x.toNat : Nat) : Int) = c.toNat := (by simpa using h); omega)
   rw [if_pos hx] at hc
   have htk : List.take (done.length + 1) (done.map strRow ++ [[AV.str cur]]) = done.map strRow ++ [[AV.str cur]] := List.take_of_length_le (by simp)
   refine wGq tK ?_ ?_ (by simp only [go_sem, hw]; try exact rfl)
   ·simp [htk, refs]
    exact ⟨by intro row h; simp at h; subst h; rfl, by omega, fun x _ y hy => by simp [strRow] at hy; subst hy; simp [refs]⟩
   refine ZB ⟨(i + 1, done ++ [cur], []), ⟨by omega, hc, by simp; omega, by simp⟩, by simp only; omega, ZU ?_ ?_ ?_⟩
   ·simp [go_sem]
   ·simp [go_sem, htk, strRow]
   ·simp [go_sem]
  ·have hx : ¬ x = c := fun e => by subst e; simp at h
   rw [if_neg hx] at hc
   have hgr : (done.map strRow ++ [[AV.str cur]]).getD done.length [] = [AV.str cur] := by simp [List.getD_eq_getElem?_getD]
   have hsub : IntKind.i64.wrap (((done.length + 1 : Nat) : Int) - 1) = (done.length : Int) := by rw [Eng.wrap_small (by omega) (by omega)]; omega
   refine ZW ZM ?_
   refine ZS rfl ?_
   refine sNq tK 17 ?_ ?_ (by simp only [go_sem]; exact rfl) (by simp only [go_sem]; exact rfl) (by simp only [go_sem, hgr, hsub, hw]; try exact rfl)
   ·simp [hgr, hsub, hw]; omega
   refine sT tK ?_
   refine sE ?_
   refine wKd ?_
   simp only [go_sem, hdt]
   refine wG tK ?_ (by simp only [go_sem, hw]; try exact rfl) (by simp [go_sem, hw])
   refine ZB ⟨(i + 1, done, cur ++ [x]), ⟨by omega, hc, by simp only; omega, by simp; omega⟩, by simp only; omega, ZU ?_ ?_ ?_⟩
   ·simp [go_sem]
   ·simp [go_sem]
   ·simp [go_sem]
 ·have e : i = s.length := by simp at h; omega
  subst e
  rw [List.drop_length, cutA] at hc
  have hrows : done.map strRow ++ [[AV.str cur]] = (cutL c s).map strRow := by rw [← hc]; simp [strRow]
  have hlen : done.length + 1 = (cutL c s).length := by rw [← hc]; simp
  rw [hrows, hlen]
  refine wG tK ?_
  refine ZZ 20 rfl (strRow_pure _) ?_
  refine wT ?_
  simp
end La
