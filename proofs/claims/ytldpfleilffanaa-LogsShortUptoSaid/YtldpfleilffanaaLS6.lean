/- The law LogsShort is true of the program: its statement LogsShortUptoSaid, in this seat's Rows. No condition. -/
import Derived.ChangeArms
import Derived.Test.YtldpfleilffanaaLS5
namespace La
open Go Go.Eng Go.Proofs
set_option maxRecDepth 10000
set_option linter.unusedSimpArgs false
set_option linter.unusedVariables false

theorem mput_at {α : Type} {n : Int} {v : α} [Inhabited α] : ∀ (S : List (Int × α)) (k : Nat), k ≤ S.length → (∀ j, j < k → (S.getD j default).1 < n) → (∀ h : k < S.length, n < (S.getD k default).1) → mput S n v = S.take k ++ (n, v) :: S.drop k
  | [], k, hk, _, _ => by
    have : k = 0 := by simpa using hk
    subst this
    rfl
  | p :: S, 0, _, _, h => by
    have := h (by simp)
    simp only [List.getD_cons_zero] at this
    simp only [mput, List.take_zero, List.drop_zero, List.nil_append]
    rw [if_neg (by omega), if_pos this]
  | p :: S, k + 1, hk, h1, h2 => by
    have h0 := h1 0 (by omega)
    simp only [List.getD_cons_zero] at h0
    have ih := mput_at (n := n) (v := v) S k (by simpa using hk) (fun j hj => by have := h1 (j + 1) (by omega); simpa using this) (fun h => by have := h2 (by simpa using h); simpa using this)
    simp only [mput, List.take_succ_cons, List.drop_succ_cons, List.cons_append]
    rw [if_neg (by omega), if_neg (by omega), ih]

def rowP (p : Int × Node) : List AV := nodeRow p.2
theorem fam_rowP : Fam rowP 5 := ⟨fun _ => rfl, fun _ => rfl, fun _ => rfl, fun _ => rfl⟩
@[go_sem, simp] theorem rowP_rowsOf (l : List _) : Eng.rowsOf 5 (l.map rowP) := fam_rowP.rowsOf l
@[go_sem, simp] theorem rowP_leaf (l : List _) : ((l.map rowP).all fun row => row.all AV.leaf) = true := fam_rowP.allLeaf l
@[go_sem, simp] theorem rowP_pure (l : List _) : ((l.map rowP).all fun row => row.all AV.pureB) = true := fam_rowP.allPure l
@[go_sem, simp] theorem rowP_noRef (id : Nat) (l : List _) : ((l.map rowP).all fun row => row.all fun x => !(refs x).contains id) = true := fam_rowP.noRef id l
@[go_sem, simp] theorem rowP_refsB (e s : Nat) (l : List _) : refsB (.cells e s (l.map rowP)) = [] := fam_rowP.refsB e s l
@[go_sem, simp] theorem rowP_renL (off : Nat) (l : List _) : (l.map rowP).map (renL off) = l.map rowP := Fam.renL (fun _ _ => rfl) off l
@[go_sem, simp] theorem rowP_frzL (id s : Nat) (rows : List (List AV)) (l : List _) : (l.map rowP).map (frzL id s rows) = l.map rowP := Fam.frzL (fun _ _ _ _ => rfl) id s rows l
@[go_sem, simp] theorem rowP_refsL (a) : refsL (rowP a) = [] := fam_rowP.free a

theorem rowP_refs {p : Int × Node} {x : AV} (h : x ∈ rowP p) : refs x = [] := by
  simp only [rowP, nodeRow, List.mem_cons, List.not_mem_nil, or_false] at h
  rcases h with rfl | rfl | rfl | rfl | rfl <;> rfl
theorem row5 (nd : Node) : rowsOf 5 [[AV.int .i64 nd.fid, .bool nd.dir, .sl (nd.data.map byteRow), .sl (nd.entries.map entryRow), .int .i64 nd.version]] := by
  intro row h
  rw [List.mem_singleton] at h
  subst h
  rfl

set_option maxHeartbeats 4000000 in
theorem list_raw (m : List (Int × Node)) (hr : RiseM m) (hkf : ∀ p, p ∈ m → p.2.fid = p.1) (hlen : m.length ≤ 50000000) : FnOK Try.prog 30 [.rm (mN m)] [] (fun r _ => r = .sl (m.map rowP)) := by
  refine fn_of_cwW tabOK (Go.Proofs.Try.func30) rfl (fun C => ?_)
  simp only [Go.Proofs.Try.ntmps30, Go.Proofs.Try.results30, go_sem]
  refine cw_go tabOK 99 (by simp only [go_sem]; try exact rfl) (by simp [go_sem]) ?_
  refine cw_range tabOK rfl rfl rfl (by simp only [go_sem]; try exact rfl) (by simp only [go_sem]; try exact rfl) (by simp only [go_sem]; try exact rfl) ?_
  refine cw_go tabOK 99 (by simp only [go_sem]; try exact rfl) (by simp [go_sem]) ?_
  refine cw_le (le_empty 99 46 5 (by simp only [go_sem]; try exact rfl)) ?_
  simp only [go_sem]
  refine cw_loopS (fun _ : List Int => True) (fun seen => leftM m seen) (fun seen => [(3, .osl 99 5 0 (seenM m seen).length), (5, .any), (6, .any), (9, .any), (10, .any), (11, .any), (12, .any), (13, .any), (14, .any), (15, .any), (16, .any), (17, .any), (18, .any), (19, .any), (20, .any), (21, .any), (22, .any), (23, .any), (24, .any), (25, .any), (26, .any), (27, .any), (28, .any), (29, .any), (30, .any), (31, .any), (32, .any), (33, .any), (34, .any), (35, .any), (36, .any), (37, .any), (38, .any), (39, .any), (40, .any)]) (fun seen => [(99, .cells 46 5 ((seenM m seen).map rowP)), (8, .iter (mN m) seen)]) [] trivial ?_ fun seen _ => ?_
  · simp only [go_sem]
    exact le_sub (by simp [go_sem, seenM_nil]) (by simp [go_sem, seenM_nil, mN_nil]) (by simp [go_sem])
  simp only [go_sem]
  refine cw_goR 99 (by simp only [go_sem]; try exact rfl) ?_
  refine cw_next rfl rfl (by simp only [go_sem]; try exact rfl) (by simp only [go_sem]; try exact rfl) (fun hall => ?_) (fun n v hnv hns => ?_)
  · have hsa : seenM m seen = m := seenM_all fun p hp => hall (p.1, .agg (nodeRow p.2)) (mN_has hp)
    rw [hsa]
    simp only [go_sem]
    refine cw_go tabOK 99 (by simp only [go_sem]; try exact rfl) (by simp [go_sem]) ?_
    refine cw_condF (by simp only [go_sem]; try exact rfl) trivial (rfl) ?_
    refine cw_go tabOK 99 (by simp only [go_sem]; try exact rfl) (by simp [go_sem]) ?_
    refine cw_freeze 99 rfl (rowP_pure _) ?_
    simp only [go_sem]
    refine cw_ret ⟨_, _, (by simp only [go_sem]; try exact rfl), by simp [go_sem], _, .inr (.inl rfl), ?_⟩
    simp
  · obtain ⟨nd, rfl, hmem⟩ := mN_mem hnv
    have hpt := seenM_put hr hmem (seen := seen)
    have hlt := leftM_lt hmem hns
    have hfid : nd.fid = n := hkf _ hmem
    have hsub : ∀ p, p ∈ seenM m seen → p.2.fid = p.1 ∧ p.1 ≠ n := fun p hp => by
      have h1 := List.mem_filter.1 hp
      refine ⟨hkf p h1.1, fun e => hns ?_⟩
      have := h1.2
      rw [e] at this
      simpa using this
    have hsl : (seenM m seen).length ≤ m.length := List.length_filter_le _ _
    have hsr : RiseM (seenM m seen) := hr.filter _
    simp only [go_sem]
    refine cw_go tabOK 99 (by simp only [go_sem]; try exact rfl) (by simp [go_sem]) ?_
    refine cw_condT (by simp only [go_sem]; try exact rfl) trivial (rfl) ?_
    refine cw_goR 99 (by simp only [go_sem]; try exact rfl) ?_
    refine cw_entry rfl rfl (by simp only [go_sem]; try exact rfl) (by simp only [go_sem]; try exact rfl) (hnv) ?_
    simp only [go_sem]
    refine cw_go tabOK 99 (by simp only [go_sem, nodeRow]; try exact rfl) ?_ ?_
    · simp [nodeRow, AV.deepB, AV.pureB]
    clear hlt hnv
    have hlt := leftM_lt hmem hns
    generalize hS : seenM m seen = S at *
    refine cw_loopS (fun k : Nat => k ≤ S.length ∧ ∀ j, j < k → (S.getD j default).1 < n) (fun k => S.length - k) (fun k => [(6, .int .i64 k), (13, .any), (14, .any), (15, .any), (16, .any), (17, .any), (18, .any), (19, .any), (20, .any), (21, .any), (22, .any), (23, .any), (24, .any), (25, .any), (26, .any), (27, .any), (28, .any)]) (fun _ => []) 0 ⟨by omega, by omega⟩ ?_ fun k hk => ?_
    · simp only [go_sem]
      exact le_sub (by simp [go_sem]) (by simp [go_sem]) (by simp [go_sem])
    obtain ⟨hk, hk2⟩ := hk
    simp only [go_sem]
    refine cw_go tabOK 99 (by simp only [go_sem]; try exact rfl) (by simp [go_sem]) ?_
    refine cw_draw mixed ?_
    refine seg_start rfl ?_
    by_cases hkl : k < S.length
    · have hg : (S.map rowP).getD k [] = rowP (S.getD k default) := Fam.getD hkl
      have hw : IntKind.i64.wrap ((k : Int) + 1) = ((k + 1 : Nat) : Int) := by rw [Eng.wrap_small (by omega) (by omega)]; rfl
      have hmk := hsub _ (getD_mem hkl)
      have hat : (∀ h : k < S.length, n < (S.getD k default).1) → mput S n nd = S.take k ++ (n, nd) :: S.drop k := mput_at S k hk hk2
      have hk3 : (S.getD k default).1 < n → ∀ j, j < k + 1 → (S.getD j default).1 < n := fun h0 j hj => by
        rcases Nat.lt_succ_iff_lt_or_eq.1 hj with h1 | rfl
        · exact hk2 j h1
        · exact h0
      generalize S.getD k default = q at hg hmk hat hk3
      refine seg_runN tabOK 14 (by simp only [go_sem]; exact rfl) (by simp only [go_sem]; exact rfl) (by simp only [go_sem, hg, rowP, nodeRow]; try exact rfl) ?_ (by simp only [go_sem]; exact rfl) ?_
      · simp [hg, rowP, nodeRow, hkl]
      refine seg_end (by kernel_rfl) (by simp only [go_sem]; exact rfl) ?_
      refine draw_close (by kernel_rfl) ?_
      try simp only [go_sem, List.getElem_toArray, List.getElem_cons_succ, List.getElem_cons_zero]
      refine cw_cond (by simp only [go_sem]; try exact rfl) trivial (fun h => ?_) (fun h => ?_)
      · have hqn : q.1 < n := by
          rw [← hmk.1, ← hfid]; simpa [hkl] using h
        refine cw_go tabOK 99 (by simp only [go_sem, hw]; try exact rfl) (by simp [go_sem, hw]) ?_
        refine cw_back ⟨k + 1, ⟨by omega, hk3 hqn⟩, by omega, le_sub ?_ ?_ ?_⟩
        · simp [go_sem]
        · simp [go_sem]
        · simp [go_sem]
      · have hqn : ¬ q.1 < n := by
          rw [← hmk.1, ← hfid]; simpa [hkl] using h
        have hput := hat fun _ => by have := hmk.2; omega
        have hA1 : List.take k (S.map rowP) = (S.take k).map rowP := by rw [List.map_take]
        have hB1 : List.take (S.length - k) (List.drop k (S.map rowP)) = (S.drop k).map rowP := by rw [← List.map_drop, List.take_of_length_le (by simp)]
        have hlA : (S.take k).length = k := by rw [List.length_take]; omega
        have hlB : (S.drop k).length = S.length - k := List.length_drop
        generalize S.take k = A at hA1 hlA hput
        generalize S.drop k = B at hB1 hlB hput
        subst hlA
        have htk : List.take (A.length + 1) (A.map rowP ++ [[AV.int .i64 nd.fid, .bool nd.dir, .sl (nd.data.map byteRow), .sl (nd.entries.map entryRow), .int .i64 nd.version]]) = A.map rowP ++ [[AV.int .i64 nd.fid, .bool nd.dir, .sl (nd.data.map byteRow), .sl (nd.entries.map entryRow), .int .i64 nd.version]] := List.take_of_length_le (by simp)
        refine cw_go tabOK 99 (by simp only [go_sem]; try exact rfl) (by simp [go_sem]) ?_
        refine cw_draw mixed ?_
        refine draw_earlyM 1 [0, 2, 3, 4, 5, 6, 7, 8, 9, 10, 11, 12] [0, 0, 1, 2, 3, 4, 5, 6, 7, 8, 9, 10, 11] rfl rfl rfl (fun _ _ _ h => h) (by kernel_rfl) (by kernel_rfl) (by simp [remOps, remOp, renE]; exact rfl) (by simp only [go_sem]; try exact rfl) ?_
        simp only [go_sem, List.getElem_toArray, List.getElem_cons_succ, List.getElem_cons_zero]
        refine draw_earlyM 1 [0, 2, 3, 4, 5, 6, 7, 8, 9, 10, 11] [0, 0, 1, 2, 3, 4, 5, 6, 7, 8, 9, 10] rfl rfl rfl (fun _ _ _ h => h) (by kernel_rfl) (by kernel_rfl) (by simp [remOps, remOp, renE]; exact rfl) (by simp only [go_sem]; try exact rfl) ?_
        simp only [go_sem, List.getElem_toArray, List.getElem_cons_succ, List.getElem_cons_zero]
        refine draw_earlyV 1 [0, 2, 3, 4, 5, 6, 7, 8, 9, 10] [0, 0, 1, 2, 3, 4, 5, 6, 7, 8, 9] rfl rfl (fun _ _ _ h => h) (by kernel_rfl) (by kernel_rfl) (by simp [remOps, remOp, renE]; exact rfl) (slice_any tabOK rfl rfl rfl (by decide) (by simp only [go_sem]; try exact rfl) (.inl ⟨rfl, rfl⟩) (.inr ⟨_, rfl, _, (by simp only [go_sem]; try exact rfl)⟩) (by simp [hk]) (by simp [hk])) ?_
        simp only [go_sem, List.getElem_toArray, List.getElem_cons_succ, List.getElem_cons_zero]
        refine draw_earlyM 5 [0, 1, 2, 3, 4, 6, 7, 8, 9] [0, 1, 2, 3, 4, 0, 5, 6, 7, 8] rfl rfl rfl (fun _ _ _ h => h) (by kernel_rfl) (by kernel_rfl) (by simp [remOps, remOp, renE]; exact rfl) (by simp only [go_sem]; try exact rfl) ?_
        simp only [go_sem, List.getElem_toArray, List.getElem_cons_succ, List.getElem_cons_zero]
        refine draw_earlyM 5 [0, 1, 2, 3, 4, 6, 7, 8] [0, 1, 2, 3, 4, 0, 5, 6, 7] rfl rfl rfl (fun _ _ _ h => h) (by kernel_rfl) (by kernel_rfl) (by simp [remOps, remOp, renE]; exact rfl) (by simp only [go_sem]; try exact rfl) ?_
        simp only [go_sem, List.getElem_toArray, List.getElem_cons_succ, List.getElem_cons_zero]
        refine draw_earlyV 5 [0, 1, 2, 3, 4, 6, 7] [0, 1, 2, 3, 4, 0, 5, 6] rfl rfl (fun _ _ _ h => h) (by kernel_rfl) (by kernel_rfl) (by simp [remOps, remOp, renE]; exact rfl) (slice_any tabOK rfl rfl rfl (by decide) (by simp only [go_sem]; try exact rfl) (.inr ⟨_, rfl, _, (by simp only [go_sem]; try exact rfl)⟩) (.inl ⟨rfl, rfl⟩) (by simp [hk]) (by simp [hk])) ?_
        simp only [go_sem, List.getElem_toArray, List.getElem_cons_succ, List.getElem_cons_zero]
        refine drawD (n := 7) (by kernel_rfl) rfl ?_
        refine drawD_two (i := 0) (j := 2) (by kernel_rfl) rfl rfl rfl rfl (trip_go tabOK rfl (by simp only [go_sem]; try exact rfl) (by simp [go_sem])) (trip_go tabOK rfl (by simp only [go_sem]; try exact rfl) (by simp [go_sem])) ?_ ?_
        · refine drawD_two (i := 1) (j := 2) (by kernel_rfl) rfl rfl rfl rfl (trip_go tabOK rfl (by simp only [go_sem, hA1, hB1, htk, Nat.sub_zero, List.drop_zero, List.length_map, Nat.zero_add, List.getElem_toArray, List.getElem_cons_succ, List.getElem_cons_zero]; try exact rfl) ?_) (trip_go tabOK rfl (by simp only [go_sem, hA1, hB1, htk, Nat.sub_zero, List.drop_zero, List.length_map, Nat.zero_add, List.getElem_toArray, List.getElem_cons_succ, List.getElem_cons_zero]; try exact rfl) ?_) ?_ ?_
          · skip
            try simp only [go_sem, hA1, hB1, htk, Nat.sub_zero, List.drop_zero, List.length_map, Nat.zero_add, List.getElem_toArray, List.getElem_cons_succ, List.getElem_cons_zero]
            simp
            omega
          · skip
            first | trivial | simp [go_sem, hA1, hB1, htk, Nat.sub_zero, List.drop_zero, List.length_map, Nat.zero_add, List.getElem_toArray, List.getElem_cons_succ, List.getElem_cons_zero]
          · try simp only [go_sem, hA1, hB1, htk, Nat.sub_zero, List.drop_zero, List.length_map, Nat.zero_add, List.getElem_toArray, List.getElem_cons_succ, List.getElem_cons_zero]
            refine drawD_one (i := 2) (by kernel_rfl) rfl rfl (trip_go tabOK rfl (by simp only [go_sem]; try exact rfl) (by simp [go_sem])) ?_
            try simp only [go_sem, hA1, hB1, htk, Nat.sub_zero, List.drop_zero, List.length_map, Nat.zero_add, List.getElem_toArray, List.getElem_cons_succ, List.getElem_cons_zero]
            refine drawD_one (i := 3) (by kernel_rfl) rfl rfl (trip_go tabOK rfl (by simp only [go_sem]; try exact rfl) (by simp [go_sem])) ?_
            try simp only [go_sem, hA1, hB1, htk, Nat.sub_zero, List.drop_zero, List.length_map, Nat.zero_add, List.getElem_toArray, List.getElem_cons_succ, List.getElem_cons_zero]
            refine drawD_one (i := 4) (by kernel_rfl) rfl rfl (trip_go tabOK rfl (by simp only [go_sem, hA1, hB1, htk, Nat.sub_zero, List.drop_zero, List.length_map, Nat.zero_add, List.getElem_toArray, List.getElem_cons_succ, List.getElem_cons_zero]; try exact rfl) ?_) ?_
            · simp [go_sem, row5, hA1, hB1, htk, Nat.sub_zero, List.drop_zero, List.length_map, Nat.zero_add, List.getElem_toArray, List.getElem_cons_succ, List.getElem_cons_zero]
              omega
            try simp only [go_sem, hA1, hB1, htk, Nat.sub_zero, List.drop_zero, List.length_map, Nat.zero_add, List.getElem_toArray, List.getElem_cons_succ, List.getElem_cons_zero]
            refine drawD_one (i := 5) (by kernel_rfl) rfl rfl (trip_go tabOK rfl (by simp only [go_sem, hA1, hB1, htk, Nat.sub_zero, List.drop_zero, List.length_map, Nat.zero_add, List.getElem_toArray, List.getElem_cons_succ, List.getElem_cons_zero, hlB]; try exact rfl) ?_) ?_
            · simp [go_sem, hA1, hB1, htk, Nat.sub_zero, List.drop_zero, List.length_map, Nat.zero_add, List.getElem_toArray, List.getElem_cons_succ, List.getElem_cons_zero, hlB]
              omega
            try simp only [go_sem, hA1, hB1, htk, Nat.sub_zero, List.drop_zero, List.length_map, Nat.zero_add, List.getElem_toArray, List.getElem_cons_succ, List.getElem_cons_zero]
            refine drawD_one (i := 6) (by kernel_rfl) rfl rfl (trip_go tabOK rfl (by simp only [go_sem]; try exact rfl) (by simp [go_sem])) ?_
            refine drawD_end (by kernel_rfl) ?_
            simp only [go_sem, List.getElem_toArray, List.getElem_cons_succ, List.getElem_cons_zero]
            refine cw_le (le_drop 99 (by simp only [go_sem, hdel]; exact rfl) (by simp only [go_sem]; try exact rfl) (by simp only [go_sem, kill]; exact rfl)) ?_
            refine cw_le (le_mv 40 99 (by simp only [go_sem]; exact rfl) (by simp only [go_sem]; try exact rfl) (by simp only [go_sem]; try exact rfl) (by simp only [go_sem, hdel]; exact rfl) (by simp only [go_sem]; try exact rfl) (by simp only [go_sem, mv1, kill]; exact rfl)) ?_
            refine cw_go tabOK 99 (by simp only [go_sem]; try exact rfl) (by simp [go_sem]) ?_
            refine cw_back ⟨n :: seen, hlt, le_sub ?_ ?_ ?_⟩
            · simp [go_sem, ← hpt, hput, hlB]
              omega
            · simp [go_sem, ← hpt, hput, rowP, nodeRow, htk, hB1]
            · simp [go_sem]
          · try simp only [go_sem, hA1, hB1, htk, Nat.sub_zero, List.drop_zero, List.length_map, Nat.zero_add, List.getElem_toArray, List.getElem_cons_succ, List.getElem_cons_zero]
            refine drawD_two (i := 1) (j := 3) (by kernel_rfl) rfl rfl rfl rfl (trip_go tabOK rfl (by simp only [go_sem, hA1, hB1, htk, Nat.sub_zero, List.drop_zero, List.length_map, Nat.zero_add, List.getElem_toArray, List.getElem_cons_succ, List.getElem_cons_zero]; try exact rfl) ?_) (trip_go tabOK rfl (by simp only [go_sem, hA1, hB1, htk, Nat.sub_zero, List.drop_zero, List.length_map, Nat.zero_add, List.getElem_toArray, List.getElem_cons_succ, List.getElem_cons_zero]; try exact rfl) ?_) ?_ ?_
            · skip
              try simp only [go_sem, hA1, hB1, htk, Nat.sub_zero, List.drop_zero, List.length_map, Nat.zero_add, List.getElem_toArray, List.getElem_cons_succ, List.getElem_cons_zero]
              simp
              omega
            · skip
              first | trivial | simp [go_sem, hA1, hB1, htk, Nat.sub_zero, List.drop_zero, List.length_map, Nat.zero_add, List.getElem_toArray, List.getElem_cons_succ, List.getElem_cons_zero]
            · try simp only [go_sem, hA1, hB1, htk, Nat.sub_zero, List.drop_zero, List.length_map, Nat.zero_add, List.getElem_toArray, List.getElem_cons_succ, List.getElem_cons_zero]
              refine drawD_one (i := 3) (by kernel_rfl) rfl rfl (trip_go tabOK rfl (by simp only [go_sem]; try exact rfl) (by simp [go_sem])) ?_
              try simp only [go_sem, hA1, hB1, htk, Nat.sub_zero, List.drop_zero, List.length_map, Nat.zero_add, List.getElem_toArray, List.getElem_cons_succ, List.getElem_cons_zero]
              refine drawD_one (i := 4) (by kernel_rfl) rfl rfl (trip_go tabOK rfl (by simp only [go_sem, hA1, hB1, htk, Nat.sub_zero, List.drop_zero, List.length_map, Nat.zero_add, List.getElem_toArray, List.getElem_cons_succ, List.getElem_cons_zero]; try exact rfl) ?_) ?_
              · simp [go_sem, row5, hA1, hB1, htk, Nat.sub_zero, List.drop_zero, List.length_map, Nat.zero_add, List.getElem_toArray, List.getElem_cons_succ, List.getElem_cons_zero]
                omega
              try simp only [go_sem, hA1, hB1, htk, Nat.sub_zero, List.drop_zero, List.length_map, Nat.zero_add, List.getElem_toArray, List.getElem_cons_succ, List.getElem_cons_zero]
              refine drawD_one (i := 5) (by kernel_rfl) rfl rfl (trip_go tabOK rfl (by simp only [go_sem, hA1, hB1, htk, Nat.sub_zero, List.drop_zero, List.length_map, Nat.zero_add, List.getElem_toArray, List.getElem_cons_succ, List.getElem_cons_zero, hlB]; try exact rfl) ?_) ?_
              · simp [go_sem, hA1, hB1, htk, Nat.sub_zero, List.drop_zero, List.length_map, Nat.zero_add, List.getElem_toArray, List.getElem_cons_succ, List.getElem_cons_zero, hlB]
                omega
              try simp only [go_sem, hA1, hB1, htk, Nat.sub_zero, List.drop_zero, List.length_map, Nat.zero_add, List.getElem_toArray, List.getElem_cons_succ, List.getElem_cons_zero]
              refine drawD_one (i := 6) (by kernel_rfl) rfl rfl (trip_go tabOK rfl (by simp only [go_sem]; try exact rfl) (by simp [go_sem])) ?_
              refine drawD_end (by kernel_rfl) ?_
              simp only [go_sem, List.getElem_toArray, List.getElem_cons_succ, List.getElem_cons_zero]
              refine cw_le (le_drop 99 (by simp only [go_sem, hdel]; exact rfl) (by simp only [go_sem]; try exact rfl) (by simp only [go_sem, kill]; exact rfl)) ?_
              refine cw_le (le_mv 40 99 (by simp only [go_sem]; exact rfl) (by simp only [go_sem]; try exact rfl) (by simp only [go_sem]; try exact rfl) (by simp only [go_sem, hdel]; exact rfl) (by simp only [go_sem]; try exact rfl) (by simp only [go_sem, mv1, kill]; exact rfl)) ?_
              refine cw_go tabOK 99 (by simp only [go_sem]; try exact rfl) (by simp [go_sem]) ?_
              refine cw_back ⟨n :: seen, hlt, le_sub ?_ ?_ ?_⟩
              · simp [go_sem, ← hpt, hput, hlB]
                omega
              · simp [go_sem, ← hpt, hput, rowP, nodeRow, htk, hB1]
              · simp [go_sem]
            · try simp only [go_sem, hA1, hB1, htk, Nat.sub_zero, List.drop_zero, List.length_map, Nat.zero_add, List.getElem_toArray, List.getElem_cons_succ, List.getElem_cons_zero]
              refine drawD_one (i := 1) (by kernel_rfl) rfl rfl (trip_go tabOK rfl (by simp only [go_sem, hA1, hB1, htk, Nat.sub_zero, List.drop_zero, List.length_map, Nat.zero_add, List.getElem_toArray, List.getElem_cons_succ, List.getElem_cons_zero]; try exact rfl) ?_) ?_
              · skip
                try simp only [go_sem, hA1, hB1, htk, Nat.sub_zero, List.drop_zero, List.length_map, Nat.zero_add, List.getElem_toArray, List.getElem_cons_succ, List.getElem_cons_zero]
                simp
                omega
              try simp only [go_sem, hA1, hB1, htk, Nat.sub_zero, List.drop_zero, List.length_map, Nat.zero_add, List.getElem_toArray, List.getElem_cons_succ, List.getElem_cons_zero]
              refine drawD_one (i := 4) (by kernel_rfl) rfl rfl (trip_go tabOK rfl (by simp only [go_sem, hA1, hB1, htk, Nat.sub_zero, List.drop_zero, List.length_map, Nat.zero_add, List.getElem_toArray, List.getElem_cons_succ, List.getElem_cons_zero]; try exact rfl) ?_) ?_
              · simp [go_sem, row5, hA1, hB1, htk, Nat.sub_zero, List.drop_zero, List.length_map, Nat.zero_add, List.getElem_toArray, List.getElem_cons_succ, List.getElem_cons_zero]
                omega
              try simp only [go_sem, hA1, hB1, htk, Nat.sub_zero, List.drop_zero, List.length_map, Nat.zero_add, List.getElem_toArray, List.getElem_cons_succ, List.getElem_cons_zero]
              refine drawD_one (i := 5) (by kernel_rfl) rfl rfl (trip_go tabOK rfl (by simp only [go_sem, hA1, hB1, htk, Nat.sub_zero, List.drop_zero, List.length_map, Nat.zero_add, List.getElem_toArray, List.getElem_cons_succ, List.getElem_cons_zero, hlB]; try exact rfl) ?_) ?_
              · simp [go_sem, hA1, hB1, htk, Nat.sub_zero, List.drop_zero, List.length_map, Nat.zero_add, List.getElem_toArray, List.getElem_cons_succ, List.getElem_cons_zero, hlB]
                omega
              try simp only [go_sem, hA1, hB1, htk, Nat.sub_zero, List.drop_zero, List.length_map, Nat.zero_add, List.getElem_toArray, List.getElem_cons_succ, List.getElem_cons_zero]
              refine drawD_one (i := 6) (by kernel_rfl) rfl rfl (trip_go tabOK rfl (by simp only [go_sem]; try exact rfl) (by simp [go_sem])) ?_
              refine drawD_end (by kernel_rfl) ?_
              simp only [go_sem, List.getElem_toArray, List.getElem_cons_succ, List.getElem_cons_zero]
              refine cw_le (le_drop 99 (by simp only [go_sem, hdel]; exact rfl) (by simp only [go_sem]; try exact rfl) (by simp only [go_sem, kill]; exact rfl)) ?_
              refine cw_le (le_mv 40 99 (by simp only [go_sem]; exact rfl) (by simp only [go_sem]; try exact rfl) (by simp only [go_sem]; try exact rfl) (by simp only [go_sem, hdel]; exact rfl) (by simp only [go_sem]; try exact rfl) (by simp only [go_sem, mv1, kill]; exact rfl)) ?_
              refine cw_go tabOK 99 (by simp only [go_sem]; try exact rfl) (by simp [go_sem]) ?_
              refine cw_back ⟨n :: seen, hlt, le_sub ?_ ?_ ?_⟩
              · simp [go_sem, ← hpt, hput, hlB]
                omega
              · simp [go_sem, ← hpt, hput, rowP, nodeRow, htk, hB1]
              · simp [go_sem]
        · try simp only [go_sem, hA1, hB1, htk, Nat.sub_zero, List.drop_zero, List.length_map, Nat.zero_add, List.getElem_toArray, List.getElem_cons_succ, List.getElem_cons_zero]
          refine drawD_two (i := 0) (j := 3) (by kernel_rfl) rfl rfl rfl rfl (trip_go tabOK rfl (by simp only [go_sem, hA1, hB1, htk, Nat.sub_zero, List.drop_zero, List.length_map, Nat.zero_add, List.getElem_toArray, List.getElem_cons_succ, List.getElem_cons_zero]; try exact rfl) ?_) (trip_go tabOK rfl (by simp only [go_sem, hA1, hB1, htk, Nat.sub_zero, List.drop_zero, List.length_map, Nat.zero_add, List.getElem_toArray, List.getElem_cons_succ, List.getElem_cons_zero]; try exact rfl) ?_) ?_ ?_
          · skip
            first | trivial | simp [go_sem, hA1, hB1, htk, Nat.sub_zero, List.drop_zero, List.length_map, Nat.zero_add, List.getElem_toArray, List.getElem_cons_succ, List.getElem_cons_zero]
          · skip
            first | trivial | simp [go_sem, hA1, hB1, htk, Nat.sub_zero, List.drop_zero, List.length_map, Nat.zero_add, List.getElem_toArray, List.getElem_cons_succ, List.getElem_cons_zero]
          · try simp only [go_sem, hA1, hB1, htk, Nat.sub_zero, List.drop_zero, List.length_map, Nat.zero_add, List.getElem_toArray, List.getElem_cons_succ, List.getElem_cons_zero]
            refine drawD_two (i := 1) (j := 3) (by kernel_rfl) rfl rfl rfl rfl (trip_go tabOK rfl (by simp only [go_sem, hA1, hB1, htk, Nat.sub_zero, List.drop_zero, List.length_map, Nat.zero_add, List.getElem_toArray, List.getElem_cons_succ, List.getElem_cons_zero]; try exact rfl) ?_) (trip_go tabOK rfl (by simp only [go_sem, hA1, hB1, htk, Nat.sub_zero, List.drop_zero, List.length_map, Nat.zero_add, List.getElem_toArray, List.getElem_cons_succ, List.getElem_cons_zero]; try exact rfl) ?_) ?_ ?_
            · skip
              try simp only [go_sem, hA1, hB1, htk, Nat.sub_zero, List.drop_zero, List.length_map, Nat.zero_add, List.getElem_toArray, List.getElem_cons_succ, List.getElem_cons_zero]
              simp
              omega
            · skip
              first | trivial | simp [go_sem, hA1, hB1, htk, Nat.sub_zero, List.drop_zero, List.length_map, Nat.zero_add, List.getElem_toArray, List.getElem_cons_succ, List.getElem_cons_zero]
            · try simp only [go_sem, hA1, hB1, htk, Nat.sub_zero, List.drop_zero, List.length_map, Nat.zero_add, List.getElem_toArray, List.getElem_cons_succ, List.getElem_cons_zero]
              refine drawD_one (i := 3) (by kernel_rfl) rfl rfl (trip_go tabOK rfl (by simp only [go_sem]; try exact rfl) (by simp [go_sem])) ?_
              try simp only [go_sem, hA1, hB1, htk, Nat.sub_zero, List.drop_zero, List.length_map, Nat.zero_add, List.getElem_toArray, List.getElem_cons_succ, List.getElem_cons_zero]
              refine drawD_one (i := 4) (by kernel_rfl) rfl rfl (trip_go tabOK rfl (by simp only [go_sem, hA1, hB1, htk, Nat.sub_zero, List.drop_zero, List.length_map, Nat.zero_add, List.getElem_toArray, List.getElem_cons_succ, List.getElem_cons_zero]; try exact rfl) ?_) ?_
              · simp [go_sem, row5, hA1, hB1, htk, Nat.sub_zero, List.drop_zero, List.length_map, Nat.zero_add, List.getElem_toArray, List.getElem_cons_succ, List.getElem_cons_zero]
                omega
              try simp only [go_sem, hA1, hB1, htk, Nat.sub_zero, List.drop_zero, List.length_map, Nat.zero_add, List.getElem_toArray, List.getElem_cons_succ, List.getElem_cons_zero]
              refine drawD_one (i := 5) (by kernel_rfl) rfl rfl (trip_go tabOK rfl (by simp only [go_sem, hA1, hB1, htk, Nat.sub_zero, List.drop_zero, List.length_map, Nat.zero_add, List.getElem_toArray, List.getElem_cons_succ, List.getElem_cons_zero, hlB]; try exact rfl) ?_) ?_
              · simp [go_sem, hA1, hB1, htk, Nat.sub_zero, List.drop_zero, List.length_map, Nat.zero_add, List.getElem_toArray, List.getElem_cons_succ, List.getElem_cons_zero, hlB]
                omega
              try simp only [go_sem, hA1, hB1, htk, Nat.sub_zero, List.drop_zero, List.length_map, Nat.zero_add, List.getElem_toArray, List.getElem_cons_succ, List.getElem_cons_zero]
              refine drawD_one (i := 6) (by kernel_rfl) rfl rfl (trip_go tabOK rfl (by simp only [go_sem]; try exact rfl) (by simp [go_sem])) ?_
              refine drawD_end (by kernel_rfl) ?_
              simp only [go_sem, List.getElem_toArray, List.getElem_cons_succ, List.getElem_cons_zero]
              refine cw_le (le_drop 99 (by simp only [go_sem, hdel]; exact rfl) (by simp only [go_sem]; try exact rfl) (by simp only [go_sem, kill]; exact rfl)) ?_
              refine cw_le (le_mv 40 99 (by simp only [go_sem]; exact rfl) (by simp only [go_sem]; try exact rfl) (by simp only [go_sem]; try exact rfl) (by simp only [go_sem, hdel]; exact rfl) (by simp only [go_sem]; try exact rfl) (by simp only [go_sem, mv1, kill]; exact rfl)) ?_
              refine cw_go tabOK 99 (by simp only [go_sem]; try exact rfl) (by simp [go_sem]) ?_
              refine cw_back ⟨n :: seen, hlt, le_sub ?_ ?_ ?_⟩
              · simp [go_sem, ← hpt, hput, hlB]
                omega
              · simp [go_sem, ← hpt, hput, rowP, nodeRow, htk, hB1]
              · simp [go_sem]
            · try simp only [go_sem, hA1, hB1, htk, Nat.sub_zero, List.drop_zero, List.length_map, Nat.zero_add, List.getElem_toArray, List.getElem_cons_succ, List.getElem_cons_zero]
              refine drawD_one (i := 1) (by kernel_rfl) rfl rfl (trip_go tabOK rfl (by simp only [go_sem, hA1, hB1, htk, Nat.sub_zero, List.drop_zero, List.length_map, Nat.zero_add, List.getElem_toArray, List.getElem_cons_succ, List.getElem_cons_zero]; try exact rfl) ?_) ?_
              · skip
                try simp only [go_sem, hA1, hB1, htk, Nat.sub_zero, List.drop_zero, List.length_map, Nat.zero_add, List.getElem_toArray, List.getElem_cons_succ, List.getElem_cons_zero]
                simp
                omega
              try simp only [go_sem, hA1, hB1, htk, Nat.sub_zero, List.drop_zero, List.length_map, Nat.zero_add, List.getElem_toArray, List.getElem_cons_succ, List.getElem_cons_zero]
              refine drawD_one (i := 4) (by kernel_rfl) rfl rfl (trip_go tabOK rfl (by simp only [go_sem, hA1, hB1, htk, Nat.sub_zero, List.drop_zero, List.length_map, Nat.zero_add, List.getElem_toArray, List.getElem_cons_succ, List.getElem_cons_zero]; try exact rfl) ?_) ?_
              · simp [go_sem, row5, hA1, hB1, htk, Nat.sub_zero, List.drop_zero, List.length_map, Nat.zero_add, List.getElem_toArray, List.getElem_cons_succ, List.getElem_cons_zero]
                omega
              try simp only [go_sem, hA1, hB1, htk, Nat.sub_zero, List.drop_zero, List.length_map, Nat.zero_add, List.getElem_toArray, List.getElem_cons_succ, List.getElem_cons_zero]
              refine drawD_one (i := 5) (by kernel_rfl) rfl rfl (trip_go tabOK rfl (by simp only [go_sem, hA1, hB1, htk, Nat.sub_zero, List.drop_zero, List.length_map, Nat.zero_add, List.getElem_toArray, List.getElem_cons_succ, List.getElem_cons_zero, hlB]; try exact rfl) ?_) ?_
              · simp [go_sem, hA1, hB1, htk, Nat.sub_zero, List.drop_zero, List.length_map, Nat.zero_add, List.getElem_toArray, List.getElem_cons_succ, List.getElem_cons_zero, hlB]
                omega
              try simp only [go_sem, hA1, hB1, htk, Nat.sub_zero, List.drop_zero, List.length_map, Nat.zero_add, List.getElem_toArray, List.getElem_cons_succ, List.getElem_cons_zero]
              refine drawD_one (i := 6) (by kernel_rfl) rfl rfl (trip_go tabOK rfl (by simp only [go_sem]; try exact rfl) (by simp [go_sem])) ?_
              refine drawD_end (by kernel_rfl) ?_
              simp only [go_sem, List.getElem_toArray, List.getElem_cons_succ, List.getElem_cons_zero]
              refine cw_le (le_drop 99 (by simp only [go_sem, hdel]; exact rfl) (by simp only [go_sem]; try exact rfl) (by simp only [go_sem, kill]; exact rfl)) ?_
              refine cw_le (le_mv 40 99 (by simp only [go_sem]; exact rfl) (by simp only [go_sem]; try exact rfl) (by simp only [go_sem]; try exact rfl) (by simp only [go_sem, hdel]; exact rfl) (by simp only [go_sem]; try exact rfl) (by simp only [go_sem, mv1, kill]; exact rfl)) ?_
              refine cw_go tabOK 99 (by simp only [go_sem]; try exact rfl) (by simp [go_sem]) ?_
              refine cw_back ⟨n :: seen, hlt, le_sub ?_ ?_ ?_⟩
              · simp [go_sem, ← hpt, hput, hlB]
                omega
              · simp [go_sem, ← hpt, hput, rowP, nodeRow, htk, hB1]
              · simp [go_sem]
          · try simp only [go_sem, hA1, hB1, htk, Nat.sub_zero, List.drop_zero, List.length_map, Nat.zero_add, List.getElem_toArray, List.getElem_cons_succ, List.getElem_cons_zero]
            refine drawD_one (i := 0) (by kernel_rfl) rfl rfl (trip_go tabOK rfl (by simp only [go_sem]; try exact rfl) (by simp [go_sem])) ?_
            try simp only [go_sem, hA1, hB1, htk, Nat.sub_zero, List.drop_zero, List.length_map, Nat.zero_add, List.getElem_toArray, List.getElem_cons_succ, List.getElem_cons_zero]
            refine drawD_one (i := 1) (by kernel_rfl) rfl rfl (trip_go tabOK rfl (by simp only [go_sem, hA1, hB1, htk, Nat.sub_zero, List.drop_zero, List.length_map, Nat.zero_add, List.getElem_toArray, List.getElem_cons_succ, List.getElem_cons_zero]; try exact rfl) ?_) ?_
            · skip
              try simp only [go_sem, hA1, hB1, htk, Nat.sub_zero, List.drop_zero, List.length_map, Nat.zero_add, List.getElem_toArray, List.getElem_cons_succ, List.getElem_cons_zero]
              simp
              omega
            try simp only [go_sem, hA1, hB1, htk, Nat.sub_zero, List.drop_zero, List.length_map, Nat.zero_add, List.getElem_toArray, List.getElem_cons_succ, List.getElem_cons_zero]
            refine drawD_one (i := 4) (by kernel_rfl) rfl rfl (trip_go tabOK rfl (by simp only [go_sem, hA1, hB1, htk, Nat.sub_zero, List.drop_zero, List.length_map, Nat.zero_add, List.getElem_toArray, List.getElem_cons_succ, List.getElem_cons_zero]; try exact rfl) ?_) ?_
            · simp [go_sem, row5, hA1, hB1, htk, Nat.sub_zero, List.drop_zero, List.length_map, Nat.zero_add, List.getElem_toArray, List.getElem_cons_succ, List.getElem_cons_zero]
              omega
            try simp only [go_sem, hA1, hB1, htk, Nat.sub_zero, List.drop_zero, List.length_map, Nat.zero_add, List.getElem_toArray, List.getElem_cons_succ, List.getElem_cons_zero]
            refine drawD_one (i := 5) (by kernel_rfl) rfl rfl (trip_go tabOK rfl (by simp only [go_sem, hA1, hB1, htk, Nat.sub_zero, List.drop_zero, List.length_map, Nat.zero_add, List.getElem_toArray, List.getElem_cons_succ, List.getElem_cons_zero, hlB]; try exact rfl) ?_) ?_
            · simp [go_sem, hA1, hB1, htk, Nat.sub_zero, List.drop_zero, List.length_map, Nat.zero_add, List.getElem_toArray, List.getElem_cons_succ, List.getElem_cons_zero, hlB]
              omega
            try simp only [go_sem, hA1, hB1, htk, Nat.sub_zero, List.drop_zero, List.length_map, Nat.zero_add, List.getElem_toArray, List.getElem_cons_succ, List.getElem_cons_zero]
            refine drawD_one (i := 6) (by kernel_rfl) rfl rfl (trip_go tabOK rfl (by simp only [go_sem]; try exact rfl) (by simp [go_sem])) ?_
            refine drawD_end (by kernel_rfl) ?_
            simp only [go_sem, List.getElem_toArray, List.getElem_cons_succ, List.getElem_cons_zero]
            refine cw_le (le_drop 99 (by simp only [go_sem, hdel]; exact rfl) (by simp only [go_sem]; try exact rfl) (by simp only [go_sem, kill]; exact rfl)) ?_
            refine cw_le (le_mv 40 99 (by simp only [go_sem]; exact rfl) (by simp only [go_sem]; try exact rfl) (by simp only [go_sem]; try exact rfl) (by simp only [go_sem, hdel]; exact rfl) (by simp only [go_sem]; try exact rfl) (by simp only [go_sem, mv1, kill]; exact rfl)) ?_
            refine cw_go tabOK 99 (by simp only [go_sem]; try exact rfl) (by simp [go_sem]) ?_
            refine cw_back ⟨n :: seen, hlt, le_sub ?_ ?_ ?_⟩
            · simp [go_sem, ← hpt, hput, hlB]
              omega
            · simp [go_sem, ← hpt, hput, rowP, nodeRow, htk, hB1]
            · simp [go_sem]
    · have hkl2 : k = S.length := by omega
      have hput : mput S n nd = S.take k ++ (n, nd) :: S.drop k := mput_at S k hk hk2 fun h => absurd h hkl
      have hdf : decide ((k : Int) < (S.length : Int)) = false := decide_eq_false (by omega)
      refine seg_runN tabOK 5 (by simp only [go_sem]; exact rfl) (by simp only [go_sem]; exact rfl) (by simp only [go_sem]; try exact rfl) (by simp [go_sem]) (by simp only [go_sem]; exact rfl) ?_
      rw [hdf]
      iterate 7 refine seg_skip .any (by simp only [go_sem]; try exact rfl) (by simp only [go_sem]; exact rfl) (by simp only [go_sem]; exact rfl) ?_
      refine seg_skip (.bool false) (by simp only [go_sem]; try exact rfl) (by simp only [go_sem]; exact rfl) (by simp only [go_sem]; exact rfl) ?_
      refine seg_runN tabOK 1 (by simp only [go_sem]; exact rfl) (by simp only [go_sem]; exact rfl) (by simp only [go_sem]; try exact rfl) (by simp [go_sem]) (by simp only [go_sem]; exact rfl) ?_
      refine seg_end (by kernel_rfl) (by simp only [go_sem]; exact rfl) ?_
      refine draw_close (by kernel_rfl) ?_
      try simp only [go_sem, List.getElem_toArray, List.getElem_cons_succ, List.getElem_cons_zero]
      refine cw_cond (by simp only [go_sem]; try exact rfl) trivial (fun h => ?_) (fun h => ?_)
      · exfalso; simp at h
      have hA1 : List.take k (S.map rowP) = (S.take k).map rowP := by rw [List.map_take]
      have hB1 : List.take (S.length - k) (List.drop k (S.map rowP)) = (S.drop k).map rowP := by rw [← List.map_drop, List.take_of_length_le (by simp)]
      have hlA : (S.take k).length = k := by rw [List.length_take]; omega
      have hlB : (S.drop k).length = S.length - k := List.length_drop
      generalize S.take k = A at hA1 hlA hput
      generalize S.drop k = B at hB1 hlB hput
      subst hlA
      have htk : List.take (A.length + 1) (A.map rowP ++ [[AV.int .i64 nd.fid, .bool nd.dir, .sl (nd.data.map byteRow), .sl (nd.entries.map entryRow), .int .i64 nd.version]]) = A.map rowP ++ [[AV.int .i64 nd.fid, .bool nd.dir, .sl (nd.data.map byteRow), .sl (nd.entries.map entryRow), .int .i64 nd.version]] := List.take_of_length_le (by simp)
      refine cw_go tabOK 99 (by simp only [go_sem]; try exact rfl) (by simp [go_sem]) ?_
      refine cw_draw mixed ?_
      refine draw_earlyM 1 [0, 2, 3, 4, 5, 6, 7, 8, 9, 10, 11, 12] [0, 0, 1, 2, 3, 4, 5, 6, 7, 8, 9, 10, 11] rfl rfl rfl (fun _ _ _ h => h) (by kernel_rfl) (by kernel_rfl) (by simp [remOps, remOp, renE]; exact rfl) (by simp only [go_sem]; try exact rfl) ?_
      simp only [go_sem, List.getElem_toArray, List.getElem_cons_succ, List.getElem_cons_zero]
      refine draw_earlyM 1 [0, 2, 3, 4, 5, 6, 7, 8, 9, 10, 11] [0, 0, 1, 2, 3, 4, 5, 6, 7, 8, 9, 10] rfl rfl rfl (fun _ _ _ h => h) (by kernel_rfl) (by kernel_rfl) (by simp [remOps, remOp, renE]; exact rfl) (by simp only [go_sem]; try exact rfl) ?_
      simp only [go_sem, List.getElem_toArray, List.getElem_cons_succ, List.getElem_cons_zero]
      refine draw_earlyV 1 [0, 2, 3, 4, 5, 6, 7, 8, 9, 10] [0, 0, 1, 2, 3, 4, 5, 6, 7, 8, 9] rfl rfl (fun _ _ _ h => h) (by kernel_rfl) (by kernel_rfl) (by simp [remOps, remOp, renE]; exact rfl) (slice_any tabOK rfl rfl rfl (by decide) (by simp only [go_sem]; try exact rfl) (.inl ⟨rfl, rfl⟩) (.inr ⟨_, rfl, _, (by simp only [go_sem]; try exact rfl)⟩) (by simp [hk]) (by simp [hk])) ?_
      simp only [go_sem, List.getElem_toArray, List.getElem_cons_succ, List.getElem_cons_zero]
      refine draw_earlyM 5 [0, 1, 2, 3, 4, 6, 7, 8, 9] [0, 1, 2, 3, 4, 0, 5, 6, 7, 8] rfl rfl rfl (fun _ _ _ h => h) (by kernel_rfl) (by kernel_rfl) (by simp [remOps, remOp, renE]; exact rfl) (by simp only [go_sem]; try exact rfl) ?_
      simp only [go_sem, List.getElem_toArray, List.getElem_cons_succ, List.getElem_cons_zero]
      refine draw_earlyM 5 [0, 1, 2, 3, 4, 6, 7, 8] [0, 1, 2, 3, 4, 0, 5, 6, 7] rfl rfl rfl (fun _ _ _ h => h) (by kernel_rfl) (by kernel_rfl) (by simp [remOps, remOp, renE]; exact rfl) (by simp only [go_sem]; try exact rfl) ?_
      simp only [go_sem, List.getElem_toArray, List.getElem_cons_succ, List.getElem_cons_zero]
      refine draw_earlyV 5 [0, 1, 2, 3, 4, 6, 7] [0, 1, 2, 3, 4, 0, 5, 6] rfl rfl (fun _ _ _ h => h) (by kernel_rfl) (by kernel_rfl) (by simp [remOps, remOp, renE]; exact rfl) (slice_any tabOK rfl rfl rfl (by decide) (by simp only [go_sem]; try exact rfl) (.inr ⟨_, rfl, _, (by simp only [go_sem]; try exact rfl)⟩) (.inl ⟨rfl, rfl⟩) (by simp [hk]) (by simp [hk])) ?_
      simp only [go_sem, List.getElem_toArray, List.getElem_cons_succ, List.getElem_cons_zero]
      refine drawD (n := 7) (by kernel_rfl) rfl ?_
      refine drawD_two (i := 0) (j := 2) (by kernel_rfl) rfl rfl rfl rfl (trip_go tabOK rfl (by simp only [go_sem]; try exact rfl) (by simp [go_sem])) (trip_go tabOK rfl (by simp only [go_sem]; try exact rfl) (by simp [go_sem])) ?_ ?_
      · refine drawD_two (i := 1) (j := 2) (by kernel_rfl) rfl rfl rfl rfl (trip_go tabOK rfl (by simp only [go_sem, hA1, hB1, htk, Nat.sub_zero, List.drop_zero, List.length_map, Nat.zero_add, List.getElem_toArray, List.getElem_cons_succ, List.getElem_cons_zero]; try exact rfl) ?_) (trip_go tabOK rfl (by simp only [go_sem, hA1, hB1, htk, Nat.sub_zero, List.drop_zero, List.length_map, Nat.zero_add, List.getElem_toArray, List.getElem_cons_succ, List.getElem_cons_zero]; try exact rfl) ?_) ?_ ?_
        · skip
          try simp only [go_sem, hA1, hB1, htk, Nat.sub_zero, List.drop_zero, List.length_map, Nat.zero_add, List.getElem_toArray, List.getElem_cons_succ, List.getElem_cons_zero]
          simp
          omega
        · skip
          first | trivial | simp [go_sem, hA1, hB1, htk, Nat.sub_zero, List.drop_zero, List.length_map, Nat.zero_add, List.getElem_toArray, List.getElem_cons_succ, List.getElem_cons_zero]
        · try simp only [go_sem, hA1, hB1, htk, Nat.sub_zero, List.drop_zero, List.length_map, Nat.zero_add, List.getElem_toArray, List.getElem_cons_succ, List.getElem_cons_zero]
          refine drawD_one (i := 2) (by kernel_rfl) rfl rfl (trip_go tabOK rfl (by simp only [go_sem]; try exact rfl) (by simp [go_sem])) ?_
          try simp only [go_sem, hA1, hB1, htk, Nat.sub_zero, List.drop_zero, List.length_map, Nat.zero_add, List.getElem_toArray, List.getElem_cons_succ, List.getElem_cons_zero]
          refine drawD_one (i := 3) (by kernel_rfl) rfl rfl (trip_go tabOK rfl (by simp only [go_sem]; try exact rfl) (by simp [go_sem])) ?_
          try simp only [go_sem, hA1, hB1, htk, Nat.sub_zero, List.drop_zero, List.length_map, Nat.zero_add, List.getElem_toArray, List.getElem_cons_succ, List.getElem_cons_zero]
          refine drawD_one (i := 4) (by kernel_rfl) rfl rfl (trip_go tabOK rfl (by simp only [go_sem, hA1, hB1, htk, Nat.sub_zero, List.drop_zero, List.length_map, Nat.zero_add, List.getElem_toArray, List.getElem_cons_succ, List.getElem_cons_zero]; try exact rfl) ?_) ?_
          · simp [go_sem, row5, hA1, hB1, htk, Nat.sub_zero, List.drop_zero, List.length_map, Nat.zero_add, List.getElem_toArray, List.getElem_cons_succ, List.getElem_cons_zero]
            omega
          try simp only [go_sem, hA1, hB1, htk, Nat.sub_zero, List.drop_zero, List.length_map, Nat.zero_add, List.getElem_toArray, List.getElem_cons_succ, List.getElem_cons_zero]
          refine drawD_one (i := 5) (by kernel_rfl) rfl rfl (trip_go tabOK rfl (by simp only [go_sem, hA1, hB1, htk, Nat.sub_zero, List.drop_zero, List.length_map, Nat.zero_add, List.getElem_toArray, List.getElem_cons_succ, List.getElem_cons_zero, hlB]; try exact rfl) ?_) ?_
          · simp [go_sem, hA1, hB1, htk, Nat.sub_zero, List.drop_zero, List.length_map, Nat.zero_add, List.getElem_toArray, List.getElem_cons_succ, List.getElem_cons_zero, hlB]
            omega
          try simp only [go_sem, hA1, hB1, htk, Nat.sub_zero, List.drop_zero, List.length_map, Nat.zero_add, List.getElem_toArray, List.getElem_cons_succ, List.getElem_cons_zero]
          refine drawD_one (i := 6) (by kernel_rfl) rfl rfl (trip_go tabOK rfl (by simp only [go_sem]; try exact rfl) (by simp [go_sem])) ?_
          refine drawD_end (by kernel_rfl) ?_
          simp only [go_sem, List.getElem_toArray, List.getElem_cons_succ, List.getElem_cons_zero]
          refine cw_le (le_drop 99 (by simp only [go_sem, hdel]; exact rfl) (by simp only [go_sem]; try exact rfl) (by simp only [go_sem, kill]; exact rfl)) ?_
          refine cw_le (le_mv 40 99 (by simp only [go_sem]; exact rfl) (by simp only [go_sem]; try exact rfl) (by simp only [go_sem]; try exact rfl) (by simp only [go_sem, hdel]; exact rfl) (by simp only [go_sem]; try exact rfl) (by simp only [go_sem, mv1, kill]; exact rfl)) ?_
          refine cw_go tabOK 99 (by simp only [go_sem]; try exact rfl) (by simp [go_sem]) ?_
          refine cw_back ⟨n :: seen, hlt, le_sub ?_ ?_ ?_⟩
          · simp [go_sem, ← hpt, hput, hlB]
            omega
          · simp [go_sem, ← hpt, hput, rowP, nodeRow, htk, hB1]
          · simp [go_sem]
        · try simp only [go_sem, hA1, hB1, htk, Nat.sub_zero, List.drop_zero, List.length_map, Nat.zero_add, List.getElem_toArray, List.getElem_cons_succ, List.getElem_cons_zero]
          refine drawD_two (i := 1) (j := 3) (by kernel_rfl) rfl rfl rfl rfl (trip_go tabOK rfl (by simp only [go_sem, hA1, hB1, htk, Nat.sub_zero, List.drop_zero, List.length_map, Nat.zero_add, List.getElem_toArray, List.getElem_cons_succ, List.getElem_cons_zero]; try exact rfl) ?_) (trip_go tabOK rfl (by simp only [go_sem, hA1, hB1, htk, Nat.sub_zero, List.drop_zero, List.length_map, Nat.zero_add, List.getElem_toArray, List.getElem_cons_succ, List.getElem_cons_zero]; try exact rfl) ?_) ?_ ?_
          · skip
            try simp only [go_sem, hA1, hB1, htk, Nat.sub_zero, List.drop_zero, List.length_map, Nat.zero_add, List.getElem_toArray, List.getElem_cons_succ, List.getElem_cons_zero]
            simp
            omega
          · skip
            first | trivial | simp [go_sem, hA1, hB1, htk, Nat.sub_zero, List.drop_zero, List.length_map, Nat.zero_add, List.getElem_toArray, List.getElem_cons_succ, List.getElem_cons_zero]
          · try simp only [go_sem, hA1, hB1, htk, Nat.sub_zero, List.drop_zero, List.length_map, Nat.zero_add, List.getElem_toArray, List.getElem_cons_succ, List.getElem_cons_zero]
            refine drawD_one (i := 3) (by kernel_rfl) rfl rfl (trip_go tabOK rfl (by simp only [go_sem]; try exact rfl) (by simp [go_sem])) ?_
            try simp only [go_sem, hA1, hB1, htk, Nat.sub_zero, List.drop_zero, List.length_map, Nat.zero_add, List.getElem_toArray, List.getElem_cons_succ, List.getElem_cons_zero]
            refine drawD_one (i := 4) (by kernel_rfl) rfl rfl (trip_go tabOK rfl (by simp only [go_sem, hA1, hB1, htk, Nat.sub_zero, List.drop_zero, List.length_map, Nat.zero_add, List.getElem_toArray, List.getElem_cons_succ, List.getElem_cons_zero]; try exact rfl) ?_) ?_
            · simp [go_sem, row5, hA1, hB1, htk, Nat.sub_zero, List.drop_zero, List.length_map, Nat.zero_add, List.getElem_toArray, List.getElem_cons_succ, List.getElem_cons_zero]
              omega
            try simp only [go_sem, hA1, hB1, htk, Nat.sub_zero, List.drop_zero, List.length_map, Nat.zero_add, List.getElem_toArray, List.getElem_cons_succ, List.getElem_cons_zero]
            refine drawD_one (i := 5) (by kernel_rfl) rfl rfl (trip_go tabOK rfl (by simp only [go_sem, hA1, hB1, htk, Nat.sub_zero, List.drop_zero, List.length_map, Nat.zero_add, List.getElem_toArray, List.getElem_cons_succ, List.getElem_cons_zero, hlB]; try exact rfl) ?_) ?_
            · simp [go_sem, hA1, hB1, htk, Nat.sub_zero, List.drop_zero, List.length_map, Nat.zero_add, List.getElem_toArray, List.getElem_cons_succ, List.getElem_cons_zero, hlB]
              omega
            try simp only [go_sem, hA1, hB1, htk, Nat.sub_zero, List.drop_zero, List.length_map, Nat.zero_add, List.getElem_toArray, List.getElem_cons_succ, List.getElem_cons_zero]
            refine drawD_one (i := 6) (by kernel_rfl) rfl rfl (trip_go tabOK rfl (by simp only [go_sem]; try exact rfl) (by simp [go_sem])) ?_
            refine drawD_end (by kernel_rfl) ?_
            simp only [go_sem, List.getElem_toArray, List.getElem_cons_succ, List.getElem_cons_zero]
            refine cw_le (le_drop 99 (by simp only [go_sem, hdel]; exact rfl) (by simp only [go_sem]; try exact rfl) (by simp only [go_sem, kill]; exact rfl)) ?_
            refine cw_le (le_mv 40 99 (by simp only [go_sem]; exact rfl) (by simp only [go_sem]; try exact rfl) (by simp only [go_sem]; try exact rfl) (by simp only [go_sem, hdel]; exact rfl) (by simp only [go_sem]; try exact rfl) (by simp only [go_sem, mv1, kill]; exact rfl)) ?_
            refine cw_go tabOK 99 (by simp only [go_sem]; try exact rfl) (by simp [go_sem]) ?_
            refine cw_back ⟨n :: seen, hlt, le_sub ?_ ?_ ?_⟩
            · simp [go_sem, ← hpt, hput, hlB]
              omega
            · simp [go_sem, ← hpt, hput, rowP, nodeRow, htk, hB1]
            · simp [go_sem]
          · try simp only [go_sem, hA1, hB1, htk, Nat.sub_zero, List.drop_zero, List.length_map, Nat.zero_add, List.getElem_toArray, List.getElem_cons_succ, List.getElem_cons_zero]
            refine drawD_one (i := 1) (by kernel_rfl) rfl rfl (trip_go tabOK rfl (by simp only [go_sem, hA1, hB1, htk, Nat.sub_zero, List.drop_zero, List.length_map, Nat.zero_add, List.getElem_toArray, List.getElem_cons_succ, List.getElem_cons_zero]; try exact rfl) ?_) ?_
            · skip
              try simp only [go_sem, hA1, hB1, htk, Nat.sub_zero, List.drop_zero, List.length_map, Nat.zero_add, List.getElem_toArray, List.getElem_cons_succ, List.getElem_cons_zero]
              simp
              omega
            try simp only [go_sem, hA1, hB1, htk, Nat.sub_zero, List.drop_zero, List.length_map, Nat.zero_add, List.getElem_toArray, List.getElem_cons_succ, List.getElem_cons_zero]
            refine drawD_one (i := 4) (by kernel_rfl) rfl rfl (trip_go tabOK rfl (by simp only [go_sem, hA1, hB1, htk, Nat.sub_zero, List.drop_zero, List.length_map, Nat.zero_add, List.getElem_toArray, List.getElem_cons_succ, List.getElem_cons_zero]; try exact rfl) ?_) ?_
            · simp [go_sem, row5, hA1, hB1, htk, Nat.sub_zero, List.drop_zero, List.length_map, Nat.zero_add, List.getElem_toArray, List.getElem_cons_succ, List.getElem_cons_zero]
              omega
            try simp only [go_sem, hA1, hB1, htk, Nat.sub_zero, List.drop_zero, List.length_map, Nat.zero_add, List.getElem_toArray, List.getElem_cons_succ, List.getElem_cons_zero]
            refine drawD_one (i := 5) (by kernel_rfl) rfl rfl (trip_go tabOK rfl (by simp only [go_sem, hA1, hB1, htk, Nat.sub_zero, List.drop_zero, List.length_map, Nat.zero_add, List.getElem_toArray, List.getElem_cons_succ, List.getElem_cons_zero, hlB]; try exact rfl) ?_) ?_
            · simp [go_sem, hA1, hB1, htk, Nat.sub_zero, List.drop_zero, List.length_map, Nat.zero_add, List.getElem_toArray, List.getElem_cons_succ, List.getElem_cons_zero, hlB]
              omega
            try simp only [go_sem, hA1, hB1, htk, Nat.sub_zero, List.drop_zero, List.length_map, Nat.zero_add, List.getElem_toArray, List.getElem_cons_succ, List.getElem_cons_zero]
            refine drawD_one (i := 6) (by kernel_rfl) rfl rfl (trip_go tabOK rfl (by simp only [go_sem]; try exact rfl) (by simp [go_sem])) ?_
            refine drawD_end (by kernel_rfl) ?_
            simp only [go_sem, List.getElem_toArray, List.getElem_cons_succ, List.getElem_cons_zero]
            refine cw_le (le_drop 99 (by simp only [go_sem, hdel]; exact rfl) (by simp only [go_sem]; try exact rfl) (by simp only [go_sem, kill]; exact rfl)) ?_
            refine cw_le (le_mv 40 99 (by simp only [go_sem]; exact rfl) (by simp only [go_sem]; try exact rfl) (by simp only [go_sem]; try exact rfl) (by simp only [go_sem, hdel]; exact rfl) (by simp only [go_sem]; try exact rfl) (by simp only [go_sem, mv1, kill]; exact rfl)) ?_
            refine cw_go tabOK 99 (by simp only [go_sem]; try exact rfl) (by simp [go_sem]) ?_
            refine cw_back ⟨n :: seen, hlt, le_sub ?_ ?_ ?_⟩
            · simp [go_sem, ← hpt, hput, hlB]
              omega
            · simp [go_sem, ← hpt, hput, rowP, nodeRow, htk, hB1]
            · simp [go_sem]
      · try simp only [go_sem, hA1, hB1, htk, Nat.sub_zero, List.drop_zero, List.length_map, Nat.zero_add, List.getElem_toArray, List.getElem_cons_succ, List.getElem_cons_zero]
        refine drawD_two (i := 0) (j := 3) (by kernel_rfl) rfl rfl rfl rfl (trip_go tabOK rfl (by simp only [go_sem, hA1, hB1, htk, Nat.sub_zero, List.drop_zero, List.length_map, Nat.zero_add, List.getElem_toArray, List.getElem_cons_succ, List.getElem_cons_zero]; try exact rfl) ?_) (trip_go tabOK rfl (by simp only [go_sem, hA1, hB1, htk, Nat.sub_zero, List.drop_zero, List.length_map, Nat.zero_add, List.getElem_toArray, List.getElem_cons_succ, List.getElem_cons_zero]; try exact rfl) ?_) ?_ ?_
        · skip
          first | trivial | simp [go_sem, hA1, hB1, htk, Nat.sub_zero, List.drop_zero, List.length_map, Nat.zero_add, List.getElem_toArray, List.getElem_cons_succ, List.getElem_cons_zero]
        · skip
          first | trivial | simp [go_sem, hA1, hB1, htk, Nat.sub_zero, List.drop_zero, List.length_map, Nat.zero_add, List.getElem_toArray, List.getElem_cons_succ, List.getElem_cons_zero]
        · try simp only [go_sem, hA1, hB1, htk, Nat.sub_zero, List.drop_zero, List.length_map, Nat.zero_add, List.getElem_toArray, List.getElem_cons_succ, List.getElem_cons_zero]
          refine drawD_two (i := 1) (j := 3) (by kernel_rfl) rfl rfl rfl rfl (trip_go tabOK rfl (by simp only [go_sem, hA1, hB1, htk, Nat.sub_zero, List.drop_zero, List.length_map, Nat.zero_add, List.getElem_toArray, List.getElem_cons_succ, List.getElem_cons_zero]; try exact rfl) ?_) (trip_go tabOK rfl (by simp only [go_sem, hA1, hB1, htk, Nat.sub_zero, List.drop_zero, List.length_map, Nat.zero_add, List.getElem_toArray, List.getElem_cons_succ, List.getElem_cons_zero]; try exact rfl) ?_) ?_ ?_
          · skip
            try simp only [go_sem, hA1, hB1, htk, Nat.sub_zero, List.drop_zero, List.length_map, Nat.zero_add, List.getElem_toArray, List.getElem_cons_succ, List.getElem_cons_zero]
            simp
            omega
          · skip
            first | trivial | simp [go_sem, hA1, hB1, htk, Nat.sub_zero, List.drop_zero, List.length_map, Nat.zero_add, List.getElem_toArray, List.getElem_cons_succ, List.getElem_cons_zero]
          · try simp only [go_sem, hA1, hB1, htk, Nat.sub_zero, List.drop_zero, List.length_map, Nat.zero_add, List.getElem_toArray, List.getElem_cons_succ, List.getElem_cons_zero]
            refine drawD_one (i := 3) (by kernel_rfl) rfl rfl (trip_go tabOK rfl (by simp only [go_sem]; try exact rfl) (by simp [go_sem])) ?_
            try simp only [go_sem, hA1, hB1, htk, Nat.sub_zero, List.drop_zero, List.length_map, Nat.zero_add, List.getElem_toArray, List.getElem_cons_succ, List.getElem_cons_zero]
            refine drawD_one (i := 4) (by kernel_rfl) rfl rfl (trip_go tabOK rfl (by simp only [go_sem, hA1, hB1, htk, Nat.sub_zero, List.drop_zero, List.length_map, Nat.zero_add, List.getElem_toArray, List.getElem_cons_succ, List.getElem_cons_zero]; try exact rfl) ?_) ?_
            · simp [go_sem, row5, hA1, hB1, htk, Nat.sub_zero, List.drop_zero, List.length_map, Nat.zero_add, List.getElem_toArray, List.getElem_cons_succ, List.getElem_cons_zero]
              omega
            try simp only [go_sem, hA1, hB1, htk, Nat.sub_zero, List.drop_zero, List.length_map, Nat.zero_add, List.getElem_toArray, List.getElem_cons_succ, List.getElem_cons_zero]
            refine drawD_one (i := 5) (by kernel_rfl) rfl rfl (trip_go tabOK rfl (by simp only [go_sem, hA1, hB1, htk, Nat.sub_zero, List.drop_zero, List.length_map, Nat.zero_add, List.getElem_toArray, List.getElem_cons_succ, List.getElem_cons_zero, hlB]; try exact rfl) ?_) ?_
            · simp [go_sem, hA1, hB1, htk, Nat.sub_zero, List.drop_zero, List.length_map, Nat.zero_add, List.getElem_toArray, List.getElem_cons_succ, List.getElem_cons_zero, hlB]
              omega
            try simp only [go_sem, hA1, hB1, htk, Nat.sub_zero, List.drop_zero, List.length_map, Nat.zero_add, List.getElem_toArray, List.getElem_cons_succ, List.getElem_cons_zero]
            refine drawD_one (i := 6) (by kernel_rfl) rfl rfl (trip_go tabOK rfl (by simp only [go_sem]; try exact rfl) (by simp [go_sem])) ?_
            refine drawD_end (by kernel_rfl) ?_
            simp only [go_sem, List.getElem_toArray, List.getElem_cons_succ, List.getElem_cons_zero]
            refine cw_le (le_drop 99 (by simp only [go_sem, hdel]; exact rfl) (by simp only [go_sem]; try exact rfl) (by simp only [go_sem, kill]; exact rfl)) ?_
            refine cw_le (le_mv 40 99 (by simp only [go_sem]; exact rfl) (by simp only [go_sem]; try exact rfl) (by simp only [go_sem]; try exact rfl) (by simp only [go_sem, hdel]; exact rfl) (by simp only [go_sem]; try exact rfl) (by simp only [go_sem, mv1, kill]; exact rfl)) ?_
            refine cw_go tabOK 99 (by simp only [go_sem]; try exact rfl) (by simp [go_sem]) ?_
            refine cw_back ⟨n :: seen, hlt, le_sub ?_ ?_ ?_⟩
            · simp [go_sem, ← hpt, hput, hlB]
              omega
            · simp [go_sem, ← hpt, hput, rowP, nodeRow, htk, hB1]
            · simp [go_sem]
          · try simp only [go_sem, hA1, hB1, htk, Nat.sub_zero, List.drop_zero, List.length_map, Nat.zero_add, List.getElem_toArray, List.getElem_cons_succ, List.getElem_cons_zero]
            refine drawD_one (i := 1) (by kernel_rfl) rfl rfl (trip_go tabOK rfl (by simp only [go_sem, hA1, hB1, htk, Nat.sub_zero, List.drop_zero, List.length_map, Nat.zero_add, List.getElem_toArray, List.getElem_cons_succ, List.getElem_cons_zero]; try exact rfl) ?_) ?_
            · skip
              try simp only [go_sem, hA1, hB1, htk, Nat.sub_zero, List.drop_zero, List.length_map, Nat.zero_add, List.getElem_toArray, List.getElem_cons_succ, List.getElem_cons_zero]
              simp
              omega
            try simp only [go_sem, hA1, hB1, htk, Nat.sub_zero, List.drop_zero, List.length_map, Nat.zero_add, List.getElem_toArray, List.getElem_cons_succ, List.getElem_cons_zero]
            refine drawD_one (i := 4) (by kernel_rfl) rfl rfl (trip_go tabOK rfl (by simp only [go_sem, hA1, hB1, htk, Nat.sub_zero, List.drop_zero, List.length_map, Nat.zero_add, List.getElem_toArray, List.getElem_cons_succ, List.getElem_cons_zero]; try exact rfl) ?_) ?_
            · simp [go_sem, row5, hA1, hB1, htk, Nat.sub_zero, List.drop_zero, List.length_map, Nat.zero_add, List.getElem_toArray, List.getElem_cons_succ, List.getElem_cons_zero]
              omega
            try simp only [go_sem, hA1, hB1, htk, Nat.sub_zero, List.drop_zero, List.length_map, Nat.zero_add, List.getElem_toArray, List.getElem_cons_succ, List.getElem_cons_zero]
            refine drawD_one (i := 5) (by kernel_rfl) rfl rfl (trip_go tabOK rfl (by simp only [go_sem, hA1, hB1, htk, Nat.sub_zero, List.drop_zero, List.length_map, Nat.zero_add, List.getElem_toArray, List.getElem_cons_succ, List.getElem_cons_zero, hlB]; try exact rfl) ?_) ?_
            · simp [go_sem, hA1, hB1, htk, Nat.sub_zero, List.drop_zero, List.length_map, Nat.zero_add, List.getElem_toArray, List.getElem_cons_succ, List.getElem_cons_zero, hlB]
              omega
            try simp only [go_sem, hA1, hB1, htk, Nat.sub_zero, List.drop_zero, List.length_map, Nat.zero_add, List.getElem_toArray, List.getElem_cons_succ, List.getElem_cons_zero]
            refine drawD_one (i := 6) (by kernel_rfl) rfl rfl (trip_go tabOK rfl (by simp only [go_sem]; try exact rfl) (by simp [go_sem])) ?_
            refine drawD_end (by kernel_rfl) ?_
            simp only [go_sem, List.getElem_toArray, List.getElem_cons_succ, List.getElem_cons_zero]
            refine cw_le (le_drop 99 (by simp only [go_sem, hdel]; exact rfl) (by simp only [go_sem]; try exact rfl) (by simp only [go_sem, kill]; exact rfl)) ?_
            refine cw_le (le_mv 40 99 (by simp only [go_sem]; exact rfl) (by simp only [go_sem]; try exact rfl) (by simp only [go_sem]; try exact rfl) (by simp only [go_sem, hdel]; exact rfl) (by simp only [go_sem]; try exact rfl) (by simp only [go_sem, mv1, kill]; exact rfl)) ?_
            refine cw_go tabOK 99 (by simp only [go_sem]; try exact rfl) (by simp [go_sem]) ?_
            refine cw_back ⟨n :: seen, hlt, le_sub ?_ ?_ ?_⟩
            · simp [go_sem, ← hpt, hput, hlB]
              omega
            · simp [go_sem, ← hpt, hput, rowP, nodeRow, htk, hB1]
            · simp [go_sem]
        · try simp only [go_sem, hA1, hB1, htk, Nat.sub_zero, List.drop_zero, List.length_map, Nat.zero_add, List.getElem_toArray, List.getElem_cons_succ, List.getElem_cons_zero]
          refine drawD_one (i := 0) (by kernel_rfl) rfl rfl (trip_go tabOK rfl (by simp only [go_sem]; try exact rfl) (by simp [go_sem])) ?_
          try simp only [go_sem, hA1, hB1, htk, Nat.sub_zero, List.drop_zero, List.length_map, Nat.zero_add, List.getElem_toArray, List.getElem_cons_succ, List.getElem_cons_zero]
          refine drawD_one (i := 1) (by kernel_rfl) rfl rfl (trip_go tabOK rfl (by simp only [go_sem, hA1, hB1, htk, Nat.sub_zero, List.drop_zero, List.length_map, Nat.zero_add, List.getElem_toArray, List.getElem_cons_succ, List.getElem_cons_zero]; try exact rfl) ?_) ?_
          · skip
            try simp only [go_sem, hA1, hB1, htk, Nat.sub_zero, List.drop_zero, List.length_map, Nat.zero_add, List.getElem_toArray, List.getElem_cons_succ, List.getElem_cons_zero]
            simp
            omega
          try simp only [go_sem, hA1, hB1, htk, Nat.sub_zero, List.drop_zero, List.length_map, Nat.zero_add, List.getElem_toArray, List.getElem_cons_succ, List.getElem_cons_zero]
          refine drawD_one (i := 4) (by kernel_rfl) rfl rfl (trip_go tabOK rfl (by simp only [go_sem, hA1, hB1, htk, Nat.sub_zero, List.drop_zero, List.length_map, Nat.zero_add, List.getElem_toArray, List.getElem_cons_succ, List.getElem_cons_zero]; try exact rfl) ?_) ?_
          · simp [go_sem, row5, hA1, hB1, htk, Nat.sub_zero, List.drop_zero, List.length_map, Nat.zero_add, List.getElem_toArray, List.getElem_cons_succ, List.getElem_cons_zero]
            omega
          try simp only [go_sem, hA1, hB1, htk, Nat.sub_zero, List.drop_zero, List.length_map, Nat.zero_add, List.getElem_toArray, List.getElem_cons_succ, List.getElem_cons_zero]
          refine drawD_one (i := 5) (by kernel_rfl) rfl rfl (trip_go tabOK rfl (by simp only [go_sem, hA1, hB1, htk, Nat.sub_zero, List.drop_zero, List.length_map, Nat.zero_add, List.getElem_toArray, List.getElem_cons_succ, List.getElem_cons_zero, hlB]; try exact rfl) ?_) ?_
          · simp [go_sem, hA1, hB1, htk, Nat.sub_zero, List.drop_zero, List.length_map, Nat.zero_add, List.getElem_toArray, List.getElem_cons_succ, List.getElem_cons_zero, hlB]
            omega
          try simp only [go_sem, hA1, hB1, htk, Nat.sub_zero, List.drop_zero, List.length_map, Nat.zero_add, List.getElem_toArray, List.getElem_cons_succ, List.getElem_cons_zero]
          refine drawD_one (i := 6) (by kernel_rfl) rfl rfl (trip_go tabOK rfl (by simp only [go_sem]; try exact rfl) (by simp [go_sem])) ?_
          refine drawD_end (by kernel_rfl) ?_
          simp only [go_sem, List.getElem_toArray, List.getElem_cons_succ, List.getElem_cons_zero]
          refine cw_le (le_drop 99 (by simp only [go_sem, hdel]; exact rfl) (by simp only [go_sem]; try exact rfl) (by simp only [go_sem, kill]; exact rfl)) ?_
          refine cw_le (le_mv 40 99 (by simp only [go_sem]; exact rfl) (by simp only [go_sem]; try exact rfl) (by simp only [go_sem]; try exact rfl) (by simp only [go_sem, hdel]; exact rfl) (by simp only [go_sem]; try exact rfl) (by simp only [go_sem, mv1, kill]; exact rfl)) ?_
          refine cw_go tabOK 99 (by simp only [go_sem]; try exact rfl) (by simp [go_sem]) ?_
          refine cw_back ⟨n :: seen, hlt, le_sub ?_ ?_ ?_⟩
          · simp [go_sem, ← hpt, hput, hlB]
            omega
          · simp [go_sem, ← hpt, hput, rowP, nodeRow, htk, hB1]
          · simp [go_sem]

theorem list_ok (l : List Node) (hu : Up l) (hlen : l.length ≤ 50000000) : FnOK Try.prog 30 [.rm (mN (mapD l))] [] (fun r _ => r = .sl (l.map nodeRow)) := by
  have h := list_raw (mapD l) (mapD_rise l) (fun p hp => by
    rw [mapD_eq hu] at hp
    obtain ⟨n, _, rfl⟩ := List.mem_map.1 hp
    rfl) (by rw [mapD_len hu]; exact hlen)
  have e : (mapD l).map rowP = l.map nodeRow := by
    rw [mapD_eq hu, List.map_map]; rfl
  rwa [e] at h
end La

namespace La
open Go Go.Eng Go.Proofs
set_option maxRecDepth 10000
set_option linter.unusedSimpArgs false

theorem madeIs_ok (x : Rec) (f : Int) : FnOK Try.prog 157 [.agg (recRow x), .rp [.int .i64 f] 0] [] (fun r _ => r = .bool (isMade f x)) := by
  unfold recRow
  refine fn_of_cwW tabOK (Go.Proofs.Try.func157) rfl (fun C => ?_)
  simp only [Go.Proofs.Try.ntmps157, Go.Proofs.Try.results157, go_sem]
  cases e1 : (x.act.fid == f) <;> cases e2 : (x.act.kind == 1) <;> cases e3 : (x.act.kind == 2)
  all_goals refine cw_go tabOK 99 (by simp only [go_sem, e1, e2, e3]; try exact rfl) (by simp [go_sem, e1, e2, e3]) ?_
  all_goals refine cw_ret ⟨_, _, (by simp only [go_sem]; try exact rfl), by simp [go_sem], _, .inr (.inl rfl), ?_⟩
  all_goals simp [isMade, e1, e2, e3]

theorem made_ok (l : List Rec) (hl : l.length ≤ 100000000) (f : Int) : FnOK Try.prog 123 [.sl (l.map recRow), .int .i64 f] [] (fun r _ => r = .int .i64 (idxI (l.findIdx? (isMade f)))) := by
  refine fn_of_cwW tabOK (Go.Proofs.Try.func123) rfl (fun C => ?_)
  simp only [Go.Proofs.Try.ntmps123, Go.Proofs.Try.results123, go_sem]
  refine cw_go tabOK 99 (by simp only [go_sem]; try exact rfl) (by simp [go_sem]) ?_
  refine cw_freeze 3 rfl (rfl) ?_
  simp only [go_sem]
  refine cw_call rfl rfl (by simp only [go_sem]; try exact rfl) (by simp [go_sem]) ⟨_, Go.Proofs.Try.func127, by kernel_rfl, rfl⟩ (by simp [go_sem]) (rec_indexFunc l hl ⟨_, Go.Proofs.Try.func157, by kernel_rfl, rfl⟩ rfl (fun x _ => madeIs_ok x f)) (by simp [go_sem]) (by simp only [go_sem]; exact rfl) ?_
  refine cw_go tabOK 99 (by simp only [go_sem]; try exact rfl) (by simp [go_sem]) ?_
  refine cw_ret ⟨_, _, (by simp only [go_sem]; try exact rfl), by simp [go_sem], _, .inr (.inl rfl), ?_⟩
  rfl

set_option maxHeartbeats 1000000 in
theorem bars_ok (x r m : Rec) : FnOK Try.prog 125 [.agg (recRow x), .rp [.rp (recRow r) 0] 0, .rp [.rp (recRow m) 0] 0] [] (fun b _ => b = .bool (bars r.act.fid m.act.dir m.act.name x)) := by
  refine fn_of_cwW tabOK (Go.Proofs.Try.func125) rfl (fun C => ?_)
  simp only [Go.Proofs.Try.ntmps125, Go.Proofs.Try.results125, go_sem]
  refine cw_go tabOK 99 (by simp only [go_sem, recRow]; try exact rfl) ?_ ?_
  · simp
  refine cw_freeze 3 rfl (rfl) ?_
  simp only [go_sem]
  refine cw_draw mixed ?_
  refine seg_start rfl ?_
  refine seg_runN tabOK 4 (by simp only [go_sem]; exact rfl) (by simp only [go_sem]; exact rfl) (by simp only [go_sem]; try exact rfl) (by simp [go_sem]) (by simp only [go_sem]; exact rfl) ?_
  refine seg_name 8 (by simp only [go_sem]; exact rfl) (fun c8 h8 => ?_)
  simp only [go_sem]
  refine seg_runN tabOK 6 (by simp only [go_sem]; exact rfl) (by simp only [go_sem]; exact rfl) (by simp only [go_sem]; try exact rfl) (by simp [go_sem]) (by simp only [go_sem]; exact rfl) ?_
  refine seg_callC rfl (by simp only [go_sem]; try exact rfl) (by simp only [go_sem]; try exact rfl) (by simp [go_sem]) ⟨_, Go.Proofs.Try.func70, by kernel_rfl, rfl⟩ (by simp [go_sem]) (fun hb => (names_ok x r.act.fid)) (by simp [go_sem]) (by simp only [go_sem]; exact rfl) (by simp only [go_sem]; exact rfl) ?_
  refine seg_runN tabOK 1 (by simp only [go_sem]; exact rfl) (by simp only [go_sem]; exact rfl) (by simp only [go_sem]; try exact rfl) (by simp [go_sem]) (by simp only [go_sem]; exact rfl) ?_
  refine seg_name 16 (by simp only [go_sem]; exact rfl) (fun c16 h16 => ?_)
  simp only [go_sem]
  refine seg_runN tabOK 9 (by simp only [go_sem]; exact rfl) (by simp only [go_sem]; exact rfl) (by simp only [go_sem]; try exact rfl) (by simp [go_sem]) (by simp only [go_sem]; exact rfl) ?_
  refine seg_callC rfl (by simp only [go_sem]; try exact rfl) (by simp only [go_sem]; try exact rfl) (by simp [go_sem]) ⟨_, Go.Proofs.Try.func126, by kernel_rfl, rfl⟩ (by simp [go_sem]) (fun hb => (touches_ok x m.act.dir m.act.name)) (by simp [go_sem]) (by simp only [go_sem]; exact rfl) (by simp only [go_sem]; exact rfl) ?_
  refine seg_runN tabOK 2 (by simp only [go_sem]; exact rfl) (by simp only [go_sem]; exact rfl) (by simp only [go_sem]; try exact rfl) (by simp [go_sem]) (by simp only [go_sem]; exact rfl) ?_
  refine seg_end (by kernel_rfl) (by simp only [go_sem]; exact rfl) ?_
  refine draw_close (by kernel_rfl) ?_
  refine cw_go tabOK 99 (by simp only [go_sem]; try exact rfl) (by simp [go_sem]) ?_
  refine cw_ret ⟨_, _, (by simp only [go_sem]; try exact rfl), by simp [go_sem], _, .inr (.inl rfl), ?_⟩
  subst h16 h8
  simp only [bars, cond_and, cond_or]

def cancelsAt (l : List Rec) (r : Rec) (k : Nat) : Bool :=
  (l.getD k default).act.dir == r.act.dir && (l.getD k default).act.name == r.act.name && !((l.drop (k + 1)).any (bars r.act.fid (l.getD k default).act.dir (l.getD k default).act.name))

theorem cancels_at {l : List Rec} {r : Rec} {k : Nat} (hk : l.findIdx? (isMade r.act.fid) = some k) : cancels l r = (r.act.kind == 4 && cancelsAt l r k) := by
  unfold cancels cancelsAt
  rw [hk]
  simp only [Bool.and_assoc]

set_option maxHeartbeats 1000000 in
theorem cancels_ok (l : List Rec) (hl : l.length ≤ 100000000) (r : Rec) : FnOK Try.prog 67 [.sl (l.map recRow), .rp (recRow r) 0] [] (fun b _ => b = .bool (cancels l r)) := by
  refine fn_of_cwW tabOK (Go.Proofs.Try.func67) rfl (fun C => ?_)
  simp only [Go.Proofs.Try.ntmps67, Go.Proofs.Try.results67, go_sem]
  refine cw_go tabOK 99 (by simp only [go_sem, recRow]; try exact rfl) ?_ ?_
  · simp
  refine cw_call rfl rfl (by simp only [go_sem]; try exact rfl) (by simp [go_sem]) ⟨_, Go.Proofs.Try.func123, by kernel_rfl, rfl⟩ (by simp [go_sem]) (made_ok l hl r.act.fid) (by simp [go_sem]) (by simp only [go_sem]; exact rfl) ?_
  cases e1 : (r.act.kind != 4)
  · refine cw_go tabOK 99 (by simp only [go_sem, e1, recRow]; try exact rfl) (by simp [go_sem, e1, recRow]) ?_
    refine cw_cond (by simp only [go_sem]; try exact rfl) trivial (fun h => ?_) (fun h => ?_)
    · refine cw_go tabOK 99 (by simp only [go_sem]; try exact rfl) (by simp [go_sem]) ?_
      refine cw_ret ⟨_, _, (by simp only [go_sem]; try exact rfl), by simp [go_sem], _, .inr (.inl rfl), ?_⟩
      have : l.findIdx? (isMade r.act.fid) = none := by
        cases e : l.findIdx? (isMade r.act.fid) with
        | none => rfl
        | some k =>
          rw [e] at h
          have h2 : decide ((k : Int) < 0) = true := h
          rw [decide_eq_true_eq] at h2
          omega
      simp [cancels, this]
    · obtain ⟨k, hk⟩ : ∃ k, l.findIdx? (isMade r.act.fid) = some k := by
        cases e : l.findIdx? (isMade r.act.fid) with
        | none => rw [e] at h; simp [idxI] at h
        | some k => exact ⟨k, rfl⟩
      have hkl : k < l.length := (List.findIdx?_eq_some_iff_getElem.1 hk).1
      have hg : (l.map recRow).getD k [] = recRow (l.getD k default) := Fam.getD hkl
      rw [cancels_at hk, hk]
      unfold cancelsAt
      simp only [idxI]
      generalize l.getD k default = m at hg
      refine cw_go tabOK 99 (by simp only [go_sem, hg, recRow]; try exact rfl) ?_ ?_
      · simp [hkl]
      have hw : IntKind.i64.wrap ((k : Int) + 1) = ((k + 1 : Nat) : Int) := by rw [Eng.wrap_small (by omega) (by omega)]; rfl
      have hd : List.drop (k + 1) (l.map recRow) = (l.drop (k + 1)).map recRow := List.map_drop.symm
      refine cw_freeze 3 rfl (rfl) ?_
      refine cw_freeze 6 rfl (rfl) ?_
      simp only [go_sem]
      refine cw_draw mixed ?_
      refine seg_start rfl ?_
      refine seg_runN tabOK 10 (by simp only [go_sem]; exact rfl) (by simp only [go_sem]; exact rfl) (by simp only [go_sem]; try exact rfl) (by simp [go_sem]) (by simp only [go_sem]; exact rfl) ?_
      refine seg_name 37 (by simp only [go_sem]; exact rfl) (fun c37 h37 => ?_)
      simp only [go_sem]
      refine seg_runN tabOK 12 (by simp only [go_sem]; exact rfl) (by simp only [go_sem]; exact rfl) (by simp only [go_sem]; try exact rfl) (by simp [go_sem]) (by simp only [go_sem]; exact rfl) ?_
      refine seg_name 49 (by simp only [go_sem]; exact rfl) (fun c49 h49 => ?_)
      simp only [go_sem]
      refine seg_runN tabOK 6 (by simp only [go_sem]; exact rfl) (by simp only [go_sem]; exact rfl) (by simp only [go_sem, hw, hd]; try exact rfl) ?_ (by simp only [go_sem]; exact rfl) ?_
      · simp [go_sem]
        intro h
        exact ⟨h, by omega, by omega, fun _ _ => rfl⟩
      refine seg_callC rfl (by simp only [go_sem]; try exact rfl) (by simp only [go_sem]; try exact rfl) (by simp [go_sem]) ⟨_, Go.Proofs.Try.func124, by kernel_rfl, rfl⟩ (by simp [go_sem]) (fun hb => (rec_containsFunc (l.drop (k + 1)) (by simp; omega) ⟨_, Go.Proofs.Try.func125, by kernel_rfl, rfl⟩ rfl (fun x _ => bars_ok x r m))) (by simp [go_sem]) (by simp only [go_sem]; exact rfl) (by simp only [go_sem]; exact rfl) ?_
      refine seg_runN tabOK 3 (by simp only [go_sem]; exact rfl) (by simp only [go_sem]; exact rfl) (by simp only [go_sem]; try exact rfl) (by simp [go_sem]) (by simp only [go_sem]; exact rfl) ?_
      refine seg_end (by kernel_rfl) (by simp only [go_sem]; exact rfl) ?_
      refine draw_close (by kernel_rfl) ?_
      refine cw_go tabOK 99 (by simp only [go_sem]; try exact rfl) (by simp [go_sem]) ?_
      refine cw_ret ⟨_, _, (by simp only [go_sem]; try exact rfl), by simp [go_sem], _, .inr (.inl rfl), ?_⟩
      subst h49 h37
      have hk4 : (r.act.kind == 4) = true := by simpa using e1
      rw [hk4]
      simp only [cond_and, Bool.true_and]
  · refine cw_go tabOK 99 (by simp only [go_sem, e1, recRow]; try exact rfl) (by simp [go_sem, e1, recRow]) ?_
    refine cw_condT (by simp only [go_sem]; try exact rfl) trivial (rfl) ?_
    refine cw_go tabOK 99 (by simp only [go_sem]; try exact rfl) (by simp [go_sem]) ?_
    refine cw_ret ⟨_, _, (by simp only [go_sem]; try exact rfl), by simp [go_sem], _, .inr (.inl rfl), ?_⟩
    have hk4 : (r.act.kind == 4) = false := by simpa using e1
    unfold cancels
    split
    · rfl
    · rw [hk4]; rfl

theorem namesIs_ok (x r : Rec) : FnOK Try.prog 69 [.agg (recRow x), .rp (recRow r) 0] [] (fun b _ => b = .bool (x.names r.act.fid)) := by
  refine fn_of_cwW tabOK (Go.Proofs.Try.func69) rfl (fun C => ?_)
  simp only [Go.Proofs.Try.ntmps69, Go.Proofs.Try.results69, go_sem]
  refine cw_go tabOK 99 (by simp only [go_sem, recRow]; try exact rfl) ?_ ?_
  · simp
  refine cw_freeze 2 rfl (rfl) ?_
  simp only [go_sem]
  refine cw_call rfl rfl (by simp only [go_sem]; try exact rfl) (by simp [go_sem]) ⟨_, Go.Proofs.Try.func70, by kernel_rfl, rfl⟩ (by simp [go_sem]) (names_ok x r.act.fid) (by simp [go_sem]) (by simp only [go_sem]; exact rfl) ?_
  refine cw_go tabOK 99 (by simp only [go_sem]; try exact rfl) (by simp [go_sem]) ?_
  refine cw_ret ⟨_, _, (by simp only [go_sem]; try exact rfl), by simp [go_sem], _, .inr (.inl rfl), ?_⟩
  rfl

theorem storedIs_ok (x r : Rec) : FnOK Try.prog 71 [.agg (recRow x), .rp (recRow r) 0] [] (fun b _ => b = .bool (stored r x)) := by
  refine fn_of_cwW tabOK (Go.Proofs.Try.func71) rfl (fun C => ?_)
  simp only [Go.Proofs.Try.ntmps71, Go.Proofs.Try.results71, go_sem]
  refine cw_goR 99 (by simp only [go_sem]; try exact rfl) ?_
  refine cw_runN tabOK 2 (by simp only [go_sem]; exact rfl) (by simp only [go_sem]; exact rfl) (by simp only [go_sem, recRow]; try exact rfl) (by simp [go_sem, recRow]) ?_
  refine cw_goR 99 (by simp only [go_sem]; try exact rfl) ?_
  refine cw_runN tabOK 4 (by simp only [go_sem]; exact rfl) (by simp only [go_sem]; exact rfl) (by simp only [go_sem]; try exact rfl) (by simp [go_sem]) ?_
  refine cw_name 7 (by simp only [go_sem]; exact rfl) (fun c7 h7 => ?_)
  simp only [go_sem]
  refine cw_go tabOK 99 (by simp only [go_sem, recRow]; try exact rfl) (by simp [go_sem, recRow]) ?_
  refine cw_ret ⟨_, _, (by simp only [go_sem]; try exact rfl), by simp [go_sem], _, .inr (.inl rfl), ?_⟩
  subst h7
  rw [cond_and]; rfl

def addRes : Option (List Rec) → AV
  | some x => .tup [.sl (x.map recRow), .int .i64 0]
  | none => .tup [.nils, .int .i64 5]

end La

namespace La
open Go Go.Eng Go.Proofs
set_option maxRecDepth 10000
set_option linter.unusedSimpArgs false

set_option maxHeartbeats 1000000 in
theorem add_ok (l : List Rec) (r : Rec) (hl : SmallL l) (hr : r.act.Small) : FnOK Try.prog 16 [.sl (l.map recRow), .agg (recRow r)] [] (fun x _ => x = addRes (addLog l r)) := by
  have hlen := hl.len
  refine fn_of_cwW tabOK (Go.Proofs.Try.func16) rfl (fun C => ?_)
  simp only [Go.Proofs.Try.ntmps16, Go.Proofs.Try.results16, go_sem]
  refine cw_go tabOK 99 (by simp only [go_sem, recRow]; try exact rfl) ?_ ?_
  · simp
  refine cw_freeze 3 rfl (rfl) ?_
  simp only [go_sem]
  refine cw_callG [] 100 rfl rfl (by simp only [go_sem]; try exact rfl) (by simp [go_sem]) ⟨_, Go.Proofs.Try.func19, by kernel_rfl, rfl⟩ (by simp only [go_sem, Bool.false_or, Bool.or_true, Bool.true_or, if_true]; try exact rfl) (logs_ownH l hl) (by simp [go_sem]) (by simp [go_sem]) (by simp [go_sem]) (by simp only [go_sem]) (by simp [go_sem]) (by simp only [go_sem, Bool.false_or, Bool.or_true, Bool.true_or, Bool.or_false, ↓reduceIte]; exact rfl) ?_
  refine cw_go tabOK 99 (by simp only [go_sem]; try exact rfl) (by simp [go_sem]) ?_
  refine cw_view rfl rfl (by simp only [go_sem]; try exact rfl) (by simp [go_sem]) (by simp only [go_sem]; try exact rfl) (by simp [go_sem]) ⟨_, Go.Proofs.Try.func67, by kernel_rfl, rfl⟩ (cancels_ok l hlen r) (by simp [go_sem]) (by simp only [go_sem]; exact rfl) ?_
  refine cw_go tabOK 99 (by simp only [go_sem]; try exact rfl) (by simp [go_sem]) ?_
  refine cw_cond (by simp only [go_sem]; try exact rfl) trivial (fun h => ?_) (fun h => ?_)
  · refine cw_go tabOK 99 (by simp only [go_sem]; try exact rfl) (by simp [go_sem]) ?_
    refine cw_callG [119] 100 rfl rfl (by simp only [go_sem]; try exact rfl) (by simp [go_sem]) ⟨_, Go.Proofs.Try.func68, by kernel_rfl, rfl⟩ (by simp only [go_sem, Bool.false_or, Bool.or_true, Bool.true_or, if_true]; try exact rfl) (rec_deleteFunc l hlen 119 ⟨_, Go.Proofs.Try.func69, by kernel_rfl, rfl⟩ rfl (by decide) (fun x _ => namesIs_ok x r)) (by simp [go_sem]) (by simp [go_sem]) (by simp [go_sem]) (by simp only [go_sem]) (by simp [go_sem]) (by simp only [go_sem, Bool.false_or, Bool.or_true, Bool.true_or, Bool.or_false, ↓reduceIte]; exact rfl) ?_
    refine cw_go tabOK 99 (by simp only [go_sem]; try exact rfl) (by simp [go_sem]) ?_
    refine cw_freeze 219 rfl (by rw [List.all_append, recRow_pure, Bool.true_and]; exact rep_pure _ rfl) ?_
    simp only [go_sem]
    refine cw_ret ⟨_, _, (by simp only [go_sem]; try exact rfl), by simp [go_sem], _, .inr (.inl rfl), ?_⟩
    have hle := List.length_filter_le (fun x : Rec => !x.names r.act.fid) l
    simp only [addLog, h, if_true, addRes]
    generalize (l.filter fun x => !x.names r.act.fid) = d at *
    rw [if_pos (by simp), take_app (by simp)]
  · have hh : cancels l r = false := h
    refine cw_go tabOK 99 (by simp only [go_sem]; try exact rfl) (by simp [go_sem]) ?_
    refine cw_cond (by simp only [go_sem]; try exact rfl) trivial (fun h => ?_) (fun h => ?_)
    · refine cw_go tabOK 99 (by simp only [go_sem]; try exact rfl) (by simp [go_sem]) ?_
      refine cw_callG [119] 100 rfl rfl (by simp only [go_sem]; try exact rfl) (by simp [go_sem]) ⟨_, Go.Proofs.Try.func68, by kernel_rfl, rfl⟩ (by simp only [go_sem, Bool.false_or, Bool.or_true, Bool.true_or, if_true]; try exact rfl) (rec_deleteFunc l hlen 119 ⟨_, Go.Proofs.Try.func71, by kernel_rfl, rfl⟩ rfl (by decide) (fun x _ => storedIs_ok x r)) (by simp [go_sem]) (by simp [go_sem]) (by simp [go_sem]) (by simp only [go_sem]) (by simp [go_sem]) (by simp only [go_sem, Bool.false_or, Bool.or_true, Bool.true_or, Bool.or_false, ↓reduceIte]; exact rfl) ?_
      have hle := List.length_filter_le (fun x : Rec => !stored r x) l
      have hadd : addLog l r = if (l.filter fun x => !stored r x).length ≥ 20 then none else some ((l.filter fun x => !stored r x) ++ [r]) := by
        have hk : r.act.kind = 3 := eq_of_beq (by assumption)
        simp only [addLog, hh, Bool.false_eq_true, if_false, unstored, hk, if_true]
      rw [hadd]
      have hsub : ∀ x, x ∈ (l.filter fun x => !stored r x) → x.act.Small := fun x hx => hl.each x (List.mem_filter.1 hx).1
      generalize (l.filter fun x => !stored r x) = d at hle hsub
      refine cw_go tabOK 99 (by simp only [go_sem]; try exact rfl) (by simp [go_sem]) ?_
      refine cw_cond (by simp only [go_sem]; try exact rfl) trivial (fun h => ?_) (fun h => ?_)
      · have hd : d.length ≥ 20 := by have h2 := of_decide_eq_true h; omega
        refine cw_go tabOK 99 (by simp only [go_sem]; try exact rfl) (by simp [go_sem]) ?_
        refine cw_ret ⟨_, _, (by simp only [go_sem]; try exact rfl), by simp [go_sem], _, .inr (.inl rfl), ?_⟩
        rw [if_pos hd]; rfl
      · have hd : ¬ d.length ≥ 20 := by have h2 := of_decide_eq_false h; omega
        refine cw_go tabOK 99 (by simp only [go_sem, recRow]; try exact rfl) ?_ ?_
        · simp
        refine cw_freeze 26 rfl (rfl) ?_
        simp only [go_sem]
        refine cw_call rfl rfl (by simp only [go_sem]; try exact rfl) (by simp [go_sem]) ⟨_, Go.Proofs.Try.func19, by kernel_rfl, rfl⟩ (by simp [go_sem]) (logs_own [r] ⟨by simp, fun x hx => by rw [List.mem_singleton.1 hx]; exact hr⟩) (by simp [go_sem]) (by simp only [go_sem]; exact rfl) ?_
        have ht : (d.map recRow ++ List.replicate (l.length - d.length) [AV.int .i64 0, .int .i64 0, .int .i64 0, .str [], .int .i64 0, .str [], .nils, .int .i64 0, .int .i64 0]).take d.length = d.map recRow := take_app (by simp)
        refine cw_go tabOK 99 (by simp only [go_sem, ht, recRow]; try exact rfl) ?_ ?_
        · simp [rowsOf]; omega
        refine cw_freeze 28 rfl (by rw [List.all_append, recRow_pure, Bool.true_and]; rfl) ?_
        simp only [go_sem]
        refine cw_go tabOK 99 (by simp only [go_sem]; try exact rfl) (by simp [go_sem]) ?_
        refine cw_ret ⟨_, _, (by simp only [go_sem]; try exact rfl), by simp [go_sem], _, .inr (.inl rfl), ?_⟩
        rw [if_neg hd]
        simp only [addRes, List.map_append, List.map_cons, List.map_nil, recRow]
        rw [List.take_of_length_le (by simp)]
    · have hadd : addLog l r = if l.length ≥ 20 then none else some (l ++ [r]) := by
        have hk : ¬ r.act.kind = 3 := by simpa using h
        simp only [addLog, hh, Bool.false_eq_true, if_false, unstored, hk]
      rw [hadd]
      refine cw_go tabOK 99 (by simp only [go_sem]; try exact rfl) (by simp [go_sem]) ?_
      refine cw_cond (by simp only [go_sem]; try exact rfl) trivial (fun h => ?_) (fun h => ?_)
      · have hd : l.length ≥ 20 := by have h2 := of_decide_eq_true h; omega
        refine cw_go tabOK 99 (by simp only [go_sem]; try exact rfl) (by simp [go_sem]) ?_
        refine cw_ret ⟨_, _, (by simp only [go_sem]; try exact rfl), by simp [go_sem], _, .inr (.inl rfl), ?_⟩
        rw [if_pos hd]; rfl
      · have hd : ¬ l.length ≥ 20 := by have h2 := of_decide_eq_false h; omega
        refine cw_go tabOK 99 (by simp only [go_sem, recRow]; try exact rfl) ?_ ?_
        · simp
        refine cw_freeze 26 rfl (rfl) ?_
        simp only [go_sem]
        refine cw_call rfl rfl (by simp only [go_sem]; try exact rfl) (by simp [go_sem]) ⟨_, Go.Proofs.Try.func19, by kernel_rfl, rfl⟩ (by simp [go_sem]) (logs_own [r] ⟨by simp, fun x hx => by rw [List.mem_singleton.1 hx]; exact hr⟩) (by simp [go_sem]) (by simp only [go_sem]; exact rfl) ?_
        refine cw_go tabOK 99 (by simp only [go_sem, recRow]; try exact rfl) ?_ ?_
        · simp [rowsOf]; omega
        refine cw_freeze 28 rfl (by rw [List.all_append, recRow_pure, Bool.true_and]; rfl) ?_
        simp only [go_sem]
        refine cw_go tabOK 99 (by simp only [go_sem]; try exact rfl) (by simp [go_sem]) ?_
        refine cw_ret ⟨_, _, (by simp only [go_sem]; try exact rfl), by simp [go_sem], _, .inr (.inl rfl), ?_⟩
        rw [if_neg hd]
        simp only [addRes, List.map_append, List.map_cons, List.map_nil, recRow]
        rw [List.take_of_length_le (by simp)]
end La

namespace La
open Go Go.Eng Go.Proofs
set_option maxRecDepth 10000
set_option linter.unusedSimpArgs false
set_option linter.unusedVariables false

def tn (f t x : Int) : Int := if x = f then t else x
def turn (a : Act) (f t : Int) : Act := { a with fid := tn f t a.fid, dir := tn f t a.dir, to := tn f t a.to }

theorem ref_turn (a : Act) (f t : Int) : FnOK Try.prog 22 [.agg (actRow a), .int .i64 f, .int .i64 t] [] (fun r _ => r = .agg (actRow (turn a f t))) := by
  unfold actRow
  refine fn_of_cwW tabOK (Go.Proofs.Try.func22) rfl (fun C => ?_)
  simp only [Go.Proofs.Try.ntmps22, Go.Proofs.Try.results22, go_sem]
  refine cw_go tabOK 99 (by simp only [go_sem]; try exact rfl) (by simp [go_sem]) ?_
  refine cw_cond (by simp only [go_sem]; try exact rfl) trivial (fun h => ?_) (fun h => ?_)
  all_goals refine cw_go tabOK 99 (by simp only [go_sem]; try exact rfl) (by simp [go_sem]) ?_
  all_goals refine cw_cond (by simp only [go_sem]; try exact rfl) trivial (fun h => ?_) (fun h => ?_)
  all_goals refine cw_go tabOK 99 (by simp only [go_sem]; try exact rfl) (by simp [go_sem]) ?_
  all_goals refine cw_cond (by simp only [go_sem]; try exact rfl) trivial (fun h => ?_) (fun h => ?_)
  all_goals refine cw_go tabOK 99 (by simp only [go_sem]; try exact rfl) (by simp [go_sem]) ?_
  all_goals refine cw_ret ⟨_, _, (by simp only [go_sem]; try exact rfl), by simp [go_sem], _, .inr (.inl rfl), ?_⟩
  all_goals simp_all [turn, tn]

def turnN (a : Act) (f t : Int) : Nat → Act
  | 0 => a
  | 1 => { a with fid := tn f t a.fid }
  | 2 => { a with fid := tn f t a.fid, dir := tn f t a.dir }
  | _ => turn a f t

theorem logs_turn (a : Act) (f t : Int) (ha : a.Small) : FnOK Try.prog 24 [.agg (actRow a), .int .i64 f, .int .i64 t] [] (fun r _ => r = .agg (actRow (turn a f t))) := by
  unfold actRow
  refine fn_of_cwW tabOK (Go.Proofs.Try.func24) rfl (fun C => ?_)
  simp only [Go.Proofs.Try.ntmps24, Go.Proofs.Try.results24, go_sem]
  refine cw_go tabOK 99 (by simp only [go_sem]; try exact rfl) (by simp [go_sem]) ?_
  refine cw_call rfl rfl (by simp only [go_sem]; try exact rfl) (by simp [go_sem]) ⟨_, Go.Proofs.Try.func72, by kernel_rfl, rfl⟩ (by simp [go_sem]) (acts_own a ha) (by simp [go_sem]) (by simp only [go_sem]; exact rfl) ?_
  refine cw_go tabOK 99 (by simp only [go_sem, actRow]; try exact rfl) ?_ ?_
  · simp [go_sem]
  refine cw_loopS (fun i : Nat => i ≤ 3) (fun i => 3 - i) (fun i => [(8, .any), (16, .int .i64 i), (17, .any), (18, .any), (19, .any), (20, .any), (21, .any), (22, .any), (23, .any), (24, .any), (25, .any), (26, .any), (27, .any), (28, .any)])
    (fun i => [(3, .cells 25 7 [actRow (turnN a f t i)])]) 0 (by omega) ?_ fun i hi => ?_
  · simp only [go_sem]
    exact le_sub (by simp [go_sem]) (by simp [go_sem, turnN, actRow]) (by simp [go_sem, actRow])
  have t0 : actRow (turnN a f t 0) = [.int .i64 a.kind, .int .i64 a.fid, .int .i64 a.dir, .str a.name, .int .i64 a.to, .str a.toName, .sl (a.data.map byteRow)] := rfl
  have t1 : actRow (turnN a f t 1) = [.int .i64 a.kind, .int .i64 (tn f t a.fid), .int .i64 a.dir, .str a.name, .int .i64 a.to, .str a.toName, .sl (a.data.map byteRow)] := rfl
  have t2 : actRow (turnN a f t 2) = [.int .i64 a.kind, .int .i64 (tn f t a.fid), .int .i64 (tn f t a.dir), .str a.name, .int .i64 a.to, .str a.toName, .sl (a.data.map byteRow)] := rfl
  have t3 : actRow (turnN a f t 3) = [.int .i64 a.kind, .int .i64 (tn f t a.fid), .int .i64 (tn f t a.dir), .str a.name, .int .i64 (tn f t a.to), .str a.toName, .sl (a.data.map byteRow)] := rfl
  have hc : i = 0 ∨ i = 1 ∨ i = 2 ∨ i = 3 := by omega
  rcases hc with rfl | rfl | rfl | rfl
  · refine cw_go tabOK 99 (by simp only [go_sem, t0, t1, t2, t3]; try exact rfl) (by simp [go_sem, t0, t1, t2, t3]) ?_
    refine cw_cond (by simp only [go_sem]; try exact rfl) trivial (fun h => ?_) (fun h => ?_)
    · refine cw_go tabOK 99 (by simp only [go_sem, t0, t1, t2, t3]; try exact rfl) (by simp [go_sem, t0, t1, t2, t3]) ?_
      refine cw_cond (by simp only [go_sem]; try exact rfl) trivial (fun h => ?_) (fun h => ?_)
      · refine cw_go tabOK 99 (by simp only [go_sem, t0, t1, t2, t3]; try exact rfl) (by simp [go_sem, t0, t1, t2, t3]) ?_
        refine cw_back ⟨1, by omega, by omega, le_sub ?_ ?_ ?_⟩
        · simp [go_sem, Eng.wrap_small]
        · simp_all [go_sem, tn]
        · simp [go_sem, t0, t1, t2, t3]
      · refine cw_go tabOK 99 (by simp only [go_sem, t0, t1, t2, t3]; try exact rfl) (by simp [go_sem, t0, t1, t2, t3]) ?_
        refine cw_back ⟨1, by omega, by omega, le_sub ?_ ?_ ?_⟩
        · simp [go_sem, Eng.wrap_small]
        · simp_all [go_sem, tn]
        · simp [go_sem, t0, t1, t2, t3]
    · simp at h
  · refine cw_go tabOK 99 (by simp only [go_sem, t0, t1, t2, t3]; try exact rfl) (by simp [go_sem, t0, t1, t2, t3]) ?_
    refine cw_cond (by simp only [go_sem]; try exact rfl) trivial (fun h => ?_) (fun h => ?_)
    · refine cw_go tabOK 99 (by simp only [go_sem, t0, t1, t2, t3]; try exact rfl) (by simp [go_sem, t0, t1, t2, t3]) ?_
      refine cw_cond (by simp only [go_sem]; try exact rfl) trivial (fun h => ?_) (fun h => ?_)
      · refine cw_go tabOK 99 (by simp only [go_sem, t0, t1, t2, t3]; try exact rfl) (by simp [go_sem, t0, t1, t2, t3]) ?_
        refine cw_back ⟨2, by omega, by omega, le_sub ?_ ?_ ?_⟩
        · simp [go_sem, Eng.wrap_small]
        · simp_all [go_sem, tn]
        · simp [go_sem, t0, t1, t2, t3]
      · refine cw_go tabOK 99 (by simp only [go_sem, t0, t1, t2, t3]; try exact rfl) (by simp [go_sem, t0, t1, t2, t3]) ?_
        refine cw_back ⟨2, by omega, by omega, le_sub ?_ ?_ ?_⟩
        · simp [go_sem, Eng.wrap_small]
        · simp_all [go_sem, tn]
        · simp [go_sem, t0, t1, t2, t3]
    · simp at h
  · refine cw_go tabOK 99 (by simp only [go_sem, t0, t1, t2, t3]; try exact rfl) (by simp [go_sem, t0, t1, t2, t3]) ?_
    refine cw_cond (by simp only [go_sem]; try exact rfl) trivial (fun h => ?_) (fun h => ?_)
    · refine cw_go tabOK 99 (by simp only [go_sem, t0, t1, t2, t3]; try exact rfl) (by simp [go_sem, t0, t1, t2, t3]) ?_
      refine cw_cond (by simp only [go_sem]; try exact rfl) trivial (fun h => ?_) (fun h => ?_)
      · refine cw_go tabOK 99 (by simp only [go_sem, t0, t1, t2, t3]; try exact rfl) (by simp [go_sem, t0, t1, t2, t3]) ?_
        refine cw_back ⟨3, by omega, by omega, le_sub ?_ ?_ ?_⟩
        · simp [go_sem, Eng.wrap_small]
        · simp_all [go_sem, tn]
        · simp [go_sem, t0, t1, t2, t3]
      · refine cw_go tabOK 99 (by simp only [go_sem, t0, t1, t2, t3]; try exact rfl) (by simp [go_sem, t0, t1, t2, t3]) ?_
        refine cw_back ⟨3, by omega, by omega, le_sub ?_ ?_ ?_⟩
        · simp [go_sem, Eng.wrap_small]
        · simp_all [go_sem, tn]
        · simp [go_sem, t0, t1, t2, t3]
    · simp at h
  · refine cw_go tabOK 99 (by simp only [go_sem, t0, t1, t2, t3]; try exact rfl) (by simp [go_sem, t0, t1, t2, t3]) ?_
    refine cw_cond (by simp only [go_sem]; try exact rfl) trivial (fun h => ?_) (fun h => ?_)
    · simp at h
    · refine cw_go tabOK 99 (by simp only [go_sem, t0, t1, t2, t3]; try exact rfl) (by simp [go_sem, t0, t1, t2, t3]) ?_
      refine cw_ret ⟨_, _, (by simp only [go_sem, t0, t1, t2, t3]; try exact rfl), by simp [go_sem, t0, t1, t2, t3], _, .inr (.inl rfl), ?_⟩
      rfl
end La

namespace La
open Go Go.Eng Go.Proofs
set_option maxRecDepth 10000
set_option linter.unusedSimpArgs false

def turnR (f t : Int) (r : Rec) : Rec := { r with act := turn r.act f t }
def renN (f t : Int) (l : List Rec) (i : Nat) : List Rec := (l.take i).map (turnR f t) ++ l.drop i

theorem renN_len (f t : Int) (l : List Rec) (i : Nat) : (renN f t l i).length = l.length := by simp [renN]; omega
theorem renN_at (f t : Int) {l : List Rec} {i : Nat} (h : i < l.length) : (renN f t l i).getD i default = l.getD i default := by
  unfold renN
  rw [List.getD_eq_getElem?_getD, List.getElem?_append_right (by simp; omega), List.getD_eq_getElem?_getD, List.getElem?_drop]
  congr 2
  simp; omega
theorem renN_next (f t : Int) {l : List Rec} {i : Nat} (h : i < l.length) : (renN f t l i).set i (turnR f t (l.getD i default)) = renN f t l (i + 1) := by
  apply List.ext_getElem?
  intro j
  unfold renN
  by_cases e : j = i
  · subst e
    rw [List.getElem?_set_self (by simp; omega), List.getElem?_append_left (by simp; omega)]
    simp [h, List.getD_eq_getElem?_getD]
  · rw [List.getElem?_set_ne (fun h => e h.symm)]
    by_cases e2 : j < i
    · rw [List.getElem?_append_left (by simp; omega), List.getElem?_append_left (by simp; omega)]
      simp [List.getElem?_take, e2, Nat.lt_succ_of_lt e2]
    · rw [List.getElem?_append_right (by simp; omega), List.getElem?_append_right (by simp; omega)]
      simp only [List.getElem?_drop, List.length_map, List.length_take]
      congr 1
      omega

theorem lrename_ok (l : List Rec) (f t : Int) (hl : SmallL l) : FnOK Try.prog 21 [.sl (l.map recRow), .int .i64 f, .int .i64 t] [] (fun r _ => r = .sl ((l.map (turnR f t)).map recRow)) := by
  have hlen := hl.len
  refine fn_of_cwW tabOK (Go.Proofs.Try.func21) rfl (fun C => ?_)
  simp only [Go.Proofs.Try.ntmps21, Go.Proofs.Try.results21, go_sem]
  refine cw_go tabOK 99 (by simp only [go_sem]; try exact rfl) (by simp [go_sem]) ?_
  refine cw_callG [] 100 rfl rfl (by simp only [go_sem]; try exact rfl) (by simp [go_sem]) ⟨_, Go.Proofs.Try.func19, by kernel_rfl, rfl⟩ (by simp only [go_sem, Bool.false_or, Bool.or_true, Bool.true_or, if_true]; try exact rfl) (logs_ownH l hl) (by simp [go_sem]) (by simp [go_sem]) (by simp [go_sem]) (by simp only [go_sem]) (by simp [go_sem]) (by simp only [go_sem, Bool.false_or, Bool.or_true, Bool.true_or, Bool.or_false, ↓reduceIte]; exact rfl) ?_
  refine cw_go tabOK 99 (by simp only [go_sem]; try exact rfl) (by simp [go_sem]) ?_
  refine cw_loopS (fun i : Nat => i ≤ l.length) (fun i => l.length - i) (fun i => [(8, .any), (13, .int .i64 i), (14, .any), (15, .any), (16, .any), (17, .any), (18, .any), (19, .any), (20, .any), (21, .any), (22, .any), (23, .any), (24, .any), (25, .any), (26, .any), (27, .any), (28, .any)])
    (fun i => [(119, .cells 27 9 ((renN f t l i).map recRow))]) 0 (by omega) ?_ fun i hi => ?_
  · simp only [go_sem]
    exact le_sub (by simp [go_sem]) (by simp [go_sem, renN]) (by simp only [go_sem])
  simp only [go_sem]
  refine cw_go tabOK 99 (by simp only [go_sem]; try exact rfl) (by simp [go_sem]) ?_
  refine cw_cond (by simp only [go_sem]; try exact rfl) trivial (fun h => ?_) (fun h => ?_)
  · have hlt : i < l.length := by simp at h; omega
    have hn := hl.each _ (getD_mem hlt)
    have hg : ((renN f t l i).map recRow).getD i [] = recRow (l.getD i default) := by rw [Fam.getD (by rw [renN_len]; exact hlt), renN_at f t hlt]
    have hs := renN_next f t hlt
    generalize l.getD i default = n at hn hg hs
    refine cw_go tabOK 99 (by simp only [go_sem, hg, recRow]; try exact rfl) ?_ ?_
    · simp [hlt, recRow, renN_len]
    refine cw_call rfl rfl (by simp only [go_sem]; try exact rfl) (by simp [go_sem]) ⟨_, Go.Proofs.Try.func24, by kernel_rfl, rfl⟩ (by simp [go_sem]) (logs_turn n.act f t hn) (by simp [go_sem]) (by simp only [go_sem]; exact rfl) ?_
    have hw : IntKind.i64.wrap ((i : Int) + 1) = (i : Int) + 1 := wrap_small (by omega) (by omega)
    refine cw_go tabOK 99 (by simp only [go_sem, hw, hg, recRow, actRow]; try exact rfl) ?_ ?_
    · simp [hlt, renN_len]
    refine cw_back ⟨i + 1, by omega, by omega, le_sub ?_ ?_ ?_⟩
    · simp [go_sem]
    · rw [← hs, List.map_set]
      exact ⟨.inl rfl, trivial⟩
    · simp only [go_sem]
  · have e : i = l.length := by simp at h; omega
    subst e
    have e2 : renN f t l l.length = l.map (turnR f t) := by simp [renN]
    rw [e2]
    refine cw_freeze 119 rfl (recRow_pure _) ?_
    simp only [go_sem]
    refine cw_go tabOK 99 (by simp only [go_sem]; try exact rfl) (by simp [go_sem]) ?_
    refine cw_ret ⟨_, _, (by simp only [go_sem]; try exact rfl), by simp [go_sem], _, .inr (.inl rfl), ?_⟩
    simp
end La

namespace La
open Go Go.Eng Go.Proofs
set_option maxRecDepth 10000
set_option linter.unusedSimpArgs false

def ra1 : Rec := ⟨⟨1, -1, 0, [97], 0, [], []⟩, -1, 1⟩
def ra2 : Rec := ⟨⟨4, -1, 0, [97], 0, [], []⟩, -1, 2⟩

theorem smallL_one (r : Rec) (h : r.act.Small) : SmallL [r] := ⟨by simp, fun x hx => by rw [List.mem_singleton.1 hx]; exact h⟩
theorem smallL_nil : SmallL [] := ⟨by simp, fun x hx => by simp at hx⟩
theorem ra_small (r : Rec) (h : r.act.data = []) : r.act.Small := by unfold Act.Small; rw [h]; simp

set_option maxHeartbeats 1000000 in
theorem alive4 : FnOK Try.prog 25 [] [] (fun r _ => r = .bool true) := by
  have e1 : addLog [] ra1 = some [ra1] := by decide
  have e2 : addLog [ra1] ra2 = some [] := by decide
  have s1 : ra1.act.Small := ra_small _ rfl
  have s2 : ra2.act.Small := ra_small _ rfl
  have p1 := add_ok [] ra1 smallL_nil s1
  have p2 := add_ok [ra1] ra2 (smallL_one _ s1) s2
  rw [e1] at p1
  rw [e2] at p2
  simp only [addRes, List.map_cons, List.map_nil] at p1 p2
  refine fn_of_cwW tabOK (Go.Proofs.Try.func25) rfl (fun C => ?_)
  simp only [Go.Proofs.Try.ntmps25, Go.Proofs.Try.results25, go_sem]
  refine cw_go tabOK 99 (by simp only [go_sem]; try exact rfl) (by simp [go_sem]) ?_
  refine cw_call rfl rfl (by simp only [go_sem]; try exact rfl) (by simp [go_sem]) ⟨_, Go.Proofs.Try.func16, by kernel_rfl, rfl⟩ (by simp [go_sem]) (by exact FnOK.nrm rfl (p1)) (by simp [go_sem]) (by simp only [go_sem]; exact rfl) ?_
  refine cw_go tabOK 99 (by simp only [go_sem]; try exact rfl) (by simp [go_sem]) ?_
  refine cw_call rfl rfl (by simp only [go_sem]; try exact rfl) (by simp [go_sem]) ⟨_, Go.Proofs.Try.func16, by kernel_rfl, rfl⟩ (by simp [go_sem]) (by exact FnOK.nrm rfl (p2)) (by simp [go_sem]) (by simp only [go_sem]; exact rfl) ?_
  refine cw_go tabOK 99 (by simp only [go_sem]; try exact rfl) (by simp [go_sem]) ?_
  refine cw_call rfl rfl (by simp only [go_sem]; try exact rfl) (by simp [go_sem]) ⟨_, Go.Proofs.Try.func21, by kernel_rfl, rfl⟩ (by simp [go_sem]) (lrename_ok [ra1] (-1) 9 (smallL_one _ s1)) (by simp [go_sem]) (by simp only [go_sem]; exact rfl) ?_
  refine cw_go tabOK 99 (by simp only [go_sem, recRow, turnR, turn, tn, ra1]; try exact rfl) ?_ ?_
  · simp [go_sem]
  refine cw_callC rfl (by simp only [go_sem]; try exact rfl) (by simp only [go_sem]; try exact rfl) (by simp [go_sem]) ⟨_, Go.Proofs.Try.func20, by kernel_rfl, rfl⟩ (by simp [go_sem]) (fun hb => (logs_acts [ra1] (smallL_one _ s1))) (by simp [go_sem]) (by simp only [go_sem]; exact rfl) ?_
  refine cw_go tabOK 99 (by simp only [go_sem, recRow, turnR, turn, tn, ra1]; try exact rfl) ?_ ?_
  · simp [go_sem]
  refine cw_callC rfl (by simp only [go_sem]; try exact rfl) (by simp only [go_sem]; try exact rfl) (by simp [go_sem]) ⟨_, Go.Proofs.Try.func19, by kernel_rfl, rfl⟩ (by simp [go_sem]) (fun hb => (logs_own [ra1] (smallL_one _ s1))) (by simp [go_sem]) (by simp only [go_sem]; exact rfl) ?_
  refine cw_go tabOK 99 (by simp only [go_sem, recRow, turnR, turn, tn, ra1]; try exact rfl) ?_ ?_
  · simp [go_sem]
  refine cw_callC rfl (by simp only [go_sem]; try exact rfl) (by simp only [go_sem]; try exact rfl) (by simp [go_sem]) ⟨_, Go.Proofs.Try.func24, by kernel_rfl, rfl⟩ (by simp [go_sem]) (fun hb => (logs_turn ra1.act (-1) 4 s1)) (by simp [go_sem]) (by simp only [go_sem]; exact rfl) ?_
  refine cw_go tabOK 99 (by simp only [go_sem, recRow, actRow, turnR, turn, tn, ra1]; try exact rfl) ?_ ?_
  · simp [go_sem]
  refine cw_ret ⟨_, _, (by simp only [go_sem]; try exact rfl), by simp [go_sem], _, .inr (.inl rfl), ?_⟩
  rfl
end La

namespace La
open Go Go.Eng Go.Proofs
set_option maxRecDepth 10000
set_option linter.unusedSimpArgs false
set_option linter.unusedVariables false

structure SAct (a : Act) : Prop where
  name : a.name.length ≤ 2000000
  toName : a.toName.length ≤ 2000000
  data : a.data.length ≤ 2000000

theorem rapply_yes {l : List Node} {a : Act} (hf : RFit l a) (he : rApplyE l a = 0) : FnOK Try.prog 28 [.rm (mN (mapD l)), .agg (actRow a), .int .i64 0] [] (fun r _ => r = .tup [.rm (mN (mapD (rApplyL l a 0))), .int .i64 0]) := by
  have := rapply_ok l a 0 hf
  unfold rApplyA at this
  rwa [if_pos he] at this
theorem rapply_no {l : List Node} {a : Act} (hf : RFit l a) (he : rApplyE l a ≠ 0) : FnOK Try.prog 28 [.rm (mN (mapD l)), .agg (actRow a), .int .i64 0] [] (fun r _ => r = .tup [.nilm, .int .i64 (rApplyE l a)]) := by
  have := rapply_ok l a 0 hf
  unfold rApplyA at this
  rwa [if_neg he] at this
theorem add_some {l m : List Rec} {r : Rec} (hl : SmallL l) (hr : r.act.Small) (h : addLog l r = some m) : FnOK Try.prog 16 [.sl (l.map recRow), .agg (recRow r)] [] (fun x _ => x = .tup [.sl (m.map recRow), .int .i64 0]) := by
  have := add_ok l r hl hr
  rw [h] at this
  exact this
theorem add_none {l : List Rec} {r : Rec} (hl : SmallL l) (hr : r.act.Small) (h : addLog l r = none) : FnOK Try.prog 16 [.sl (l.map recRow), .agg (recRow r)] [] (fun x _ => x = .tup [.nils, .int .i64 5]) := by
  have := add_ok l r hl hr
  rw [h] at this
  exact this
theorem addLog_small {l m : List Rec} {r : Rec} (h : addLog l r = some m) (hl : ∀ x, x ∈ l → SAct x.act) (hr : SAct r.act) : ∀ x, x ∈ m → SAct x.act := fun x hx => by
  unfold addLog at h
  split at h
  · injection h with h; subst h; exact hl x (List.mem_filter.1 hx).1
  · split at h
    · cases h
    · injection h with h; subst h
      rcases List.mem_append.1 hx with hx | hx
      · exact hl x ((unstored_sub l r).subset hx)
      · rw [List.mem_singleton.1 hx]; exact hr

structure Going (l : List Node) (i : Nat) (log : List Rec) (t : List Node) : Prop where
  sh : Shrt l log t
  sb : SB i t
  len : log.length ≤ i
  acts : ∀ x, x ∈ log → SAct x.act

def madeA (a : Act) (i : Nat) : Act := { a with fid := -1 - (i : Int) }

set_option maxHeartbeats 4000000 in
theorem short_ok (l : List Node) (al : List Act) (hl : Small l) (hll : l.length ≤ 2000000) (htot : tot l ≤ 2000000) (hdat : ∀ x, x ∈ l → x.data.length ≤ 2000000) (hal : al.length ≤ 1048576) (hact : ∀ a, a ∈ al → SAct a) :
    FnOK Try.prog 4 [.sl (l.map nodeRow), .sl (al.map actRow)] [] (fun r _ => r = .bool true) := by
  have hof := of_ok l (by omega)
  rw [mapN_eq] at hof
  have hri := rises_ok l hl
  refine fn_of_cwW tabOK (Go.Proofs.Try.func4) rfl (fun C => ?_)
  simp only [Go.Proofs.Try.ntmps4, Go.Proofs.Try.results4, go_sem]
  refine cw_go tabOK 99 (by simp only [go_sem]; try exact rfl) (by simp [go_sem]) ?_
  refine cw_call rfl rfl (by simp only [go_sem]; try exact rfl) (by simp [go_sem]) ⟨_, Go.Proofs.Try.func25, by kernel_rfl, rfl⟩ (by simp [go_sem]) (alive4) (by simp [go_sem]) (by simp only [go_sem]; exact rfl) ?_
  refine cw_go tabOK 99 (by simp only [go_sem]; try exact rfl) (by simp [go_sem]) ?_
  refine cw_cond (by simp only [go_sem]; try exact rfl) trivial (fun h => ?_) (fun h => ?_)
  · cases h
  refine cw_go tabOK 99 (by simp only [go_sem]; try exact rfl) (by simp [go_sem]) ?_
  refine cw_callG [] 1000 rfl rfl (by simp only [go_sem]; try exact rfl) (by simp [go_sem]) ⟨_, Go.Proofs.Try.func26, by kernel_rfl, rfl⟩ (by simp only [go_sem, Bool.false_or, Bool.or_true, Bool.true_or, if_true]; try exact rfl) (hof) (by simp [go_sem]) (by simp [go_sem]) (by simp [go_sem]) (by simp only [go_sem]) (by simp [go_sem]) (by simp only [go_sem, Bool.false_or, Bool.or_true, Bool.true_or, Bool.or_false, ↓reduceIte]; exact rfl) ?_
  refine cw_go tabOK 99 (by simp only [go_sem]; try exact rfl) (by simp [go_sem]) ?_
  refine cw_freezeM 1006 rfl ?_
  simp only [go_sem]
  refine cw_loopS (fun i : Nat => i ≤ l.length ∧ (∀ j, j < i → 0 ≤ (l.getD j default).fid) ∧ (0 < i → risesB l = true)) (fun i => l.length - i) (fun i => [(7, .any), (26, .int .i64 i), (27, .any), (28, .any), (29, .any), (30, .any), (31, .any), (32, .any), (33, .any), (34, .any), (35, .any), (36, .any), (37, .any), (38, .any)]) (fun _ => []) 0 ⟨by omega, by omega, by omega⟩ ?_ fun i hi => ?_
  · simp only [go_sem]
    exact le_sub (by simp [go_sem]) (by simp [go_sem]) (by simp [go_sem])
  obtain ⟨hi, hp, hri2⟩ := hi
  simp only [go_sem]
  refine cw_go tabOK 99 (by simp only [go_sem]; try exact rfl) (by simp [go_sem]) ?_
  refine cw_cond (by simp only [go_sem]; try exact rfl) trivial (fun h => ?_) (fun h => ?_)
  · have hlt : i < l.length := by simp at h; omega
    have hg : (l.map nodeRow).getD i [] = nodeRow (l.getD i default) := Fam.getD hlt
    have hw : IntKind.i64.wrap ((i : Int) + 1) = ((i + 1 : Nat) : Int) := by rw [Eng.wrap_small (by omega) (by omega)]; rfl
    have hp2 : 0 ≤ (l.getD i default).fid → ∀ j, j < i + 1 → 0 ≤ (l.getD j default).fid := fun h0 j hj => by
      rcases Nat.lt_succ_iff_lt_or_eq.1 hj with h1 | rfl
      · exact hp j h1
      · exact h0
    generalize l.getD i default = n at hg hp2
    refine cw_go tabOK 99 (by simp only [go_sem, hg, nodeRow]; try exact rfl) ?_ ?_
    · simp [hg, nodeRow, hlt]
    refine cw_callC rfl (by simp only [go_sem]; try exact rfl) (by simp only [go_sem]; try exact rfl) (by simp [go_sem]) ⟨_, Go.Proofs.Try.func27, by kernel_rfl, rfl⟩ (by simp [go_sem]) (fun hb => (hri)) (by simp [go_sem]) (by simp only [go_sem]; exact rfl) ?_
    refine cw_go tabOK 99 (by simp only [go_sem]; try exact rfl) (by simp [go_sem]) ?_
    refine cw_cond (by simp only [go_sem]; try exact rfl) trivial (fun h => ?_) (fun h => ?_)
    · refine cw_go tabOK 99 (by simp only [go_sem]; try exact rfl) (by simp [go_sem]) ?_
      refine cw_ret ⟨_, _, (by simp only [go_sem]; try exact rfl), by simp [go_sem], _, .inr (.inl rfl), ?_⟩
      rfl
    · have hh : 0 ≤ n.fid ∧ risesB l = true := by
        by_cases h1 : n.fid < 0
        · simp [h1] at h
        · simp [h1] at h; exact ⟨by omega, h⟩
      refine cw_go tabOK 99 (by simp only [go_sem, hw]; try exact rfl) (by simp [go_sem, hw]) ?_
      refine cw_back ⟨i + 1, ⟨by omega, hp2 hh.1, fun _ => hh.2⟩, by omega, le_sub ?_ ?_ ?_⟩
      · simp [go_sem]
      · simp [go_sem]
      · simp [go_sem]
  have e : i = l.length := by simp at h; omega
  subst e
  have hRi : Ri l := by
    by_cases h0 : 0 < l.length
    · obtain ⟨h1, h2⟩ := (risesB_iff l).1 (hri2 h0)
      exact ⟨h1, h2⟩
    · have : l = [] := List.eq_nil_of_length_eq_zero (by omega)
      subst this
      exact ⟨List.Pairwise.nil, fun n hn => (by cases hn)⟩
  have hpos : ∀ n, n ∈ l → 0 ≤ n.fid := fun n hn => by
    obtain ⟨j, hj⟩ := List.getElem?_of_mem hn
    have := hp j (List.getElem?_eq_some_iff.1 hj).1
    rwa [getD_of hj] at this
  have hSB : SB 0 l := ⟨hRi, by omega, by omega, hdat⟩
  clear hp hri2 hri h
  refine cw_go tabOK 99 (by simp only [go_sem]; try exact rfl) (by simp [go_sem]) ?_
  refine cw_loopS (fun x : Nat × List Rec × List Node => x.1 ≤ al.length ∧ Going l x.1 x.2.1 x.2.2) (fun x => al.length - x.1) (fun x => [(5, .rm (mN (mapD x.2.2))), (8, .sl (x.2.1.map recRow)), (9, .any), (10, .any), (11, .any), (12, .any), (13, .any), (14, .any), (41, .int .i64 x.1), (42, .any), (43, .any), (44, .any), (45, .any), (46, .any), (47, .any), (48, .any), (49, .any), (50, .any), (51, .any), (52, .any), (53, .any), (54, .any), (55, .any), (56, .any), (57, .any), (58, .any), (59, .any), (60, .any), (61, .any), (62, .any), (63, .any), (64, .any), (65, .any), (66, .any), (67, .any), (68, .any), (69, .any), (70, .any), (71, .any), (72, .any), (73, .any), (74, .any), (75, .any), (76, .any), (77, .any), (78, .any), (79, .any), (80, .any), (81, .any), (82, .any), (83, .any), (84, .any), (85, .any)]) (fun _ => []) (0, [], l) ⟨by omega, Shrt.start hRi, hSB, by simp, fun x hx => (by cases hx)⟩ ?_ fun x hx => ?_
  · simp only [go_sem]
    exact le_sub (by simp [go_sem]) (by simp [go_sem]) (by simp [go_sem])
  obtain ⟨i, log, t⟩ := x
  obtain ⟨hi, hgo⟩ := hx
  simp only at hi hgo
  simp only [go_sem]
  refine cw_go tabOK 99 (by simp only [go_sem]; try exact rfl) (by simp [go_sem]) ?_
  refine cw_cond (by simp only [go_sem]; try exact rfl) trivial (fun h => ?_) (fun h => ?_)
  · have hlt : i < al.length := by simp at h; omega
    have hg : (al.map actRow).getD i [] = actRow (al.getD i default) := Fam.getD hlt
    have hw : IntKind.i64.wrap ((i : Int) + 1) = ((i + 1 : Nat) : Int) := by rw [Eng.wrap_small (by omega) (by omega)]; rfl
    have hw1 : IntKind.i64.wrap (-1 - (i : Int)) = -1 - (i : Int) := Eng.wrap_small (by omega) (by omega)
    have hsa := hact _ (getD_mem hlt)
    generalize al.getD i default = a at hg hsa
    refine cw_go tabOK 99 (by simp only [go_sem, hg, actRow]; try exact rfl) ?_ ?_
    · simp [hg, actRow, hlt]
    by_cases hk : a.kind = 1 ∨ a.kind = 2
    · refine cw_condT (by simp only [go_sem]; try exact rfl) trivial (by rcases hk with k | k <;> simp [k]) ?_
      refine cw_go tabOK 99 (by simp only [go_sem, hw1]; try exact rfl) (by simp [go_sem, hw1]) ?_
      have hr : (madeA a i).kind = 1 ∨ (madeA a i).kind = 2 → (madeA a i).fid < 0 := fun _ => by show -1 - (i : Int) < 0; omega
      have hsb : SAct (madeA a i) := ⟨hsa.name, hsa.toName, hsa.data⟩
      have hfit : RFit t (madeA a i) := hgo.sb.fit (by omega) (by have := hsb.name; omega) (by have := hsb.toName; omega) (by have := hsb.data; omega)
      have hsl : SmallL log := ⟨by have := hgo.len; omega, fun x hx => by unfold Act.Small; have := (hgo.acts x hx).data; omega⟩
      have hsm : ((madeA a i)).Small := by unfold Act.Small; have := hsb.data; omega
      by_cases he : rApplyE t (madeA a i) = 0
      · refine cw_call rfl rfl (by simp only [go_sem]; try exact rfl) (by simp [go_sem]) ⟨_, Go.Proofs.Try.func28, by kernel_rfl, rfl⟩ (by simp [go_sem]) (rapply_yes hfit he) (by simp [go_sem]) (by simp only [go_sem]; exact rfl) ?_
        refine cw_go tabOK 99 (by simp only [go_sem]; try exact rfl) (by simp [go_sem]) ?_
        refine cw_cond (by simp only [go_sem]; try exact rfl) trivial (fun h => ?_) (fun h => ?_)
        · cases h
        cases hadd : addLog log ⟨(madeA a i), 0, i⟩ with
        | none =>
          have h20 := addLog_none hadd
          refine cw_go tabOK 99 (by simp only [go_sem]; try exact rfl) (by simp [go_sem]) ?_
          refine cw_call rfl rfl (by simp only [go_sem]; try exact rfl) (by simp [go_sem]) ⟨_, Go.Proofs.Try.func16, by kernel_rfl, rfl⟩ (by simp [go_sem]) (add_none hsl hsm hadd) (by simp [go_sem]) (by simp only [go_sem]; exact rfl) ?_
          refine cw_go tabOK 99 (by simp only [go_sem]; try exact rfl) (by simp [go_sem]) ?_
          refine cw_cond (by simp only [go_sem]; try exact rfl) trivial (fun h => ?_) (fun h => ?_)
          · refine cw_go tabOK 99 (by simp only [go_sem]; try exact rfl) (by simp [go_sem]) ?_
            refine cw_ret ⟨_, _, (by simp only [go_sem]; try exact rfl), by simp [go_sem], _, .inr (.inl rfl), ?_⟩
            simp
            omega
          · cases h
        | some m =>
          have hml := addLog_short hadd
          have hgl := hgo.len
          refine cw_go tabOK 99 (by simp only [go_sem]; try exact rfl) (by simp [go_sem]) ?_
          refine cw_call rfl rfl (by simp only [go_sem]; try exact rfl) (by simp [go_sem]) ⟨_, Go.Proofs.Try.func16, by kernel_rfl, rfl⟩ (by simp [go_sem]) (add_some hsl hsm hadd) (by simp [go_sem]) (by simp only [go_sem]; exact rfl) ?_
          refine cw_go tabOK 99 (by simp only [go_sem]; try exact rfl) (by simp [go_sem]) ?_
          refine cw_cond (by simp only [go_sem]; try exact rfl) trivial (fun h => ?_) (fun h => ?_)
          · cases h
          refine cw_go tabOK 99 (by simp only [go_sem, hw]; try exact rfl) (by simp [go_sem, hw]) ?_
          refine cw_back ⟨(i + 1, m, rApplyL t (madeA a i) 0), ⟨by show i + 1 ≤ _; omega, Shrt.step hRi hpos hgo.sh hr he hadd, hgo.sb.apply hsb.data he, by show m.length ≤ i + 1; omega, addLog_small hadd hgo.acts hsb⟩, by simp only; omega, le_sub ?_ ?_ ?_⟩
          · simp [go_sem]
          · simp [go_sem]
          · simp [go_sem]
      · refine cw_call rfl rfl (by simp only [go_sem]; try exact rfl) (by simp [go_sem]) ⟨_, Go.Proofs.Try.func28, by kernel_rfl, rfl⟩ (by simp [go_sem]) (rapply_no hfit he) (by simp [go_sem]) (by simp only [go_sem]; exact rfl) ?_
        refine cw_go tabOK 99 (by simp only [go_sem]; try exact rfl) (by simp [go_sem]) ?_
        refine cw_cond (by simp only [go_sem]; try exact rfl) trivial (fun h => ?_) (fun h => ?_)
        · refine cw_go tabOK 99 (by simp only [go_sem, hw]; try exact rfl) (by simp [go_sem, hw]) ?_
          have hgl := hgo.len
          refine cw_back ⟨(i + 1, log, t), ⟨by show i + 1 ≤ _; omega, hgo.sh, hgo.sb.mono (by show i ≤ i + 1; omega), by show log.length ≤ i + 1; omega, hgo.acts⟩, by simp only; omega, le_sub ?_ ?_ ?_⟩
          · simp [go_sem]
          · simp [go_sem]
          · simp [go_sem]
        · exfalso; simp [he] at h
    · have k1 : ¬ a.kind = 1 := fun e => hk (.inl e)
      have k2 : ¬ a.kind = 2 := fun e => hk (.inr e)
      refine cw_condF (by simp only [go_sem]; try exact rfl) trivial (by simp [k1, k2]) ?_
      refine cw_go tabOK 99 (by simp only [go_sem]; try exact rfl) (by simp [go_sem]) ?_
      have hr : a.kind = 1 ∨ a.kind = 2 → a.fid < 0 := fun h => absurd h hk
      have hsb : SAct a := ⟨hsa.name, hsa.toName, hsa.data⟩
      have hfit : RFit t a := hgo.sb.fit (by omega) (by have := hsb.name; omega) (by have := hsb.toName; omega) (by have := hsb.data; omega)
      have hsl : SmallL log := ⟨by have := hgo.len; omega, fun x hx => by unfold Act.Small; have := (hgo.acts x hx).data; omega⟩
      have hsm : (a).Small := by unfold Act.Small; have := hsb.data; omega
      by_cases he : rApplyE t a = 0
      · refine cw_call rfl rfl (by simp only [go_sem]; try exact rfl) (by simp [go_sem]) ⟨_, Go.Proofs.Try.func28, by kernel_rfl, rfl⟩ (by simp [go_sem]) (rapply_yes hfit he) (by simp [go_sem]) (by simp only [go_sem]; exact rfl) ?_
        refine cw_go tabOK 99 (by simp only [go_sem]; try exact rfl) (by simp [go_sem]) ?_
        refine cw_cond (by simp only [go_sem]; try exact rfl) trivial (fun h => ?_) (fun h => ?_)
        · cases h
        cases hadd : addLog log ⟨a, 0, i⟩ with
        | none =>
          have h20 := addLog_none hadd
          refine cw_go tabOK 99 (by simp only [go_sem]; try exact rfl) (by simp [go_sem]) ?_
          refine cw_call rfl rfl (by simp only [go_sem]; try exact rfl) (by simp [go_sem]) ⟨_, Go.Proofs.Try.func16, by kernel_rfl, rfl⟩ (by simp [go_sem]) (add_none hsl hsm hadd) (by simp [go_sem]) (by simp only [go_sem]; exact rfl) ?_
          refine cw_go tabOK 99 (by simp only [go_sem]; try exact rfl) (by simp [go_sem]) ?_
          refine cw_cond (by simp only [go_sem]; try exact rfl) trivial (fun h => ?_) (fun h => ?_)
          · refine cw_go tabOK 99 (by simp only [go_sem]; try exact rfl) (by simp [go_sem]) ?_
            refine cw_ret ⟨_, _, (by simp only [go_sem]; try exact rfl), by simp [go_sem], _, .inr (.inl rfl), ?_⟩
            simp
            omega
          · cases h
        | some m =>
          have hml := addLog_short hadd
          have hgl := hgo.len
          refine cw_go tabOK 99 (by simp only [go_sem]; try exact rfl) (by simp [go_sem]) ?_
          refine cw_call rfl rfl (by simp only [go_sem]; try exact rfl) (by simp [go_sem]) ⟨_, Go.Proofs.Try.func16, by kernel_rfl, rfl⟩ (by simp [go_sem]) (add_some hsl hsm hadd) (by simp [go_sem]) (by simp only [go_sem]; exact rfl) ?_
          refine cw_go tabOK 99 (by simp only [go_sem]; try exact rfl) (by simp [go_sem]) ?_
          refine cw_cond (by simp only [go_sem]; try exact rfl) trivial (fun h => ?_) (fun h => ?_)
          · cases h
          refine cw_go tabOK 99 (by simp only [go_sem, hw]; try exact rfl) (by simp [go_sem, hw]) ?_
          refine cw_back ⟨(i + 1, m, rApplyL t a 0), ⟨by show i + 1 ≤ _; omega, Shrt.step hRi hpos hgo.sh hr he hadd, hgo.sb.apply hsb.data he, by show m.length ≤ i + 1; omega, addLog_small hadd hgo.acts hsb⟩, by simp only; omega, le_sub ?_ ?_ ?_⟩
          · simp [go_sem]
          · simp [go_sem]
          · simp [go_sem]
      · refine cw_call rfl rfl (by simp only [go_sem]; try exact rfl) (by simp [go_sem]) ⟨_, Go.Proofs.Try.func28, by kernel_rfl, rfl⟩ (by simp [go_sem]) (rapply_no hfit he) (by simp [go_sem]) (by simp only [go_sem]; exact rfl) ?_
        refine cw_go tabOK 99 (by simp only [go_sem]; try exact rfl) (by simp [go_sem]) ?_
        refine cw_cond (by simp only [go_sem]; try exact rfl) trivial (fun h => ?_) (fun h => ?_)
        · refine cw_go tabOK 99 (by simp only [go_sem, hw]; try exact rfl) (by simp [go_sem, hw]) ?_
          have hgl := hgo.len
          refine cw_back ⟨(i + 1, log, t), ⟨by show i + 1 ≤ _; omega, hgo.sh, hgo.sb.mono (by show i ≤ i + 1; omega), by show log.length ≤ i + 1; omega, hgo.acts⟩, by simp only; omega, le_sub ?_ ?_ ?_⟩
          · simp [go_sem]
          · simp [go_sem]
          · simp [go_sem]
        · exfalso; simp [he] at h
  have e : i = al.length := by simp at h; omega
  subst e
  obtain ⟨now, hnow, hE⟩ := hgo.sh.runs
  have hsm := hgo.sh.same hRi hnow
  have hnri := runR_ri hRi hnow
  refine cw_go tabOK 99 (by simp only [go_sem]; try exact rfl) (by simp [go_sem]) ?_
  refine cw_callG [] 2000 rfl rfl (by simp only [go_sem]; try exact rfl) (by simp [go_sem]) ⟨_, Go.Proofs.Try.func26, by kernel_rfl, rfl⟩ (by simp only [go_sem, Bool.false_or, Bool.or_true, Bool.true_or, if_true]; try exact rfl) (hof) (by simp [go_sem]) (by simp [go_sem]) (by simp [go_sem]) (by simp only [go_sem]) (by simp [go_sem]) (by simp only [go_sem, Bool.false_or, Bool.or_true, Bool.true_or, Bool.or_false, ↓reduceIte]; exact rfl) ?_
  refine cw_go tabOK 99 (by simp only [go_sem]; try exact rfl) (by simp [go_sem]) ?_
  refine cw_freezeM 2006 rfl ?_
  simp only [go_sem]
  refine cw_loopS (fun x : Nat × List Node => x.1 ≤ log.length ∧ SB x.1 x.2 ∧ runR ((log.drop x.1).map (·.act)) x.2 = some now) (fun x => log.length - x.1) (fun x => [(15, .rm (mN (mapD x.2))), (17, .any), (18, .any), (19, .any), (90, .int .i64 x.1), (91, .any), (92, .any), (93, .any), (94, .any), (95, .any), (96, .any), (97, .any), (98, .any), (99, .any), (100, .any), (101, .any), (102, .any), (103, .any), (104, .any)]) (fun _ => []) (0, l) ⟨by omega, hSB, by rw [List.drop_zero]; exact hnow⟩ ?_ fun x hx => ?_
  · simp only [go_sem]
    exact le_sub (by simp [go_sem]) (by simp [go_sem]) (by simp [go_sem])
  obtain ⟨i, p⟩ := x
  obtain ⟨hi2, hsb, hrun⟩ := hx
  simp only at hi2 hsb hrun
  have hlen := hgo.len
  simp only [go_sem]
  refine cw_go tabOK 99 (by simp only [go_sem]; try exact rfl) (by simp [go_sem]) ?_
  refine cw_cond (by simp only [go_sem]; try exact rfl) trivial (fun h => ?_) (fun h => ?_)
  · have hlt : i < log.length := by simp at h; omega
    have hg : (log.map recRow).getD i [] = recRow (log.getD i default) := Fam.getD hlt
    have hw : IntKind.i64.wrap ((i : Int) + 1) = ((i + 1 : Nat) : Int) := by rw [Eng.wrap_small (by omega) (by omega)]; rfl
    have hsa := hgo.acts _ (getD_mem hlt)
    rw [drop_getD hlt, List.map_cons, runR_cons] at hrun
    generalize log.getD i default = r at hg hsa hrun
    obtain ⟨he, hrun2⟩ := hrun
    have hfit : RFit p r.act := hsb.fit (by omega) (by have := hsa.name; omega) (by have := hsa.toName; omega) (by have := hsa.data; omega)
    refine cw_go tabOK 99 (by simp only [go_sem, hg, recRow]; try exact rfl) ?_ ?_
    · simp [hg, recRow, hlt]
    refine cw_call rfl rfl (by simp only [go_sem]; try exact rfl) (by simp [go_sem]) ⟨_, Go.Proofs.Try.func28, by kernel_rfl, rfl⟩ (by simp [go_sem]) (rapply_yes hfit he) (by simp [go_sem]) (by simp only [go_sem]; exact rfl) ?_
    refine cw_go tabOK 99 (by simp only [go_sem]; try exact rfl) (by simp [go_sem]) ?_
    refine cw_cond (by simp only [go_sem]; try exact rfl) trivial (fun h => ?_) (fun h => ?_)
    · cases h
    refine cw_go tabOK 99 (by simp only [go_sem, hw]; try exact rfl) (by simp [go_sem, hw]) ?_
    refine cw_back ⟨(i + 1, rApplyL p r.act 0), ⟨by show i + 1 ≤ _; omega, hsb.apply hsa.data he, hrun2⟩, by simp only; omega, le_sub ?_ ?_ ?_⟩
    · simp [go_sem]
    · simp [go_sem]
    · simp [go_sem]
  have e : i = log.length := by simp at h; omega
  subst e
  rw [List.drop_length, List.map_nil, runR] at hrun
  injection hrun with hrun
  subst hrun
  refine cw_go tabOK 99 (by simp only [go_sem]; try exact rfl) (by simp [go_sem]) ?_
  refine cw_call rfl rfl (by simp only [go_sem]; try exact rfl) (by simp [go_sem]) ⟨_, Go.Proofs.Try.func30, by kernel_rfl, rfl⟩ (by simp [go_sem]) (list_ok p hnri.up (by have := hsb.len; omega)) (by simp [go_sem]) (by simp only [go_sem]; exact rfl) ?_
  refine cw_go tabOK 99 (by simp only [go_sem]; try exact rfl) (by simp [go_sem]) ?_
  refine cw_call rfl rfl (by simp only [go_sem]; try exact rfl) (by simp [go_sem]) ⟨_, Go.Proofs.Try.func30, by kernel_rfl, rfl⟩ (by simp [go_sem]) (list_ok t hgo.sb.ri.up (by have := hgo.sb.len; omega)) (by simp [go_sem]) (by simp only [go_sem]; exact rfl) ?_
  refine cw_call rfl rfl (by simp only [go_sem]; try exact rfl) (by simp [go_sem]) ⟨_, Go.Proofs.Try.func29, by kernel_rfl, rfl⟩ (by simp [go_sem]) (same_ok p t false (hsb.small (by omega)) (hgo.sb.small (by omega))) (by simp [go_sem]) (by simp only [go_sem]; exact rfl) ?_
  rw [hsm]
  refine cw_go tabOK 99 (by simp only [go_sem]; try exact rfl) (by simp [go_sem]) ?_
  refine cw_ret ⟨_, _, (by simp only [go_sem]; try exact rfl), by simp [go_sem], _, .inr (.inl rfl), ?_⟩
  rfl
end La

namespace La
open Go Go.Eng Go.Proofs Go.Proofs.Ytldpfleilffanaa

/-- cells that read so, in blocks that are there -/
def RdC (w : World) (cs : List Value) (xs : List AV) : Prop := cs.length = xs.length ∧ ∀ (j : Nat) y, xs[j]? = some y → RdP (fun b => b < w.heap.size) w (cs.getD j undef) y

theorem rdc_nil {w : World} {cs : List Value} {off : Nat} (h : cs.length = off) : RdC w (cs.drop off) [] :=
  ⟨by simp; omega, fun j y hj => by simp at hj⟩

theorem rdc_cons {w : World} {cs : List Value} {xs ys : List AV} (off s : Nat) (h : RdC w ((cs.drop off).take s) xs) (hs : xs.length = s) (k : RdC w (cs.drop (off + s)) ys) : RdC w (cs.drop off) (xs ++ ys) := by
  obtain ⟨h1, h2⟩ := h
  obtain ⟨k1, k2⟩ := k
  have hl : (cs.drop off).length = s + (cs.drop (off + s)).length := by
    simp only [List.length_take, List.length_drop] at h1 k1 ⊢
    omega
  refine ⟨by rw [List.length_append, hl, hs, k1], fun j y hj => ?_⟩
  by_cases hjs : j < s
  · rw [List.getElem?_append_left (by omega)] at hj
    have := h2 j y hj
    rwa [List.getD_eq_getElem?_getD, List.getElem?_take, if_pos hjs, ← List.getD_eq_getElem?_getD] at this
  · rw [List.getElem?_append_right (by omega), hs] at hj
    have := k2 (j - s) y hj
    rw [List.getD_eq_getElem?_getD, List.getElem?_drop] at this
    rw [List.getD_eq_getElem?_getD, List.getElem?_drop]
    rwa [show off + s + (j - s) = off + j from by omega] at this

/-- A TYPE's VALUES, AS LEAN HAS THEM: the cells read as 'f x', 'q' holds of it, and it is no larger than what was read. -/
structure Rep (t : TypeId) {α : Type} (f : α → List AV) (q : α → Prop) (sz : α → Nat) : Prop where
  size : ∀ x, (f x).length = (Try.prog).cellsOf t
  opn : ∀ {H : Type} (enc : TypeId × Value → H) (w : World) (n : Nat) (cs : List Value) (y : DataW H × List MemPlace), DataW.trod enc Try.prog w 0 (fun _ => true) true n t cs = some y →
    ∃ x : α, q x ∧ sz x ≤ Rows.uptoBulk y.1 ∧ RdC w cs (f x)

theorem cells_tab {t : TypeId} {n : Nat} (h : tab.siz t = n) (h0 : n ≠ 0) : (Try.prog).cellsOf t = n := by
  obtain ⟨i, h1, h2, _⟩ := tabOK.siz t (by rw [h]; exact h0)
  unfold Program.cellsOf
  rw [h1]
  simp [h2, h]

theorem rep_int {t : TypeId} (ht : (Try.prog).underlying t = some (.int .i64)) (hs : (Try.prog).cellsOf t = 1) : Rep t (fun n : Int => [AV.int .i64 n]) (fun n => -9223372036854775808 ≤ n ∧ n ≤ 9223372036854775807) (fun _ => 1) where
  size := fun _ => by rw [hs]; rfl
  opn := fun enc w n cs y h => by
    obtain ⟨m, rfl, rfl, hw⟩ := DataW.trod_int ht h
    refine ⟨m, ?_, by simp [Rows.uptoBulk], rfl, fun j y hj => ?_⟩
    · simpa [Lit.wf, IntKind.min, IntKind.max, IntKind.bits, IntKind.signed] using hw
    · cases j with
      | zero => simp only [List.getElem?_cons_zero, Option.some.injEq] at hj; subst hj; exact .int _ _
      | succ j => simp at hj

theorem rep_bool {t : TypeId} (ht : (Try.prog).underlying t = some .bool) (hs : (Try.prog).cellsOf t = 1) : Rep t (fun b : Bool => [AV.bool b]) (fun _ => True) (fun _ => 1) where
  size := fun _ => by rw [hs]; rfl
  opn := fun enc w n cs y h => by
    obtain ⟨b, rfl, rfl⟩ := DataW.trod_bool ht h
    refine ⟨b, trivial, by simp [Rows.uptoBulk], rfl, fun j y hj => ?_⟩
    cases j with
    | zero => simp only [List.getElem?_cons_zero, Option.some.injEq] at hj; subst hj; exact .bool _
    | succ j => simp at hj

theorem rep_str {t : TypeId} (ht : (Try.prog).underlying t = some .string) (hs : (Try.prog).cellsOf t = 1) : Rep t (fun s : List UInt8 => [AV.str s]) (fun _ => True) (fun s => s.length + 1) where
  size := fun _ => by rw [hs]; rfl
  opn := fun enc w n cs y h => by
    obtain ⟨s, rfl, rfl, _⟩ := DataW.trod_string ht h
    refine ⟨s.data.toList, trivial, by simp [Rows.uptoBulk], rfl, fun j y hj => ?_⟩
    cases j with
    | zero => simp only [List.getElem?_cons_zero, Option.some.injEq] at hj; subst hj; exact .str _ _ rfl
    | succ j => simp at hj

theorem rep_byte {t : TypeId} (ht : (Try.prog).underlying t = some (.int .u8)) (hs : (Try.prog).cellsOf t = 1) : Rep t byteRow (fun _ => True) (fun _ => 1) where
  size := fun _ => by rw [hs]; rfl
  opn := fun enc w n cs y h => by
    obtain ⟨m, rfl, rfl, hw⟩ := DataW.trod_int ht h
    have hb : 0 ≤ m ∧ m ≤ 255 := by simpa [Lit.wf, IntKind.min, IntKind.max, IntKind.bits, IntKind.signed] using hw
    refine ⟨UInt8.ofNat m.toNat, trivial, by simp [Rows.uptoBulk], rfl, fun j y hj => ?_⟩
    cases j with
    | zero =>
      simp only [byteRow, List.getElem?_cons_zero, Option.some.injEq] at hj
      subst hj
      have : ((UInt8.ofNat m.toNat).toNat : Int) = m := by
        rw [UInt8.toNat_ofNat']
        omega
      rw [this]; exact .int _ _
    | succ j => simp [byteRow] at hj

/-- how much a list holds -/
def szL {α : Type} (sz : α → Nat) : List α → Nat
  | [] => 0
  | x :: r => sz x + szL sz r

theorem szL_mem {α : Type} {sz : α → Nat} {x : α} : ∀ {l : List α}, x ∈ l → sz x ≤ szL sz l
  | y :: r, h => by
    rcases List.mem_cons.1 h with rfl | h
    · simp only [szL]; omega
    · have := szL_mem (sz := sz) h; simp only [szL]; omega

theorem szL_len {α : Type} {sz : α → Nat} (h : ∀ x, 1 ≤ sz x) : ∀ (l : List α), l.length ≤ szL sz l
  | [] => Nat.le_refl _
  | x :: r => by have := szL_len h r; have := h x; simp only [szL, List.length_cons]; omega

theorem bulkAll_append {H : Type} : ∀ (a b : List (DataW H)), Rows.uptoBulkAll (a ++ b) = Rows.uptoBulkAll a + Rows.uptoBulkAll b
  | [], b => by simp [Rows.uptoBulkAll]
  | x :: a, b => by simp only [List.cons_append, Rows.uptoBulkAll, bulkAll_append a b]; omega

/-- what each element is, one by one -/
theorem pick_list {α H : Type} {q : α → Prop} {sz : α → Nat} {R : Nat → α → Prop} : ∀ (elems : List (DataW H × List MemPlace)) (i0 : Nat), (∀ (i : Nat) y, elems[i]? = some y → ∃ x, q x ∧ sz x ≤ Rows.uptoBulk y.1 ∧ R (i0 + i) x) →
    ∃ l : List α, l.length = elems.length ∧ (∀ x, x ∈ l → q x) ∧ szL sz l ≤ Rows.uptoBulkAll (elems.map (·.1)) ∧ ∀ (i : Nat) x, l[i]? = some x → R (i0 + i) x
  | [], _, _ => ⟨[], rfl, fun x h => by simp at h, by simp [szL], fun i x h => by simp at h⟩
  | y :: r, i0, h => by
    obtain ⟨x, h1, h2, h3⟩ := h 0 y rfl
    obtain ⟨l, k1, k2, k3, k4⟩ := pick_list (R := R) r (i0 + 1) (fun i z hz => by rw [show i0 + 1 + i = i0 + (i + 1) from by omega]; exact h (i + 1) z (by simpa using hz))
    refine ⟨x :: l, by simp [k1], fun z hz => ?_, ?_, fun i z hz => ?_⟩
    · rcases List.mem_cons.1 hz with rfl | hz
      · exact h1
      · exact k2 z hz
    · simp only [szL, List.map_cons, Rows.uptoBulkAll]; omega
    · cases i with
      | zero => simp only [List.getElem?_cons_zero, Option.some.injEq] at hz; subst hz; exact h3
      | succ i => rw [show i0 + (i + 1) = i0 + 1 + i from by omega]; exact k4 i z (by simpa using hz)

theorem cells_some {w : World} {a : Addr} {n : Nat} {cs : List Value} (h : w.cells? 0 a n = some cs) : cs.length = n ∧ ∀ i, i < n → w.cell? (a.add i) = cs[i]? := by
  unfold World.cells? at h
  rw [if_pos (Nat.zero_le _)] at h
  have hl := mapM_some_length h
  refine ⟨by simpa using hl, fun i hi => ?_⟩
  exact mapM_some_get h i i (by simp [hi])

theorem rep_slice {t e : TypeId} {α : Type} {f : α → List AV} {q : α → Prop} {sz : α → Nat} (ht : (Try.prog).underlying t = some (.slice e)) (hs : (Try.prog).cellsOf t = 1) (he : Rep e f q sz) (hsz : (Try.prog).cellsOf e ≠ 0) :
    Rep t (fun l : List α => [AV.sl (l.map f)]) (fun l => ∀ x, x ∈ l → q x) (fun l => szL sz l + 1) where
  size := fun _ => by rw [hs]; rfl
  opn := fun enc w n cs y h => by
    rcases DataW.trod_slice ht h with ⟨rfl, rfl⟩ | ⟨a, len, cap, elems, rest, m, rfl, rfl, rfl, h1, h2, h3, h4, h5, _⟩
    · refine ⟨[], fun x hx => by simp at hx, by simp [szL, Rows.uptoBulk], rfl, fun j y hj => ?_⟩
      cases j with
      | zero =>
        simp only [List.map_nil, List.getElem?_cons_zero, Option.some.injEq] at hj; subst hj
        exact .sl none 0 0 [] 0 0 0 (fun _ _ => undef) rfl (Nat.le_refl _) (fun row h => by simp at h) (fun h => by omega) (fun i j h => by omega) (fun i row h => by simp at h)
      | succ j => simp at hj
    · have key : ∀ (i : Nat) y, elems[i]? = some y → ∃ x, q x ∧ sz x ≤ Rows.uptoBulk y.1 ∧ (∃ cs, w.cells? 0 (a.add ((0 + i) * (Try.prog).cellsOf e)) ((Try.prog).cellsOf e) = some cs ∧ RdC w cs (f x)) := fun i y hy => by
        have hi : i < len := by rw [← h4]; exact (List.getElem?_eq_some_iff.1 hy).1
        have := h5 i hi
        rw [hy] at this
        obtain ⟨cs, k1, k2⟩ := Option.bind_eq_some_iff.1 this
        obtain ⟨x, q1, q2, q3⟩ := he.opn enc w m cs y k2
        exact ⟨x, q1, q2, cs, by rw [Nat.zero_add]; exact k1, q3⟩
      obtain ⟨l, l1, l2, l3, l4⟩ := pick_list (q := q) (sz := sz) (R := fun i x => ∃ cs, w.cells? 0 (a.add (i * (Try.prog).cellsOf e)) ((Try.prog).cellsOf e) = some cs ∧ RdC w cs (f x)) elems 0 key
      refine ⟨l, l2, by simp only [Rows.uptoBulk]; omega, rfl, fun j y hj => ?_⟩
      cases j with
      | succ j => simp at hj
      | zero =>
        simp only [List.getElem?_cons_zero, Option.some.injEq] at hj
        subst hj
        have hcell : ∀ i j, i < l.length → j < (Try.prog).cellsOf e → ∃ (b : a.spot = none ∨ True) (x : α) (cs : List Value), l[i]? = some x ∧ RdC w cs (f x) ∧ w.cell? (a.add (i * (Try.prog).cellsOf e) |>.add j) = cs[j]? ∧ j < cs.length := fun i j hi hj => by
          obtain ⟨cs, k1, k2⟩ := l4 i l[i] (List.getElem?_eq_getElem hi)
          obtain ⟨c1, c2⟩ := cells_some k1
          rw [Nat.zero_add] at c2
          exact ⟨.inr trivial, l[i], cs, List.getElem?_eq_getElem hi, k2, c2 j hj, by omega⟩
        by_cases h0 : l.length = 0
        · have : l = [] := List.eq_nil_of_length_eq_zero h0
          subst this
          simp only [List.map_nil]
          have e0 : len = 0 := by rw [← h4, ← l1]; rfl
          subst e0
          exact .sl (some a) 0 cap [] 0 0 0 (fun _ _ => undef) rfl (Nat.zero_le _) (fun row h => by simp at h) (fun h => by omega) (fun i j h => by omega) (fun i row h => by simp at h)
        · have hspot : a.spot = none ∧ a.block < w.heap.size := by
            obtain ⟨_, x, cs, _, _, c3, c4⟩ := hcell 0 0 (by omega) (by omega)
            rw [List.getElem?_eq_getElem c4] at c3
            have c3' : w.cell? a = some cs[0] := by simpa [Addr.add] using c3
            unfold World.cell? at c3'
            split at c3'
            · rename_i c e' f' hb
              split at c3'
              · cases c3'
              · rename_i hsp
                refine ⟨?_, ?_⟩
                · cases e : a.spot with
                  | none => rfl
                  | some k => rw [e] at hsp; simp at hsp
                · exact (Array.getElem?_eq_some_iff.1 hb).1
            · cases c3'
          obtain ⟨ab, ao, asp⟩ := a
          simp only at hspot
          obtain ⟨rfl, hlt⟩ := hspot
          have hadd : ∀ (i j : Nat), ((⟨ab, ao, none⟩ : Addr).add (i * (Try.prog).cellsOf e) |>.add j) = ⟨ab, ao + (i * (Try.prog).cellsOf e + j), none⟩ := fun i j => by
            rw [add_plain, add_plain, Nat.add_assoc]
          refine .sl (some ⟨ab, ao, none⟩) len cap (l.map f) ((Try.prog).cellsOf e) ab ao (fun i j => (w.cell? ⟨ab, ao + (i * (Try.prog).cellsOf e + j), none⟩).getD undef) (by simp [l1, h4]) h2 (fun row hr => ?_) (fun _ => ⟨rfl, hlt⟩) (fun i j hi hj => ?_) (fun i row hrow j x hx => ?_)
          · obtain ⟨x, _, rfl⟩ := List.mem_map.1 hr
            exact he.size x
          · obtain ⟨_, x, cs, _, _, c3, c4⟩ := hcell i j (by omega) hj
            rw [hadd, List.getElem?_eq_getElem c4] at c3
            rw [c3]; rfl
          · rw [List.getElem?_map] at hrow
            cases e1 : l[i]? with
            | none => rw [e1] at hrow; cases hrow
            | some x0 =>
              rw [e1] at hrow
              simp only [Option.map_some, Option.some.injEq] at hrow
              subst hrow
              have hi : i < l.length := (List.getElem?_eq_some_iff.1 e1).1
              have hj : j < (Try.prog).cellsOf e := by rw [← he.size x0]; exact (List.getElem?_eq_some_iff.1 hx).1
              obtain ⟨_, x1, cs, c1, c2, c3, c4⟩ := hcell i j hi hj
              rw [e1] at c1
              injection c1 with c1
              subst c1
              have := c2.2 j x hx
              rw [hadd, List.getElem?_eq_getElem c4] at c3
              simp only [c3, Option.getD_some]
              rwa [List.getD_eq_getElem?_getD, List.getElem?_eq_getElem c4] at this

/-! ### The program's types -/

theorem rep_i (t : TypeId) (ht : (Try.prog).underlying t = some (.int .i64)) (hs : tab.siz t = 1) : Rep t (fun n : Int => [AV.int .i64 n]) (fun n => -9223372036854775808 ≤ n ∧ n ≤ 9223372036854775807) (fun _ => 1) := rep_int ht (cells_tab hs (by decide))

theorem rep_bytes : Rep 23 (fun d : List UInt8 => [AV.sl (d.map byteRow)]) (fun l => ∀ x, x ∈ l → True) (fun l => szL (fun _ => 1) l + 1) :=
  rep_slice Try.underlying23 (cells_tab (t := 23) (n := 1) rfl (by decide)) (rep_byte Try.underlying5 (cells_tab (t := 5) (n := 1) rfl (by decide))) (by rw [cells_tab (t := 5) (n := 1) rfl (by decide)]; decide)

def i64 (n : Int) : Prop := -9223372036854775808 ≤ n ∧ n ≤ 9223372036854775807

structure Entry.Ok (e : Entry) : Prop where
  fid : i64 e.fid
structure Node.Ok (n : Node) : Prop where
  fid : i64 n.fid
  entries : ∀ e, e ∈ n.entries → e.Ok
  version : i64 n.version
structure Act.Ok (a : Act) : Prop where
  kind : i64 a.kind
  fid : i64 a.fid
  dir : i64 a.dir
  to : i64 a.to
structure Rec.Ok (r : Rec) : Prop where
  act : r.act.Ok
  version : i64 r.version
  id : i64 r.id
def Entry.sz (e : Entry) : Nat := e.name.length + 1
def Node.sz (n : Node) : Nat := n.data.length + szL Entry.sz n.entries + 1
def Act.sz (a : Act) : Nat := a.name.length + a.toName.length + a.data.length + 1
def Rec.sz (r : Rec) : Nat := r.act.sz + 1
theorem szL_ones {α : Type} : ∀ (l : List α), szL (fun _ => 1) l = l.length
  | [] => rfl
  | x :: r => by simp only [szL, szL_ones r, List.length_cons]; omega

theorem rep_entry : Rep 115 entryRow Entry.Ok Entry.sz where
  size := fun x => by rw [cells_tab (t := 115) (n := 2) rfl (by decide)]; rfl
  opn := fun enc w n cs y h => by
    obtain ⟨xs, m, rfl, rfl, hl, hxl, hf⟩ := DataW.trod_struct Try.underlying115 h
    obtain ⟨y0, y1, rfl⟩ : ∃ y0 y1, xs = [y0, y1] := by
      have hxl : xs.length = 2 := hxl
      match xs, hxl with
      | [a0, a1], _ => exact ⟨a0, a1, rfl⟩
    have e0 : DataW.trod enc Try.prog w 0 (fun _ => true) true m 9 ((cs.drop 0).take ((Try.prog).cellsOf 9)) = some y0 := hf 0 _ rfl
    obtain ⟨x0, q0, s0, r0⟩ := (rep_str Try.underlying9 (cells_tab (t := 9) (n := 1) rfl (by decide))).opn enc w m _ _ e0
    rw [cells_tab (t := 9) (n := 1) rfl (by decide)] at r0
    have e1 : DataW.trod enc Try.prog w 0 (fun _ => true) true m 3 ((cs.drop 1).take ((Try.prog).cellsOf 3)) = some y1 := hf 1 _ rfl
    obtain ⟨x1, q1, s1, r1⟩ := (rep_i 3 Try.underlying3 rfl).opn enc w m _ _ e1
    rw [cells_tab (t := 3) (n := 1) rfl (by decide)] at r1
    refine ⟨⟨x0, x1⟩, ⟨q1⟩, ?_, ?_⟩
    · simp only [Entry.sz, Rows.uptoBulk, Rows.uptoBulkAll, List.map_cons, List.map_nil]; omega
    · have hl : cs.length = 2 := by rw [hl, cells_tab (t := 115) (n := 2) rfl (by decide)]
      have := rdc_cons 0 1 r0 rfl (rdc_cons 1 1 r1 rfl (rdc_nil hl))
      rw [List.drop_zero] at this
      exact this

theorem rep_entries : Rep 44 (fun l : List Entry => [AV.sl (l.map entryRow)]) (fun l => ∀ x, x ∈ l → x.Ok) (fun l => szL Entry.sz l + 1) :=
  rep_slice Try.underlying44 (cells_tab (t := 44) (n := 1) rfl (by decide)) rep_entry (by rw [cells_tab (t := 115) (n := 2) rfl (by decide)]; decide)

theorem rep_node : Rep 46 nodeRow Node.Ok Node.sz where
  size := fun x => by rw [cells_tab (t := 46) (n := 5) rfl (by decide)]; rfl
  opn := fun enc w n cs y h => by
    obtain ⟨xs, m, rfl, rfl, hl, hxl, hf⟩ := DataW.trod_struct Try.underlying46 h
    obtain ⟨y0, y1, y2, y3, y4, rfl⟩ : ∃ y0 y1 y2 y3 y4, xs = [y0, y1, y2, y3, y4] := by
      have hxl : xs.length = 5 := hxl
      match xs, hxl with
      | [a0, a1, a2, a3, a4], _ => exact ⟨a0, a1, a2, a3, a4, rfl⟩
    have e0 : DataW.trod enc Try.prog w 0 (fun _ => true) true m 3 ((cs.drop 0).take ((Try.prog).cellsOf 3)) = some y0 := hf 0 _ rfl
    obtain ⟨x0, q0, s0, r0⟩ := (rep_i 3 Try.underlying3 rfl).opn enc w m _ _ e0
    rw [cells_tab (t := 3) (n := 1) rfl (by decide)] at r0
    have e1 : DataW.trod enc Try.prog w 0 (fun _ => true) true m 4 ((cs.drop 1).take ((Try.prog).cellsOf 4)) = some y1 := hf 1 _ rfl
    obtain ⟨x1, q1, s1, r1⟩ := (rep_bool Try.underlying4 (cells_tab (t := 4) (n := 1) rfl (by decide))).opn enc w m _ _ e1
    rw [cells_tab (t := 4) (n := 1) rfl (by decide)] at r1
    have e2 : DataW.trod enc Try.prog w 0 (fun _ => true) true m 23 ((cs.drop 2).take ((Try.prog).cellsOf 23)) = some y2 := hf 2 _ rfl
    obtain ⟨x2, q2, s2, r2⟩ := (rep_bytes).opn enc w m _ _ e2
    rw [cells_tab (t := 23) (n := 1) rfl (by decide)] at r2
    have e3 : DataW.trod enc Try.prog w 0 (fun _ => true) true m 44 ((cs.drop 3).take ((Try.prog).cellsOf 44)) = some y3 := hf 3 _ rfl
    obtain ⟨x3, q3, s3, r3⟩ := (rep_entries).opn enc w m _ _ e3
    rw [cells_tab (t := 44) (n := 1) rfl (by decide)] at r3
    have e4 : DataW.trod enc Try.prog w 0 (fun _ => true) true m 3 ((cs.drop 4).take ((Try.prog).cellsOf 3)) = some y4 := hf 4 _ rfl
    obtain ⟨x4, q4, s4, r4⟩ := (rep_i 3 Try.underlying3 rfl).opn enc w m _ _ e4
    rw [cells_tab (t := 3) (n := 1) rfl (by decide)] at r4
    refine ⟨⟨x0, x1, x2, x3, x4⟩, ⟨q0, q3, q4⟩, ?_, ?_⟩
    · simp only [szL_ones] at s2
      simp only [Node.sz, Rows.uptoBulk, Rows.uptoBulkAll, List.map_cons, List.map_nil]; omega
    · have hl : cs.length = 5 := by rw [hl, cells_tab (t := 46) (n := 5) rfl (by decide)]
      have := rdc_cons 0 1 r0 rfl (rdc_cons 1 1 r1 rfl (rdc_cons 2 1 r2 rfl (rdc_cons 3 1 r3 rfl (rdc_cons 4 1 r4 rfl (rdc_nil hl)))))
      rw [List.drop_zero] at this
      exact this

theorem rep_nodes : Rep 39 (fun l : List Node => [AV.sl (l.map nodeRow)]) (fun l => ∀ x, x ∈ l → x.Ok) (fun l => szL Node.sz l + 1) :=
  rep_slice Try.underlying39 (cells_tab (t := 39) (n := 1) rfl (by decide)) rep_node (by rw [cells_tab (t := 46) (n := 5) rfl (by decide)]; decide)

theorem rep_act : Rep 25 actRow Act.Ok Act.sz where
  size := fun x => by rw [cells_tab (t := 25) (n := 7) rfl (by decide)]; rfl
  opn := fun enc w n cs y h => by
    obtain ⟨xs, m, rfl, rfl, hl, hxl, hf⟩ := DataW.trod_struct Try.underlying25 h
    obtain ⟨y0, y1, y2, y3, y4, y5, y6, rfl⟩ : ∃ y0 y1 y2 y3 y4 y5 y6, xs = [y0, y1, y2, y3, y4, y5, y6] := by
      have hxl : xs.length = 7 := hxl
      match xs, hxl with
      | [a0, a1, a2, a3, a4, a5, a6], _ => exact ⟨a0, a1, a2, a3, a4, a5, a6, rfl⟩
    have e0 : DataW.trod enc Try.prog w 0 (fun _ => true) true m 3 ((cs.drop 0).take ((Try.prog).cellsOf 3)) = some y0 := hf 0 _ rfl
    obtain ⟨x0, q0, s0, r0⟩ := (rep_i 3 Try.underlying3 rfl).opn enc w m _ _ e0
    rw [cells_tab (t := 3) (n := 1) rfl (by decide)] at r0
    have e1 : DataW.trod enc Try.prog w 0 (fun _ => true) true m 3 ((cs.drop 1).take ((Try.prog).cellsOf 3)) = some y1 := hf 1 _ rfl
    obtain ⟨x1, q1, s1, r1⟩ := (rep_i 3 Try.underlying3 rfl).opn enc w m _ _ e1
    rw [cells_tab (t := 3) (n := 1) rfl (by decide)] at r1
    have e2 : DataW.trod enc Try.prog w 0 (fun _ => true) true m 3 ((cs.drop 2).take ((Try.prog).cellsOf 3)) = some y2 := hf 2 _ rfl
    obtain ⟨x2, q2, s2, r2⟩ := (rep_i 3 Try.underlying3 rfl).opn enc w m _ _ e2
    rw [cells_tab (t := 3) (n := 1) rfl (by decide)] at r2
    have e3 : DataW.trod enc Try.prog w 0 (fun _ => true) true m 9 ((cs.drop 3).take ((Try.prog).cellsOf 9)) = some y3 := hf 3 _ rfl
    obtain ⟨x3, q3, s3, r3⟩ := (rep_str Try.underlying9 (cells_tab (t := 9) (n := 1) rfl (by decide))).opn enc w m _ _ e3
    rw [cells_tab (t := 9) (n := 1) rfl (by decide)] at r3
    have e4 : DataW.trod enc Try.prog w 0 (fun _ => true) true m 3 ((cs.drop 4).take ((Try.prog).cellsOf 3)) = some y4 := hf 4 _ rfl
    obtain ⟨x4, q4, s4, r4⟩ := (rep_i 3 Try.underlying3 rfl).opn enc w m _ _ e4
    rw [cells_tab (t := 3) (n := 1) rfl (by decide)] at r4
    have e5 : DataW.trod enc Try.prog w 0 (fun _ => true) true m 9 ((cs.drop 5).take ((Try.prog).cellsOf 9)) = some y5 := hf 5 _ rfl
    obtain ⟨x5, q5, s5, r5⟩ := (rep_str Try.underlying9 (cells_tab (t := 9) (n := 1) rfl (by decide))).opn enc w m _ _ e5
    rw [cells_tab (t := 9) (n := 1) rfl (by decide)] at r5
    have e6 : DataW.trod enc Try.prog w 0 (fun _ => true) true m 23 ((cs.drop 6).take ((Try.prog).cellsOf 23)) = some y6 := hf 6 _ rfl
    obtain ⟨x6, q6, s6, r6⟩ := (rep_bytes).opn enc w m _ _ e6
    rw [cells_tab (t := 23) (n := 1) rfl (by decide)] at r6
    refine ⟨⟨x0, x1, x2, x3, x4, x5, x6⟩, ⟨q0, q1, q2, q4⟩, ?_, ?_⟩
    · simp only [szL_ones] at s6
      simp only [Act.sz, Rows.uptoBulk, Rows.uptoBulkAll, List.map_cons, List.map_nil]; omega
    · have hl : cs.length = 7 := by rw [hl, cells_tab (t := 25) (n := 7) rfl (by decide)]
      have := rdc_cons 0 1 r0 rfl (rdc_cons 1 1 r1 rfl (rdc_cons 2 1 r2 rfl (rdc_cons 3 1 r3 rfl (rdc_cons 4 1 r4 rfl (rdc_cons 5 1 r5 rfl (rdc_cons 6 1 r6 rfl (rdc_nil hl)))))))
      rw [List.drop_zero] at this
      exact this

theorem rep_acts : Rep 33 (fun l : List Act => [AV.sl (l.map actRow)]) (fun l => ∀ x, x ∈ l → x.Ok) (fun l => szL Act.sz l + 1) :=
  rep_slice Try.underlying33 (cells_tab (t := 33) (n := 1) rfl (by decide)) rep_act (by rw [cells_tab (t := 25) (n := 7) rfl (by decide)]; decide)

theorem rep_rec : Rep 27 recRow Rec.Ok Rec.sz where
  size := fun x => by rw [cells_tab (t := 27) (n := 9) rfl (by decide)]; rfl
  opn := fun enc w n cs y h => by
    obtain ⟨xs, m, rfl, rfl, hl, hxl, hf⟩ := DataW.trod_struct Try.underlying27 h
    obtain ⟨y0, y1, y2, rfl⟩ : ∃ y0 y1 y2, xs = [y0, y1, y2] := by
      have hxl : xs.length = 3 := hxl
      match xs, hxl with
      | [a0, a1, a2], _ => exact ⟨a0, a1, a2, rfl⟩
    have e0 : DataW.trod enc Try.prog w 0 (fun _ => true) true m 25 ((cs.drop 0).take ((Try.prog).cellsOf 25)) = some y0 := hf 0 _ rfl
    obtain ⟨x0, q0, s0, r0⟩ := (rep_act).opn enc w m _ _ e0
    rw [cells_tab (t := 25) (n := 7) rfl (by decide)] at r0
    have e1 : DataW.trod enc Try.prog w 0 (fun _ => true) true m 3 ((cs.drop 7).take ((Try.prog).cellsOf 3)) = some y1 := hf 1 _ rfl
    obtain ⟨x1, q1, s1, r1⟩ := (rep_i 3 Try.underlying3 rfl).opn enc w m _ _ e1
    rw [cells_tab (t := 3) (n := 1) rfl (by decide)] at r1
    have e2 : DataW.trod enc Try.prog w 0 (fun _ => true) true m 3 ((cs.drop 8).take ((Try.prog).cellsOf 3)) = some y2 := hf 2 _ rfl
    obtain ⟨x2, q2, s2, r2⟩ := (rep_i 3 Try.underlying3 rfl).opn enc w m _ _ e2
    rw [cells_tab (t := 3) (n := 1) rfl (by decide)] at r2
    refine ⟨⟨x0, x1, x2⟩, ⟨q0, q1, q2⟩, ?_, ?_⟩
    · simp only [Rec.sz, Rows.uptoBulk, Rows.uptoBulkAll, List.map_cons, List.map_nil]; omega
    · have hl : cs.length = 9 := by rw [hl, cells_tab (t := 27) (n := 9) rfl (by decide)]
      have := rdc_cons 0 7 r0 rfl (rdc_cons 7 1 r1 rfl (rdc_cons 8 1 r2 rfl (rdc_nil hl)))
      rw [List.drop_zero] at this
      exact this

theorem rep_recs : Rep 22 (fun l : List Rec => [AV.sl (l.map recRow)]) (fun l => ∀ x, x ∈ l → x.Ok) (fun l => szL Rec.sz l + 1) :=
  rep_slice Try.underlying22 (cells_tab (t := 22) (n := 1) rfl (by decide)) rep_rec (by rw [cells_tab (t := 27) (n := 9) rfl (by decide)]; decide)

/-! ### Arguments -/

/-- an argument, opened -/
theorem open_arg {t : TypeId} {α : Type} {f : α → List AV} {q : α → Prop} {sz : α → Nat} (h : Rep t f q sz) {H : Type} {enc : TypeId × Value → H} {w : World} {v : Value} {d : DataW H} {ps : List MemPlace}
    (hd : DataW.Trod enc Try.prog w 0 (fun _ => true) true t v d ps) : ∃ x, q x ∧ sz x ≤ Rows.uptoBulk d ∧ RdC w v.cells.toList (f x) := by
  obtain ⟨n, hn⟩ := hd
  exact h.opn enc w n _ _ hn

/-- of one cell -/
theorem rdc_one {w : World} {v : Value} {x : AV} (h : RdC w v.cells.toList [x]) (hv : ∀ cs, v ≠ .agg cs) : RdP (fun b => b < w.heap.size) w v x := by
  have := h.2 0 x rfl
  cases v with
  | agg cs => exact absurd rfl (hv cs)
  | _ => exact this

theorem rdc_agg {w : World} {cs : Array Value} {xs : List AV} (h : RdC w (Value.agg cs).cells.toList xs) : RdP (fun b => b < w.heap.size) w (.agg cs) (.agg xs) := by
  refine .agg cs xs (by have h1 : cs.toList.length = xs.length := h.1; simpa using h1) fun j y hj => ?_
  have := h.2 j y hj
  rwa [List.getD_eq_getElem?_getD, Array.getElem?_toList, ← Array.getD_eq_getD_getElem?] at this

/-! ### What is not large -/
theorem Act.sz_data (a : Act) : a.data.length ≤ a.sz := by unfold Act.sz; omega
theorem nodeSmall_of {n : Node} (h : n.sz ≤ 1048576) : n.Small := by
  have h1 := szL_len (sz := Entry.sz) (fun e => by unfold Entry.sz; omega) n.entries
  unfold Node.sz at h
  exact ⟨by omega, by omega⟩
theorem small_of {l : List Node} (h : szL Node.sz l ≤ 1048576) : Small l :=
  ⟨by have := szL_len (sz := Node.sz) (fun r => by unfold Node.sz; omega) l; omega, fun r hr => nodeSmall_of (by have := szL_mem (sz := Node.sz) hr; omega)⟩
theorem nodes_len {l : List Node} (h : szL Node.sz l ≤ 1048576) : l.length ≤ 99999999 := by
  have := szL_len (sz := Node.sz) (fun r => by unfold Node.sz; omega) l; omega
theorem entries_len {n : Node} (h : n.sz ≤ 1048576) : n.entries.length ≤ 99999999 := by
  have h1 := szL_len (sz := Entry.sz) (fun e => by unfold Entry.sz; omega) n.entries
  unfold Node.sz at h
  omega
end La

namespace La
theorem tot_le : ∀ (l : List Node), tot l ≤ szL Node.sz l
  | [] => Nat.le_refl _
  | n :: l => by
    have := tot_le l
    have h1 := szL_len (sz := Entry.sz) (fun e => by unfold Entry.sz; omega) n.entries
    have h3 : n.data.length + szL Entry.sz n.entries + 1 = n.sz := rfl
    rw [tot_cons]
    simp only [szL]
    omega
theorem nodes_two {l : List Node} (h : szL Node.sz l ≤ 1048576) : l.length ≤ 2000000 := by
  have := szL_len (sz := Node.sz) (fun r => by unfold Node.sz; omega) l; omega
theorem data_two {l : List Node} (h : szL Node.sz l ≤ 1048576) : ∀ x, x ∈ l → x.data.length ≤ 2000000 := fun x hx => by
  have := szL_mem (sz := Node.sz) hx
  have h3 : x.data.length + szL Entry.sz x.entries + 1 = x.sz := rfl
  omega
theorem acts_mil {l : List Act} (h : szL Act.sz l ≤ 1048575) : l.length ≤ 1048575 := by
  have := szL_len (sz := Act.sz) (fun r => by unfold Act.sz; omega) l; omega
theorem sact_of {l : List Act} (h : szL Act.sz l ≤ 1048576) : ∀ a, a ∈ l → SAct a := fun a ha => by
  have := szL_mem (sz := Act.sz) ha
  have h3 : a.name.length + a.toName.length + a.data.length + 1 = a.sz := rfl
  exact ⟨by omega, by omega, by omega⟩
end La
namespace Go.Proofs.Ytldpfleilffanaa.logsShort
set_option maxRecDepth 100000
set_option linter.unusedSimpArgs false
open Go Go.ChangeShapes Go.WideShapes Go.ChangeAt Go.RowKit Go.Eng

theorem contract (H : Type) (enc : TypeId × Value → H) (W : World) (base : Nat) (args : Array Value) (ds gs : List (DataW H)) (before : List MemPlace)
    (hval : ∀ (j : Nat) t v, Try.f4.params[j]? = some t → args[j]? = some v → Value.okWide Try.prog W .any base t v)
    (hW : DataW.Whole enc Try.prog Try.f4.params.toList Rows.logsShortSpec.vars false W args.toList ds gs before) (hk : Rows.uptoSmall H (ds ++ gs) = true) :
    Calls Try.prog 4 args W fun e W' => ∃ v, e = .returned v ∧ Rows.logsShortSpec.post enc Try.prog Try.f4 false true false false W args v W' := by
  have hW' := hW
  obtain ⟨p, q, hA0, hV, rfl, hfz, hnd⟩ := hW
  have hA : DataW.TrodAll enc Try.prog W 0 (fun _ => true) true Try.f4.params.toList args.toList ds p := hA0
  rw [Try.params4] at hA hval
  obtain ⟨v0, vs0, d0, ds0, p0, q0, hargs, rfl, rfl, h0, r0⟩ := trodAll_cons hA
  obtain ⟨v1, vs1, d1, ds1, p1, q1, rfl, rfl, rfl, h1, r1⟩ := trodAll_cons r0
  obtain ⟨rfl, rfl, rfl⟩ := trodAll_nil r1
  obtain rfl : args = #[v0, v1] := by cases args; simp_all
  obtain ⟨rfl, rfl⟩ := trodVars_none hV
  have hk2 : Rows.uptoBulkAll [d0, d1] ≤ 1048576 := of_decide_eq_true hk
  simp only [Rows.uptoBulkAll] at hk2
  obtain ⟨x0, o0, s0, c0⟩ := La.open_arg (La.rep_nodes) h0
  obtain ⟨a0, len0, cap0, rfl⟩ := okWide_slice Try.underlying39 (hval 0 39 v0 rfl rfl)
  have R0 := La.rdc_one c0 (fun _ h => nomatch h)
  obtain ⟨x1, o1, s1, c1⟩ := La.open_arg (La.rep_acts) h1
  obtain ⟨a1, len1, cap1, rfl⟩ := okWide_slice Try.underlying33 (hval 1 33 v1 rfl rfl)
  have R1 := La.rdc_one c1 (fun _ h => nomatch h)
  refine (calls_of_fn (La.short_ok x0 x1 (La.small_of (by omega)) (La.nodes_two (by omega)) (by have := La.tot_le x0; omega) (La.data_two (by omega)) (by have := La.acts_mil (l := x1) (by omega); omega) (La.sact_of (by omega))) (w := W) (vs := [.slice a0 len0 cap0, .slice a1 len1 cap1]) rfl (S := fun b => b < W.heap.size) (fun j x h => ?_) (fun _ h => h) ⟨fun _ h => h.elim, trivial⟩).mono fun e W' ⟨v, μ, S', he, hv, hf⟩ => ?_
  · rcases j with _ | _ | j
    · simp only [List.getElem?_cons_zero, List.getElem?_cons_succ, Option.some.injEq] at h; subst h; exact R0
    · simp only [List.getElem?_cons_zero, List.getElem?_cons_succ, Option.some.injEq] at h; subst h; exact R1
    · simp at h
  subst he
  obtain rfl := hv.inv_bool
  exact ⟨_, rfl, post_true La.laid La.rowed La.full (by rw [Try.params4]; decide) rfl Try.underlying4 rfl hW' hf rfl rfl rfl⟩

theorem lifted (os : Os) (started : os.Started) (H : Type) (enc : TypeId × Value → H) (F : Stop.Interp) :
    ReturnsInHanded {} Try.checked os 4 .any ((Rows.OpenSpec.upto Rows.logsShortSpec).pre6 enc Try.prog Try.f4 Rows.logsShortUptoRow.domain false) (((Rows.OpenSpec.upto Rows.logsShortSpec).at F).post enc Try.prog Try.f4 false true false false) := by
  refine returnsInHanded_of_cond (C := Try.checked) (s := Rows.OpenSpec.upto Rows.logsShortSpec) (k := Rows.uptoSmall) rfl La.own started (by kernel_rfl) Try.func4
    (OpenSpec.witness (enc := enc) (C := Try.checked) (s := Rows.OpenSpec.upto Rows.logsShortSpec) (k := Rows.uptoSmall) rfl false ⟨#[], #[.slice none 0 0, .slice none 0 0], []⟩ 8 (by kernel_rfl) (by kernel_rfl) (by kernel_rfl)
      (x := ([.nil, .nil], [], [])) (by kernel_rfl) rfl (by kernel_rfl)) ?_
  intro W base args ds gs before hval hW _ hk _
  exact contract H enc W base args ds gs before hval hW hk

theorem over : Rows.logsShortUptoRow.holds Try.pinned (Rows.OpenSpec.upto Rows.logsShortSpec) :=
  OpenClaim.holds_of_cond 4 Try.f4 rfl rfl rfl rfl rfl rfl rfl ⟨rfl, rfl, rfl, rfl, rfl⟩ rfl rfl rfl rfl rfl (by kernel_rfl) Try.func4 (by kernel_rfl)
    (of_decide_eq_true (by kernel_rfl)) (by unfold Func.isWrapper; first | (rw [if_pos (by decide +kernel)]; kernel_rfl) | (rw [if_neg (by decide +kernel)]; exact ⟨rfl, rfl⟩))
    (fun os started H enc _ F => lifted os started H enc F)

theorem proved : Rows.LogsShortUptoSaid :=
  over
end Go.Proofs.Ytldpfleilffanaa.logsShort
