/- The law LogsOrder, walked: it answers true. No condition. -/
import Derived.Test.YtldpfleilffanaaAli4
import Derived.Test.YtldpfleilffanaaSameLog
namespace La
open Go Go.Eng Go.Proofs
set_option maxRecDepth 10000
set_option linter.unusedSimpArgs false

theorem sub_skip {α : Type} {y a : α} {r t : List α} (h : (y :: r).Sublist (a :: t)) (hne : a ≠ y) : (y :: r).Sublist t := by
  cases h with
  | cons _ h => exact h
  | cons_cons _ h => exact absurd rfl hne

set_option maxHeartbeats 2000000 in
theorem order_ok (l : List Rec) (r : Rec) (hl : SmallL l) (hr : r.act.Small) : FnOK Try.prog 5 [.sl (l.map recRow), .agg (recRow r)] [] (fun b _ => b = .bool true) := by
  have hlen := hl.len
  have hadd := add_ok l r hl hr
  refine fn_of_cwW tabOK (Go.Proofs.Try.func5) rfl (fun C => ?_)
  simp only [Go.Proofs.Try.ntmps5, Go.Proofs.Try.results5, go_sem, Nat.reduceLT, Nat.reduceBEq, Nat.reduceLeDiff, Nat.reduceAdd, Nat.reduceMul, Nat.reduceSub, Nat.reduceEqDiff, Int.reduceNeg, Int.reduceToNat, Int.reduceAdd, Int.reduceSub]
  refine cw_go tabOK 99 (by simp only [go_sem, Nat.reduceLT, Nat.reduceBEq, Nat.reduceLeDiff, Nat.reduceAdd, Nat.reduceMul, Nat.reduceSub, Nat.reduceEqDiff, Int.reduceNeg, Int.reduceToNat, Int.reduceAdd, Int.reduceSub, recRow]; try exact rfl) ?_ ?_
  · simp
  refine cw_freeze 3 rfl (rfl) ?_
  simp only [go_sem, Nat.reduceLT, Nat.reduceBEq, Nat.reduceLeDiff, Nat.reduceAdd, Nat.reduceMul, Nat.reduceSub, Nat.reduceEqDiff, Int.reduceNeg, Int.reduceToNat, Int.reduceAdd, Int.reduceSub]
  refine cw_call rfl rfl (by simp only [go_sem, Nat.reduceLT, Nat.reduceBEq, Nat.reduceLeDiff, Nat.reduceAdd, Nat.reduceMul, Nat.reduceSub, Nat.reduceEqDiff, Int.reduceNeg, Int.reduceToNat, Int.reduceAdd, Int.reduceSub]; try exact rfl) (by simp [go_sem]) ⟨_, Go.Proofs.Try.func25, by kernel_rfl, rfl⟩ (by simp [go_sem]) (alive4) (by simp [go_sem]) (by simp only [go_sem, Nat.reduceLT, Nat.reduceBEq, Nat.reduceLeDiff, Nat.reduceAdd, Nat.reduceMul, Nat.reduceSub, Nat.reduceEqDiff, Int.reduceNeg, Int.reduceToNat, Int.reduceAdd, Int.reduceSub]; exact rfl) ?_
  refine cw_go tabOK 99 (by simp only [go_sem, Nat.reduceLT, Nat.reduceBEq, Nat.reduceLeDiff, Nat.reduceAdd, Nat.reduceMul, Nat.reduceSub, Nat.reduceEqDiff, Int.reduceNeg, Int.reduceToNat, Int.reduceAdd, Int.reduceSub]; try exact rfl) (by simp [go_sem]) ?_
  refine cw_condF (by simp only [go_sem, Nat.reduceLT, Nat.reduceBEq, Nat.reduceLeDiff, Nat.reduceAdd, Nat.reduceMul, Nat.reduceSub, Nat.reduceEqDiff, Int.reduceNeg, Int.reduceToNat, Int.reduceAdd, Int.reduceSub]; try exact rfl) trivial (rfl) ?_
  refine cw_go tabOK 99 (by simp only [go_sem, Nat.reduceLT, Nat.reduceBEq, Nat.reduceLeDiff, Nat.reduceAdd, Nat.reduceMul, Nat.reduceSub, Nat.reduceEqDiff, Int.reduceNeg, Int.reduceToNat, Int.reduceAdd, Int.reduceSub, recRow]; try exact rfl) ?_ ?_
  · simp
  cases e : addLog l r with
  | none =>
    rw [e] at hadd
    simp only [addRes] at hadd
    refine cw_call rfl rfl (by simp only [go_sem, Nat.reduceLT, Nat.reduceBEq, Nat.reduceLeDiff, Nat.reduceAdd, Nat.reduceMul, Nat.reduceSub, Nat.reduceEqDiff, Int.reduceNeg, Int.reduceToNat, Int.reduceAdd, Int.reduceSub]; try exact rfl) (by simp [go_sem]) ⟨_, Go.Proofs.Try.func16, by kernel_rfl, rfl⟩ (by simp [go_sem]) (hadd) (by simp [go_sem]) (by simp only [go_sem, Nat.reduceLT, Nat.reduceBEq, Nat.reduceLeDiff, Nat.reduceAdd, Nat.reduceMul, Nat.reduceSub, Nat.reduceEqDiff, Int.reduceNeg, Int.reduceToNat, Int.reduceAdd, Int.reduceSub]; exact rfl) ?_
    refine cw_go tabOK 99 (by simp only [go_sem, Nat.reduceLT, Nat.reduceBEq, Nat.reduceLeDiff, Nat.reduceAdd, Nat.reduceMul, Nat.reduceSub, Nat.reduceEqDiff, Int.reduceNeg, Int.reduceToNat, Int.reduceAdd, Int.reduceSub]; try exact rfl) (by simp [go_sem]) ?_
    refine cw_condT (by simp only [go_sem, Nat.reduceLT, Nat.reduceBEq, Nat.reduceLeDiff, Nat.reduceAdd, Nat.reduceMul, Nat.reduceSub, Nat.reduceEqDiff, Int.reduceNeg, Int.reduceToNat, Int.reduceAdd, Int.reduceSub]; try exact rfl) trivial (rfl) ?_
    refine cw_go tabOK 99 (by simp only [go_sem, Nat.reduceLT, Nat.reduceBEq, Nat.reduceLeDiff, Nat.reduceAdd, Nat.reduceMul, Nat.reduceSub, Nat.reduceEqDiff, Int.reduceNeg, Int.reduceToNat, Int.reduceAdd, Int.reduceSub]; try exact rfl) (by simp [go_sem]) ?_
    refine cw_ret ⟨_, _, (by simp only [go_sem, Nat.reduceLT, Nat.reduceBEq, Nat.reduceLeDiff, Nat.reduceAdd, Nat.reduceMul, Nat.reduceSub, Nat.reduceEqDiff, Int.reduceNeg, Int.reduceToNat, Int.reduceAdd, Int.reduceSub]; try exact rfl), by simp [go_sem], _, .inr (.inl rfl), ?_⟩
    have := addLog_none e
    simp [this]
    omega
  | some x =>
    rw [e] at hadd
    simp only [addRes] at hadd
    refine cw_call rfl rfl (by simp only [go_sem, Nat.reduceLT, Nat.reduceBEq, Nat.reduceLeDiff, Nat.reduceAdd, Nat.reduceMul, Nat.reduceSub, Nat.reduceEqDiff, Int.reduceNeg, Int.reduceToNat, Int.reduceAdd, Int.reduceSub]; try exact rfl) (by simp [go_sem]) ⟨_, Go.Proofs.Try.func16, by kernel_rfl, rfl⟩ (by simp [go_sem]) (hadd) (by simp [go_sem]) (by simp only [go_sem, Nat.reduceLT, Nat.reduceBEq, Nat.reduceLeDiff, Nat.reduceAdd, Nat.reduceMul, Nat.reduceSub, Nat.reduceEqDiff, Int.reduceNeg, Int.reduceToNat, Int.reduceAdd, Int.reduceSub]; exact rfl) ?_
    refine cw_go tabOK 99 (by simp only [go_sem, Nat.reduceLT, Nat.reduceBEq, Nat.reduceLeDiff, Nat.reduceAdd, Nat.reduceMul, Nat.reduceSub, Nat.reduceEqDiff, Int.reduceNeg, Int.reduceToNat, Int.reduceAdd, Int.reduceSub]; try exact rfl) (by simp [go_sem]) ?_
    refine cw_condF (by simp only [go_sem, Nat.reduceLT, Nat.reduceBEq, Nat.reduceLeDiff, Nat.reduceAdd, Nat.reduceMul, Nat.reduceSub, Nat.reduceEqDiff, Int.reduceNeg, Int.reduceToNat, Int.reduceAdd, Int.reduceSub]; try exact rfl) trivial (rfl) ?_
    refine cw_go tabOK 99 (by simp only [go_sem, Nat.reduceLT, Nat.reduceBEq, Nat.reduceLeDiff, Nat.reduceAdd, Nat.reduceMul, Nat.reduceSub, Nat.reduceEqDiff, Int.reduceNeg, Int.reduceToNat, Int.reduceAdd, Int.reduceSub]; try exact rfl) (by simp [go_sem]) ?_
    have hsub := addLog_order e
    have hshort := addLog_short e
    have hsafe : ∀ y, y ∈ x → True := fun _ _ => trivial
    have hz : decide (((0 : Nat) : Int) > 0) = false := rfl
    rcases List.eq_nil_or_concat x with rfl | ⟨ys, y, hx⟩
    · refine cw_draw mixed ?_
      refine seg_start rfl ?_
      refine seg_runN tabOK 4 (by simp only [go_sem, Nat.reduceLT, Nat.reduceBEq, Nat.reduceLeDiff, Nat.reduceAdd, Nat.reduceMul, Nat.reduceSub, Nat.reduceEqDiff, Int.reduceNeg, Int.reduceToNat, Int.reduceAdd, Int.reduceSub]; exact rfl) (by simp only [go_sem, Nat.reduceLT, Nat.reduceBEq, Nat.reduceLeDiff, Nat.reduceAdd, Nat.reduceMul, Nat.reduceSub, Nat.reduceEqDiff, Int.reduceNeg, Int.reduceToNat, Int.reduceAdd, Int.reduceSub]; exact rfl) (by simp only [go_sem, Nat.reduceLT, Nat.reduceBEq, Nat.reduceLeDiff, Nat.reduceAdd, Nat.reduceMul, Nat.reduceSub, Nat.reduceEqDiff, Int.reduceNeg, Int.reduceToNat, Int.reduceAdd, Int.reduceSub]; try exact rfl) (by simp [go_sem]) (by simp only [go_sem, Nat.reduceLT, Nat.reduceBEq, Nat.reduceLeDiff, Nat.reduceAdd, Nat.reduceMul, Nat.reduceSub, Nat.reduceEqDiff, Int.reduceNeg, Int.reduceToNat, Int.reduceAdd, Int.reduceSub]; exact rfl) ?_
      refine seg_runN tabOK 6 (by simp only [go_sem, Nat.reduceLT, Nat.reduceBEq, Nat.reduceLeDiff, Nat.reduceAdd, Nat.reduceMul, Nat.reduceSub, Nat.reduceEqDiff, Int.reduceNeg, Int.reduceToNat, Int.reduceAdd, Int.reduceSub]; exact rfl) (by simp only [go_sem, Nat.reduceLT, Nat.reduceBEq, Nat.reduceLeDiff, Nat.reduceAdd, Nat.reduceMul, Nat.reduceSub, Nat.reduceEqDiff, Int.reduceNeg, Int.reduceToNat, Int.reduceAdd, Int.reduceSub]; exact rfl) (by simp only [go_sem, Nat.reduceLT, Nat.reduceBEq, Nat.reduceLeDiff, Nat.reduceAdd, Nat.reduceMul, Nat.reduceSub, Nat.reduceEqDiff, Int.reduceNeg, Int.reduceToNat, Int.reduceAdd, Int.reduceSub, hz]; try exact rfl) (by simp [go_sem, hz]) (by simp only [go_sem, Nat.reduceLT, Nat.reduceBEq, Nat.reduceLeDiff, Nat.reduceAdd, Nat.reduceMul, Nat.reduceSub, Nat.reduceEqDiff, Int.reduceNeg, Int.reduceToNat, Int.reduceAdd, Int.reduceSub]; exact rfl) ?_
      refine seg_skip .any (by simp only [go_sem, Nat.reduceLT, Nat.reduceBEq, Nat.reduceLeDiff, Nat.reduceAdd, Nat.reduceMul, Nat.reduceSub, Nat.reduceEqDiff, Int.reduceNeg, Int.reduceToNat, Int.reduceAdd, Int.reduceSub]; try exact rfl) (by simp only [go_sem, Nat.reduceLT, Nat.reduceBEq, Nat.reduceLeDiff, Nat.reduceAdd, Nat.reduceMul, Nat.reduceSub, Nat.reduceEqDiff, Int.reduceNeg, Int.reduceToNat, Int.reduceAdd, Int.reduceSub]; exact rfl) (by simp only [go_sem, Nat.reduceLT, Nat.reduceBEq, Nat.reduceLeDiff, Nat.reduceAdd, Nat.reduceMul, Nat.reduceSub, Nat.reduceEqDiff, Int.reduceNeg, Int.reduceToNat, Int.reduceAdd, Int.reduceSub]; exact rfl) ?_
      refine seg_skip (.bool false) (by simp only [go_sem, Nat.reduceLT, Nat.reduceBEq, Nat.reduceLeDiff, Nat.reduceAdd, Nat.reduceMul, Nat.reduceSub, Nat.reduceEqDiff, Int.reduceNeg, Int.reduceToNat, Int.reduceAdd, Int.reduceSub]; try exact rfl) (by simp only [go_sem, Nat.reduceLT, Nat.reduceBEq, Nat.reduceLeDiff, Nat.reduceAdd, Nat.reduceMul, Nat.reduceSub, Nat.reduceEqDiff, Int.reduceNeg, Int.reduceToNat, Int.reduceAdd, Int.reduceSub]; exact rfl) (by simp only [go_sem, Nat.reduceLT, Nat.reduceBEq, Nat.reduceLeDiff, Nat.reduceAdd, Nat.reduceMul, Nat.reduceSub, Nat.reduceEqDiff, Int.reduceNeg, Int.reduceToNat, Int.reduceAdd, Int.reduceSub]; exact rfl) ?_
      refine seg_runN tabOK 1 (by simp only [go_sem, Nat.reduceLT, Nat.reduceBEq, Nat.reduceLeDiff, Nat.reduceAdd, Nat.reduceMul, Nat.reduceSub, Nat.reduceEqDiff, Int.reduceNeg, Int.reduceToNat, Int.reduceAdd, Int.reduceSub]; exact rfl) (by simp only [go_sem, Nat.reduceLT, Nat.reduceBEq, Nat.reduceLeDiff, Nat.reduceAdd, Nat.reduceMul, Nat.reduceSub, Nat.reduceEqDiff, Int.reduceNeg, Int.reduceToNat, Int.reduceAdd, Int.reduceSub]; exact rfl) (by simp only [go_sem, Nat.reduceLT, Nat.reduceBEq, Nat.reduceLeDiff, Nat.reduceAdd, Nat.reduceMul, Nat.reduceSub, Nat.reduceEqDiff, Int.reduceNeg, Int.reduceToNat, Int.reduceAdd, Int.reduceSub, hz]; try exact rfl) (by simp [go_sem, hz]) (by simp only [go_sem, Nat.reduceLT, Nat.reduceBEq, Nat.reduceLeDiff, Nat.reduceAdd, Nat.reduceMul, Nat.reduceSub, Nat.reduceEqDiff, Int.reduceNeg, Int.reduceToNat, Int.reduceAdd, Int.reduceSub]; exact rfl) ?_
      refine seg_end (by kernel_rfl) (by simp only [go_sem, Nat.reduceLT, Nat.reduceBEq, Nat.reduceLeDiff, Nat.reduceAdd, Nat.reduceMul, Nat.reduceSub, Nat.reduceEqDiff, Int.reduceNeg, Int.reduceToNat, Int.reduceAdd, Int.reduceSub]; exact rfl) ?_
      refine draw_close (by kernel_rfl) ?_
      refine cw_condF (by simp only [go_sem, Nat.reduceLT, Nat.reduceBEq, Nat.reduceLeDiff, Nat.reduceAdd, Nat.reduceMul, Nat.reduceSub, Nat.reduceEqDiff, Int.reduceNeg, Int.reduceToNat, Int.reduceAdd, Int.reduceSub]; try exact rfl) trivial (rfl) ?_
      obtain ⟨X, hX, hsX⟩ : ∃ X : List Rec, X.map recRow = [] ∧ X.Sublist l := ⟨[], rfl, by simp⟩
      rw [← hX]
      refine cw_go tabOK 99 (by simp only [go_sem, Nat.reduceLT, Nat.reduceBEq, Nat.reduceLeDiff, Nat.reduceAdd, Nat.reduceMul, Nat.reduceSub, Nat.reduceEqDiff, Int.reduceNeg, Int.reduceToNat, Int.reduceAdd, Int.reduceSub]; try exact rfl) (by simp [go_sem]) ?_
      have hXl := hsX.length_le
      clear hadd
      refine cw_loopS (fun s : Nat × Nat => s.1 ≤ X.length ∧ s.2 ≤ l.length ∧ (X.drop s.1).Sublist (l.drop s.2)) (fun s => X.length - s.1) (fun s => [(52, .int .i64 (s.1 : Nat)), (7, .int .i64 (s.2 : Nat)), (8, .any), (9, .any), (10, .any), (11, .any), (12, .any), (13, .any), (14, .any), (15, .any), (16, .any), (17, .any), (18, .any), (19, .any), (20, .any), (21, .any), (22, .any), (23, .any), (24, .any), (25, .any), (26, .any), (27, .any), (28, .any), (29, .any), (30, .any), (31, .any), (32, .any), (33, .any), (34, .any), (35, .any), (36, .any), (37, .any), (38, .any), (39, .any), (40, .any), (41, .any), (42, .any), (43, .any), (44, .any), (45, .any), (46, .any), (47, .any), (48, .any), (49, .any), (53, .any), (54, .any), (55, .any), (56, .any), (57, .any), (58, .any), (59, .any), (60, .any), (61, .any), (62, .any), (63, .any), (64, .any), (65, .any), (66, .any), (67, .any), (68, .any), (69, .any), (70, .any), (71, .any), (72, .any), (73, .any), (74, .any), (75, .any), (76, .any), (77, .any), (78, .any), (79, .any)]) (fun _ => []) (0, 0) ⟨by omega, by omega, hsX⟩ ?_ fun s hs => ?_
      · simp only [go_sem, Nat.reduceLT, Nat.reduceBEq, Nat.reduceLeDiff, Nat.reduceAdd, Nat.reduceMul, Nat.reduceSub, Nat.reduceEqDiff, Int.reduceNeg, Int.reduceToNat, Int.reduceAdd, Int.reduceSub]
        exact le_sub (by simp [go_sem]) (by simp [go_sem]) (by simp [go_sem])
      obtain ⟨i, p⟩ := s
      obtain ⟨hi, hp, hs⟩ := hs
      simp only at hi hp hs
      simp only [go_sem, Nat.reduceLT, Nat.reduceBEq, Nat.reduceLeDiff, Nat.reduceAdd, Nat.reduceMul, Nat.reduceSub, Nat.reduceEqDiff, Int.reduceNeg, Int.reduceToNat, Int.reduceAdd, Int.reduceSub]
      refine cw_go tabOK 99 (by simp only [go_sem, Nat.reduceLT, Nat.reduceBEq, Nat.reduceLeDiff, Nat.reduceAdd, Nat.reduceMul, Nat.reduceSub, Nat.reduceEqDiff, Int.reduceNeg, Int.reduceToNat, Int.reduceAdd, Int.reduceSub]; try exact rfl) (by simp [go_sem]) ?_
      refine cw_cond (by simp only [go_sem, Nat.reduceLT, Nat.reduceBEq, Nat.reduceLeDiff, Nat.reduceAdd, Nat.reduceMul, Nat.reduceSub, Nat.reduceEqDiff, Int.reduceNeg, Int.reduceToNat, Int.reduceAdd, Int.reduceSub]; try exact rfl) trivial (fun h => ?_) (fun h => ?_)
      · have hlt : i < X.length := by have := of_decide_eq_true h; omega
        have hg : (X.map recRow).getD i [] = recRow (X.getD i default) := Fam.getD hlt
        rw [drop_getD hlt] at hs
        generalize X.getD i default = y at hg hs
        refine cw_go tabOK 99 (by simp only [go_sem, Nat.reduceLT, Nat.reduceBEq, Nat.reduceLeDiff, Nat.reduceAdd, Nat.reduceMul, Nat.reduceSub, Nat.reduceEqDiff, Int.reduceNeg, Int.reduceToNat, Int.reduceAdd, Int.reduceSub, hg, recRow]; try exact rfl) ?_ ?_
        · simp [hlt]
        refine cw_freeze 9 rfl (rfl) ?_
        simp only [go_sem, Nat.reduceLT, Nat.reduceBEq, Nat.reduceLeDiff, Nat.reduceAdd, Nat.reduceMul, Nat.reduceSub, Nat.reduceEqDiff, Int.reduceNeg, Int.reduceToNat, Int.reduceAdd, Int.reduceSub]
        refine cw_loopS (fun a : Nat => a ≤ l.length ∧ (y :: X.drop (i + 1)).Sublist (l.drop a)) (fun a => l.length - a) (fun a => [(7, .int .i64 (a : Nat)), (56, .any), (57, .any), (58, .any), (59, .any), (60, .any), (61, .any), (62, .any), (63, .any), (64, .any), (65, .any), (66, .any), (67, .any), (68, .any), (69, .any), (70, .any), (71, .any), (72, .any)]) (fun _ => []) p ⟨hp, hs⟩ ?_ fun a ha => ?_
        · simp only [go_sem, Nat.reduceLT, Nat.reduceBEq, Nat.reduceLeDiff, Nat.reduceAdd, Nat.reduceMul, Nat.reduceSub, Nat.reduceEqDiff, Int.reduceNeg, Int.reduceToNat, Int.reduceAdd, Int.reduceSub]
          exact le_sub (by simp [go_sem]) (by simp [go_sem]) (by simp [go_sem])
        obtain ⟨ha, hs⟩ := ha
        have hal : a < l.length := by
          by_cases h : a < l.length
          · exact h
          · rw [List.drop_eq_nil_of_le (show l.length ≤ a by omega)] at hs; cases hs
        rw [drop_getD hal] at hs
        have hsl : ((l.map recRow).take (a + 1)).drop a = [recRow (l.getD a default)] := by
          rw [← List.map_take, take_succ_getD hal, List.map_append, List.drop_left' (by simp; omega)]; rfl
        have hd : decide ((a : Int) < (l.length : Int)) = true := decide_eq_true (by omega)
        have hw : IntKind.i64.wrap ((a : Int) + 1) = ((a + 1 : Nat) : Int) := by rw [Eng.wrap_small (by omega) (by omega)]; rfl
        have hw2 : IntKind.i64.wrap ((i : Int) + 1) = ((i + 1 : Nat) : Int) := by rw [Eng.wrap_small (by omega) (by omega)]; rfl
        generalize l.getD a default = z at hs hsl
        simp only [go_sem, Nat.reduceLT, Nat.reduceBEq, Nat.reduceLeDiff, Nat.reduceAdd, Nat.reduceMul, Nat.reduceSub, Nat.reduceEqDiff, Int.reduceNeg, Int.reduceToNat, Int.reduceAdd, Int.reduceSub]
        refine cw_go tabOK 99 (by simp only [go_sem, Nat.reduceLT, Nat.reduceBEq, Nat.reduceLeDiff, Nat.reduceAdd, Nat.reduceMul, Nat.reduceSub, Nat.reduceEqDiff, Int.reduceNeg, Int.reduceToNat, Int.reduceAdd, Int.reduceSub]; try exact rfl) (by simp [go_sem]) ?_
        refine cw_draw mixed ?_
        refine seg_start rfl ?_
        refine seg_runN tabOK 5 (by simp only [go_sem, Nat.reduceLT, Nat.reduceBEq, Nat.reduceLeDiff, Nat.reduceAdd, Nat.reduceMul, Nat.reduceSub, Nat.reduceEqDiff, Int.reduceNeg, Int.reduceToNat, Int.reduceAdd, Int.reduceSub]; exact rfl) (by simp only [go_sem, Nat.reduceLT, Nat.reduceBEq, Nat.reduceLeDiff, Nat.reduceAdd, Nat.reduceMul, Nat.reduceSub, Nat.reduceEqDiff, Int.reduceNeg, Int.reduceToNat, Int.reduceAdd, Int.reduceSub]; exact rfl) (by simp only [go_sem, Nat.reduceLT, Nat.reduceBEq, Nat.reduceLeDiff, Nat.reduceAdd, Nat.reduceMul, Nat.reduceSub, Nat.reduceEqDiff, Int.reduceNeg, Int.reduceToNat, Int.reduceAdd, Int.reduceSub, hd]; try exact rfl) (by simp [go_sem, hd]) (by simp only [go_sem, Nat.reduceLT, Nat.reduceBEq, Nat.reduceLeDiff, Nat.reduceAdd, Nat.reduceMul, Nat.reduceSub, Nat.reduceEqDiff, Int.reduceNeg, Int.reduceToNat, Int.reduceAdd, Int.reduceSub]; exact rfl) ?_
        refine seg_runN tabOK 6 (by simp only [go_sem, Nat.reduceLT, Nat.reduceBEq, Nat.reduceLeDiff, Nat.reduceAdd, Nat.reduceMul, Nat.reduceSub, Nat.reduceEqDiff, Int.reduceNeg, Int.reduceToNat, Int.reduceAdd, Int.reduceSub]; exact rfl) (by simp only [go_sem, Nat.reduceLT, Nat.reduceBEq, Nat.reduceLeDiff, Nat.reduceAdd, Nat.reduceMul, Nat.reduceSub, Nat.reduceEqDiff, Int.reduceNeg, Int.reduceToNat, Int.reduceAdd, Int.reduceSub]; exact rfl) (by simp only [go_sem, Nat.reduceLT, Nat.reduceBEq, Nat.reduceLeDiff, Nat.reduceAdd, Nat.reduceMul, Nat.reduceSub, Nat.reduceEqDiff, Int.reduceNeg, Int.reduceToNat, Int.reduceAdd, Int.reduceSub, hd, hw, hsl]; try exact rfl) ?_ (by simp only [go_sem, Nat.reduceLT, Nat.reduceBEq, Nat.reduceLeDiff, Nat.reduceAdd, Nat.reduceMul, Nat.reduceSub, Nat.reduceEqDiff, Int.reduceNeg, Int.reduceToNat, Int.reduceAdd, Int.reduceSub]; exact rfl) ?_
        · simp [go_sem]
          exact ⟨by omega, by omega, fun _ _ => rfl⟩
        refine seg_new tabOK rfl (by simp only [go_sem, Nat.reduceLT, Nat.reduceBEq, Nat.reduceLeDiff, Nat.reduceAdd, Nat.reduceMul, Nat.reduceSub, Nat.reduceEqDiff, Int.reduceNeg, Int.reduceToNat, Int.reduceAdd, Int.reduceSub]; try exact rfl) (by simp only [go_sem, Nat.reduceLT, Nat.reduceBEq, Nat.reduceLeDiff, Nat.reduceAdd, Nat.reduceMul, Nat.reduceSub, Nat.reduceEqDiff, Int.reduceNeg, Int.reduceToNat, Int.reduceAdd, Int.reduceSub]; try exact rfl) (by simp [go_sem]) (by simp only [go_sem, Nat.reduceLT, Nat.reduceBEq, Nat.reduceLeDiff, Nat.reduceAdd, Nat.reduceMul, Nat.reduceSub, Nat.reduceEqDiff, Int.reduceNeg, Int.reduceToNat, Int.reduceAdd, Int.reduceSub]; try exact rfl) (by simp only [go_sem, Nat.reduceLT, Nat.reduceBEq, Nat.reduceLeDiff, Nat.reduceAdd, Nat.reduceMul, Nat.reduceSub, Nat.reduceEqDiff, Int.reduceNeg, Int.reduceToNat, Int.reduceAdd, Int.reduceSub]; exact rfl) (by simp only [go_sem, Nat.reduceLT, Nat.reduceBEq, Nat.reduceLeDiff, Nat.reduceAdd, Nat.reduceMul, Nat.reduceSub, Nat.reduceEqDiff, Int.reduceNeg, Int.reduceToNat, Int.reduceAdd, Int.reduceSub]; exact rfl) ?_
        refine seg_viewC rfl (by simp only [go_sem, Nat.reduceLT, Nat.reduceBEq, Nat.reduceLeDiff, Nat.reduceAdd, Nat.reduceMul, Nat.reduceSub, Nat.reduceEqDiff, Int.reduceNeg, Int.reduceToNat, Int.reduceAdd, Int.reduceSub]; try exact rfl) (by simp only [go_sem, Nat.reduceLT, Nat.reduceBEq, Nat.reduceLeDiff, Nat.reduceAdd, Nat.reduceMul, Nat.reduceSub, Nat.reduceEqDiff, Int.reduceNeg, Int.reduceToNat, Int.reduceAdd, Int.reduceSub]; try exact rfl) (by simp [go_sem]) (by simp only [go_sem, Nat.reduceLT, Nat.reduceBEq, Nat.reduceLeDiff, Nat.reduceAdd, Nat.reduceMul, Nat.reduceSub, Nat.reduceEqDiff, Int.reduceNeg, Int.reduceToNat, Int.reduceAdd, Int.reduceSub]; try exact rfl) (by simp [go_sem]) ⟨_, Go.Proofs.Try.func18, by kernel_rfl, rfl⟩ (fun hb => (sameLog_ok [z] [y] (by simp) (by simp))) (by simp [go_sem]) (by simp only [go_sem, Nat.reduceLT, Nat.reduceBEq, Nat.reduceLeDiff, Nat.reduceAdd, Nat.reduceMul, Nat.reduceSub, Nat.reduceEqDiff, Int.reduceNeg, Int.reduceToNat, Int.reduceAdd, Int.reduceSub]; exact rfl) (by simp only [go_sem, Nat.reduceLT, Nat.reduceBEq, Nat.reduceLeDiff, Nat.reduceAdd, Nat.reduceMul, Nat.reduceSub, Nat.reduceEqDiff, Int.reduceNeg, Int.reduceToNat, Int.reduceAdd, Int.reduceSub]; exact rfl) ?_
        refine seg_runN tabOK 2 (by simp only [go_sem, Nat.reduceLT, Nat.reduceBEq, Nat.reduceLeDiff, Nat.reduceAdd, Nat.reduceMul, Nat.reduceSub, Nat.reduceEqDiff, Int.reduceNeg, Int.reduceToNat, Int.reduceAdd, Int.reduceSub]; exact rfl) (by simp only [go_sem, Nat.reduceLT, Nat.reduceBEq, Nat.reduceLeDiff, Nat.reduceAdd, Nat.reduceMul, Nat.reduceSub, Nat.reduceEqDiff, Int.reduceNeg, Int.reduceToNat, Int.reduceAdd, Int.reduceSub]; exact rfl) (by simp only [go_sem, Nat.reduceLT, Nat.reduceBEq, Nat.reduceLeDiff, Nat.reduceAdd, Nat.reduceMul, Nat.reduceSub, Nat.reduceEqDiff, Int.reduceNeg, Int.reduceToNat, Int.reduceAdd, Int.reduceSub]; try exact rfl) (by simp [go_sem]) (by simp only [go_sem, Nat.reduceLT, Nat.reduceBEq, Nat.reduceLeDiff, Nat.reduceAdd, Nat.reduceMul, Nat.reduceSub, Nat.reduceEqDiff, Int.reduceNeg, Int.reduceToNat, Int.reduceAdd, Int.reduceSub]; exact rfl) ?_
        refine seg_end (by kernel_rfl) (by simp only [go_sem, Nat.reduceLT, Nat.reduceBEq, Nat.reduceLeDiff, Nat.reduceAdd, Nat.reduceMul, Nat.reduceSub, Nat.reduceEqDiff, Int.reduceNeg, Int.reduceToNat, Int.reduceAdd, Int.reduceSub]; exact rfl) ?_
        refine draw_close (by kernel_rfl) ?_
        by_cases hzy : z = y
        · refine cw_condF (by simp only [go_sem, Nat.reduceLT, Nat.reduceBEq, Nat.reduceLeDiff, Nat.reduceAdd, Nat.reduceMul, Nat.reduceSub, Nat.reduceEqDiff, Int.reduceNeg, Int.reduceToNat, Int.reduceAdd, Int.reduceSub]; try exact rfl) trivial (by simp [hzy]) ?_
          refine cw_go tabOK 99 (by simp only [go_sem, Nat.reduceLT, Nat.reduceBEq, Nat.reduceLeDiff, Nat.reduceAdd, Nat.reduceMul, Nat.reduceSub, Nat.reduceEqDiff, Int.reduceNeg, Int.reduceToNat, Int.reduceAdd, Int.reduceSub]; try exact rfl) (by simp [go_sem]) ?_
          refine cw_condF (by simp only [go_sem, Nat.reduceLT, Nat.reduceBEq, Nat.reduceLeDiff, Nat.reduceAdd, Nat.reduceMul, Nat.reduceSub, Nat.reduceEqDiff, Int.reduceNeg, Int.reduceToNat, Int.reduceAdd, Int.reduceSub]; try exact rfl) trivial (by simp; omega) ?_
          refine cw_go tabOK 99 (by simp only [go_sem, Nat.reduceLT, Nat.reduceBEq, Nat.reduceLeDiff, Nat.reduceAdd, Nat.reduceMul, Nat.reduceSub, Nat.reduceEqDiff, Int.reduceNeg, Int.reduceToNat, Int.reduceAdd, Int.reduceSub, hw, hw2]; try exact rfl) (by simp [go_sem, hw, hw2]) ?_
          refine cw_back ⟨(i + 1, a + 1), ⟨by simp only; omega, by simp only; omega, ?_⟩, by simp only; omega, le_sub ?_ ?_ ?_⟩
          · subst hzy; exact List.cons_sublist_cons.1 hs
          · simp [go_sem]
          · simp [go_sem]
          · simp [go_sem]
        · refine cw_condT (by simp only [go_sem, Nat.reduceLT, Nat.reduceBEq, Nat.reduceLeDiff, Nat.reduceAdd, Nat.reduceMul, Nat.reduceSub, Nat.reduceEqDiff, Int.reduceNeg, Int.reduceToNat, Int.reduceAdd, Int.reduceSub]; try exact rfl) trivial (by simp [hzy]) ?_
          refine cw_go tabOK 99 (by simp only [go_sem, Nat.reduceLT, Nat.reduceBEq, Nat.reduceLeDiff, Nat.reduceAdd, Nat.reduceMul, Nat.reduceSub, Nat.reduceEqDiff, Int.reduceNeg, Int.reduceToNat, Int.reduceAdd, Int.reduceSub, hw]; try exact rfl) (by simp [go_sem, hw]) ?_
          refine cw_back ⟨a + 1, ⟨by omega, sub_skip hs hzy⟩, by omega, le_sub ?_ ?_ ?_⟩
          · simp [go_sem]
          · simp [go_sem]
          · simp [go_sem]
      · refine cw_go tabOK 99 (by simp only [go_sem, Nat.reduceLT, Nat.reduceBEq, Nat.reduceLeDiff, Nat.reduceAdd, Nat.reduceMul, Nat.reduceSub, Nat.reduceEqDiff, Int.reduceNeg, Int.reduceToNat, Int.reduceAdd, Int.reduceSub]; try exact rfl) (by simp [go_sem]) ?_
        refine cw_ret ⟨_, _, (by simp only [go_sem, Nat.reduceLT, Nat.reduceBEq, Nat.reduceLeDiff, Nat.reduceAdd, Nat.reduceMul, Nat.reduceSub, Nat.reduceEqDiff, Int.reduceNeg, Int.reduceToNat, Int.reduceAdd, Int.reduceSub]; try exact rfl), by simp [go_sem], _, .inr (.inl rfl), ?_⟩
        rfl
    · rw [List.concat_eq_append] at hx
      subst hx
      simp only [go_sem, Nat.reduceLT, Nat.reduceBEq, Nat.reduceLeDiff, Nat.reduceAdd, Nat.reduceMul, Nat.reduceSub, Nat.reduceEqDiff, Int.reduceNeg, Int.reduceToNat, Int.reduceAdd, Int.reduceSub]
      simp only [List.length_append, List.length_cons, List.length_nil, Nat.zero_add] at hshort
      simp only [List.map_append, List.map_cons, List.map_nil] at hadd
      have hw : IntKind.i64.wrap (((ys.length + 1 : Nat) : Int) - 1) = (ys.length : Int) := by rw [Eng.wrap_small (by omega) (by omega)]; omega
      have hd : decide (((ys.length + 1 : Nat) : Int) > 0) = true := by rw [decide_eq_true_eq]; omega
      have hdr : (ys.map recRow ++ [recRow y]).drop ys.length = [recRow y] := List.drop_left' (by simp)
      have htk : (ys.map recRow ++ [recRow y]).take (ys.length + 1) = ys.map recRow ++ [recRow y] := List.take_of_length_le (by simp)
      refine cw_draw mixed ?_
      refine seg_start rfl ?_
      refine seg_runN tabOK 4 (by simp only [go_sem, Nat.reduceLT, Nat.reduceBEq, Nat.reduceLeDiff, Nat.reduceAdd, Nat.reduceMul, Nat.reduceSub, Nat.reduceEqDiff, Int.reduceNeg, Int.reduceToNat, Int.reduceAdd, Int.reduceSub]; exact rfl) (by simp only [go_sem, Nat.reduceLT, Nat.reduceBEq, Nat.reduceLeDiff, Nat.reduceAdd, Nat.reduceMul, Nat.reduceSub, Nat.reduceEqDiff, Int.reduceNeg, Int.reduceToNat, Int.reduceAdd, Int.reduceSub]; exact rfl) (by simp only [go_sem, Nat.reduceLT, Nat.reduceBEq, Nat.reduceLeDiff, Nat.reduceAdd, Nat.reduceMul, Nat.reduceSub, Nat.reduceEqDiff, Int.reduceNeg, Int.reduceToNat, Int.reduceAdd, Int.reduceSub, hd]; try exact rfl) (by simp [go_sem, hd]) (by simp only [go_sem, Nat.reduceLT, Nat.reduceBEq, Nat.reduceLeDiff, Nat.reduceAdd, Nat.reduceMul, Nat.reduceSub, Nat.reduceEqDiff, Int.reduceNeg, Int.reduceToNat, Int.reduceAdd, Int.reduceSub]; exact rfl) ?_
      refine seg_runN tabOK 6 (by simp only [go_sem, Nat.reduceLT, Nat.reduceBEq, Nat.reduceLeDiff, Nat.reduceAdd, Nat.reduceMul, Nat.reduceSub, Nat.reduceEqDiff, Int.reduceNeg, Int.reduceToNat, Int.reduceAdd, Int.reduceSub]; exact rfl) (by simp only [go_sem, Nat.reduceLT, Nat.reduceBEq, Nat.reduceLeDiff, Nat.reduceAdd, Nat.reduceMul, Nat.reduceSub, Nat.reduceEqDiff, Int.reduceNeg, Int.reduceToNat, Int.reduceAdd, Int.reduceSub]; exact rfl) (by simp only [go_sem, Nat.reduceLT, Nat.reduceBEq, Nat.reduceLeDiff, Nat.reduceAdd, Nat.reduceMul, Nat.reduceSub, Nat.reduceEqDiff, Int.reduceNeg, Int.reduceToNat, Int.reduceAdd, Int.reduceSub, hd, hw, hdr, htk]; try exact rfl) ?_ (by simp only [go_sem, Nat.reduceLT, Nat.reduceBEq, Nat.reduceLeDiff, Nat.reduceAdd, Nat.reduceMul, Nat.reduceSub, Nat.reduceEqDiff, Int.reduceNeg, Int.reduceToNat, Int.reduceAdd, Int.reduceSub]; exact rfl) ?_
      · simp [go_sem, hw]
        intro row hrow
        rcases hrow with ⟨z, _, rfl⟩ | rfl <;> rfl
      refine seg_new tabOK rfl (by simp only [go_sem, Nat.reduceLT, Nat.reduceBEq, Nat.reduceLeDiff, Nat.reduceAdd, Nat.reduceMul, Nat.reduceSub, Nat.reduceEqDiff, Int.reduceNeg, Int.reduceToNat, Int.reduceAdd, Int.reduceSub]; try exact rfl) (by simp only [go_sem, Nat.reduceLT, Nat.reduceBEq, Nat.reduceLeDiff, Nat.reduceAdd, Nat.reduceMul, Nat.reduceSub, Nat.reduceEqDiff, Int.reduceNeg, Int.reduceToNat, Int.reduceAdd, Int.reduceSub]; try exact rfl) (by simp [go_sem]) (by simp only [go_sem, Nat.reduceLT, Nat.reduceBEq, Nat.reduceLeDiff, Nat.reduceAdd, Nat.reduceMul, Nat.reduceSub, Nat.reduceEqDiff, Int.reduceNeg, Int.reduceToNat, Int.reduceAdd, Int.reduceSub]; try exact rfl) (by simp only [go_sem, Nat.reduceLT, Nat.reduceBEq, Nat.reduceLeDiff, Nat.reduceAdd, Nat.reduceMul, Nat.reduceSub, Nat.reduceEqDiff, Int.reduceNeg, Int.reduceToNat, Int.reduceAdd, Int.reduceSub]; exact rfl) (by simp only [go_sem, Nat.reduceLT, Nat.reduceBEq, Nat.reduceLeDiff, Nat.reduceAdd, Nat.reduceMul, Nat.reduceSub, Nat.reduceEqDiff, Int.reduceNeg, Int.reduceToNat, Int.reduceAdd, Int.reduceSub]; exact rfl) ?_
      refine seg_viewC rfl (by simp only [go_sem, Nat.reduceLT, Nat.reduceBEq, Nat.reduceLeDiff, Nat.reduceAdd, Nat.reduceMul, Nat.reduceSub, Nat.reduceEqDiff, Int.reduceNeg, Int.reduceToNat, Int.reduceAdd, Int.reduceSub]; try exact rfl) (by simp only [go_sem, Nat.reduceLT, Nat.reduceBEq, Nat.reduceLeDiff, Nat.reduceAdd, Nat.reduceMul, Nat.reduceSub, Nat.reduceEqDiff, Int.reduceNeg, Int.reduceToNat, Int.reduceAdd, Int.reduceSub]; try exact rfl) (by simp [go_sem]) (by simp only [go_sem, Nat.reduceLT, Nat.reduceBEq, Nat.reduceLeDiff, Nat.reduceAdd, Nat.reduceMul, Nat.reduceSub, Nat.reduceEqDiff, Int.reduceNeg, Int.reduceToNat, Int.reduceAdd, Int.reduceSub]; try exact rfl) (by simp [go_sem]) ⟨_, Go.Proofs.Try.func18, by kernel_rfl, rfl⟩ (fun hb => (sameLog_ok [y] [r] (by simp) (by simp))) (by simp [go_sem]) (by simp only [go_sem, Nat.reduceLT, Nat.reduceBEq, Nat.reduceLeDiff, Nat.reduceAdd, Nat.reduceMul, Nat.reduceSub, Nat.reduceEqDiff, Int.reduceNeg, Int.reduceToNat, Int.reduceAdd, Int.reduceSub]; exact rfl) (by simp only [go_sem, Nat.reduceLT, Nat.reduceBEq, Nat.reduceLeDiff, Nat.reduceAdd, Nat.reduceMul, Nat.reduceSub, Nat.reduceEqDiff, Int.reduceNeg, Int.reduceToNat, Int.reduceAdd, Int.reduceSub]; exact rfl) ?_
      refine seg_runN tabOK 1 (by simp only [go_sem, Nat.reduceLT, Nat.reduceBEq, Nat.reduceLeDiff, Nat.reduceAdd, Nat.reduceMul, Nat.reduceSub, Nat.reduceEqDiff, Int.reduceNeg, Int.reduceToNat, Int.reduceAdd, Int.reduceSub]; exact rfl) (by simp only [go_sem, Nat.reduceLT, Nat.reduceBEq, Nat.reduceLeDiff, Nat.reduceAdd, Nat.reduceMul, Nat.reduceSub, Nat.reduceEqDiff, Int.reduceNeg, Int.reduceToNat, Int.reduceAdd, Int.reduceSub]; exact rfl) (by simp only [go_sem, Nat.reduceLT, Nat.reduceBEq, Nat.reduceLeDiff, Nat.reduceAdd, Nat.reduceMul, Nat.reduceSub, Nat.reduceEqDiff, Int.reduceNeg, Int.reduceToNat, Int.reduceAdd, Int.reduceSub]; try exact rfl) (by simp [go_sem]) (by simp only [go_sem, Nat.reduceLT, Nat.reduceBEq, Nat.reduceLeDiff, Nat.reduceAdd, Nat.reduceMul, Nat.reduceSub, Nat.reduceEqDiff, Int.reduceNeg, Int.reduceToNat, Int.reduceAdd, Int.reduceSub]; exact rfl) ?_
      refine seg_end (by kernel_rfl) (by simp only [go_sem, Nat.reduceLT, Nat.reduceBEq, Nat.reduceLeDiff, Nat.reduceAdd, Nat.reduceMul, Nat.reduceSub, Nat.reduceEqDiff, Int.reduceNeg, Int.reduceToNat, Int.reduceAdd, Int.reduceSub]; exact rfl) ?_
      refine draw_close (by kernel_rfl) ?_
      by_cases hyr : y = r
      · refine cw_condT (by simp only [go_sem, Nat.reduceLT, Nat.reduceBEq, Nat.reduceLeDiff, Nat.reduceAdd, Nat.reduceMul, Nat.reduceSub, Nat.reduceEqDiff, Int.reduceNeg, Int.reduceToNat, Int.reduceAdd, Int.reduceSub]; try exact rfl) trivial (by simp [hyr]) ?_
        have htk2 : (ys.map recRow ++ [recRow y]).take ys.length = ys.map recRow := List.take_left' (by simp)
        refine cw_go tabOK 99 (by simp only [go_sem, Nat.reduceLT, Nat.reduceBEq, Nat.reduceLeDiff, Nat.reduceAdd, Nat.reduceMul, Nat.reduceSub, Nat.reduceEqDiff, Int.reduceNeg, Int.reduceToNat, Int.reduceAdd, Int.reduceSub, hw, htk2]; try exact rfl) ?_ ?_
        · simp [go_sem]
          intro row hrow
          rcases hrow with ⟨z, _, rfl⟩ | rfl <;> rfl
        have hys : ys.Sublist l := by
          rw [if_pos (by simp [hyr])] at hsub
          simpa using hsub
        obtain ⟨X, hX, hsX⟩ : ∃ X : List Rec, X = ys ∧ X.Sublist l := ⟨ys, rfl, hys⟩
        rw [← hX]
        have hXl := hsX.length_le
        clear hadd
        refine cw_loopS (fun s : Nat × Nat => s.1 ≤ X.length ∧ s.2 ≤ l.length ∧ (X.drop s.1).Sublist (l.drop s.2)) (fun s => X.length - s.1) (fun s => [(52, .int .i64 (s.1 : Nat)), (7, .int .i64 (s.2 : Nat)), (8, .any), (9, .any), (10, .any), (11, .any), (12, .any), (13, .any), (14, .any), (15, .any), (16, .any), (17, .any), (18, .any), (19, .any), (20, .any), (21, .any), (22, .any), (23, .any), (24, .any), (25, .any), (26, .any), (27, .any), (28, .any), (29, .any), (30, .any), (31, .any), (32, .any), (33, .any), (34, .any), (35, .any), (36, .any), (37, .any), (38, .any), (39, .any), (40, .any), (41, .any), (42, .any), (43, .any), (44, .any), (45, .any), (46, .any), (47, .any), (48, .any), (49, .any), (53, .any), (54, .any), (55, .any), (56, .any), (57, .any), (58, .any), (59, .any), (60, .any), (61, .any), (62, .any), (63, .any), (64, .any), (65, .any), (66, .any), (67, .any), (68, .any), (69, .any), (70, .any), (71, .any), (72, .any), (73, .any), (74, .any), (75, .any), (76, .any), (77, .any), (78, .any), (79, .any)]) (fun _ => []) (0, 0) ⟨by omega, by omega, hsX⟩ ?_ fun s hs => ?_
        · simp only [go_sem, Nat.reduceLT, Nat.reduceBEq, Nat.reduceLeDiff, Nat.reduceAdd, Nat.reduceMul, Nat.reduceSub, Nat.reduceEqDiff, Int.reduceNeg, Int.reduceToNat, Int.reduceAdd, Int.reduceSub]
          exact le_sub (by simp [go_sem]) (by simp [go_sem]) (by simp [go_sem])
        obtain ⟨i, p⟩ := s
        obtain ⟨hi, hp, hs⟩ := hs
        simp only at hi hp hs
        simp only [go_sem, Nat.reduceLT, Nat.reduceBEq, Nat.reduceLeDiff, Nat.reduceAdd, Nat.reduceMul, Nat.reduceSub, Nat.reduceEqDiff, Int.reduceNeg, Int.reduceToNat, Int.reduceAdd, Int.reduceSub]
        refine cw_go tabOK 99 (by simp only [go_sem, Nat.reduceLT, Nat.reduceBEq, Nat.reduceLeDiff, Nat.reduceAdd, Nat.reduceMul, Nat.reduceSub, Nat.reduceEqDiff, Int.reduceNeg, Int.reduceToNat, Int.reduceAdd, Int.reduceSub]; try exact rfl) (by simp [go_sem]) ?_
        refine cw_cond (by simp only [go_sem, Nat.reduceLT, Nat.reduceBEq, Nat.reduceLeDiff, Nat.reduceAdd, Nat.reduceMul, Nat.reduceSub, Nat.reduceEqDiff, Int.reduceNeg, Int.reduceToNat, Int.reduceAdd, Int.reduceSub]; try exact rfl) trivial (fun h => ?_) (fun h => ?_)
        · have hlt : i < X.length := by have := of_decide_eq_true h; omega
          have hg : (X.map recRow).getD i [] = recRow (X.getD i default) := Fam.getD hlt
          rw [drop_getD hlt] at hs
          generalize X.getD i default = y at hg hs
          refine cw_go tabOK 99 (by simp only [go_sem, Nat.reduceLT, Nat.reduceBEq, Nat.reduceLeDiff, Nat.reduceAdd, Nat.reduceMul, Nat.reduceSub, Nat.reduceEqDiff, Int.reduceNeg, Int.reduceToNat, Int.reduceAdd, Int.reduceSub, hg, recRow]; try exact rfl) ?_ ?_
          · simp [hlt]
          refine cw_freeze 9 rfl (rfl) ?_
          simp only [go_sem, Nat.reduceLT, Nat.reduceBEq, Nat.reduceLeDiff, Nat.reduceAdd, Nat.reduceMul, Nat.reduceSub, Nat.reduceEqDiff, Int.reduceNeg, Int.reduceToNat, Int.reduceAdd, Int.reduceSub]
          refine cw_loopS (fun a : Nat => a ≤ l.length ∧ (y :: X.drop (i + 1)).Sublist (l.drop a)) (fun a => l.length - a) (fun a => [(7, .int .i64 (a : Nat)), (56, .any), (57, .any), (58, .any), (59, .any), (60, .any), (61, .any), (62, .any), (63, .any), (64, .any), (65, .any), (66, .any), (67, .any), (68, .any), (69, .any), (70, .any), (71, .any), (72, .any)]) (fun _ => []) p ⟨hp, hs⟩ ?_ fun a ha => ?_
          · simp only [go_sem, Nat.reduceLT, Nat.reduceBEq, Nat.reduceLeDiff, Nat.reduceAdd, Nat.reduceMul, Nat.reduceSub, Nat.reduceEqDiff, Int.reduceNeg, Int.reduceToNat, Int.reduceAdd, Int.reduceSub]
            exact le_sub (by simp [go_sem]) (by simp [go_sem]) (by simp [go_sem])
          obtain ⟨ha, hs⟩ := ha
          have hal : a < l.length := by
            by_cases h : a < l.length
            · exact h
            · rw [List.drop_eq_nil_of_le (show l.length ≤ a by omega)] at hs; cases hs
          rw [drop_getD hal] at hs
          have hsl : ((l.map recRow).take (a + 1)).drop a = [recRow (l.getD a default)] := by
            rw [← List.map_take, take_succ_getD hal, List.map_append, List.drop_left' (by simp; omega)]; rfl
          have hd : decide ((a : Int) < (l.length : Int)) = true := decide_eq_true (by omega)
          have hw : IntKind.i64.wrap ((a : Int) + 1) = ((a + 1 : Nat) : Int) := by rw [Eng.wrap_small (by omega) (by omega)]; rfl
          have hw2 : IntKind.i64.wrap ((i : Int) + 1) = ((i + 1 : Nat) : Int) := by rw [Eng.wrap_small (by omega) (by omega)]; rfl
          generalize l.getD a default = z at hs hsl
          simp only [go_sem, Nat.reduceLT, Nat.reduceBEq, Nat.reduceLeDiff, Nat.reduceAdd, Nat.reduceMul, Nat.reduceSub, Nat.reduceEqDiff, Int.reduceNeg, Int.reduceToNat, Int.reduceAdd, Int.reduceSub]
          refine cw_go tabOK 99 (by simp only [go_sem, Nat.reduceLT, Nat.reduceBEq, Nat.reduceLeDiff, Nat.reduceAdd, Nat.reduceMul, Nat.reduceSub, Nat.reduceEqDiff, Int.reduceNeg, Int.reduceToNat, Int.reduceAdd, Int.reduceSub]; try exact rfl) (by simp [go_sem]) ?_
          refine cw_draw mixed ?_
          refine seg_start rfl ?_
          refine seg_runN tabOK 5 (by simp only [go_sem, Nat.reduceLT, Nat.reduceBEq, Nat.reduceLeDiff, Nat.reduceAdd, Nat.reduceMul, Nat.reduceSub, Nat.reduceEqDiff, Int.reduceNeg, Int.reduceToNat, Int.reduceAdd, Int.reduceSub]; exact rfl) (by simp only [go_sem, Nat.reduceLT, Nat.reduceBEq, Nat.reduceLeDiff, Nat.reduceAdd, Nat.reduceMul, Nat.reduceSub, Nat.reduceEqDiff, Int.reduceNeg, Int.reduceToNat, Int.reduceAdd, Int.reduceSub]; exact rfl) (by simp only [go_sem, Nat.reduceLT, Nat.reduceBEq, Nat.reduceLeDiff, Nat.reduceAdd, Nat.reduceMul, Nat.reduceSub, Nat.reduceEqDiff, Int.reduceNeg, Int.reduceToNat, Int.reduceAdd, Int.reduceSub, hd]; try exact rfl) (by simp [go_sem, hd]) (by simp only [go_sem, Nat.reduceLT, Nat.reduceBEq, Nat.reduceLeDiff, Nat.reduceAdd, Nat.reduceMul, Nat.reduceSub, Nat.reduceEqDiff, Int.reduceNeg, Int.reduceToNat, Int.reduceAdd, Int.reduceSub]; exact rfl) ?_
          refine seg_runN tabOK 6 (by simp only [go_sem, Nat.reduceLT, Nat.reduceBEq, Nat.reduceLeDiff, Nat.reduceAdd, Nat.reduceMul, Nat.reduceSub, Nat.reduceEqDiff, Int.reduceNeg, Int.reduceToNat, Int.reduceAdd, Int.reduceSub]; exact rfl) (by simp only [go_sem, Nat.reduceLT, Nat.reduceBEq, Nat.reduceLeDiff, Nat.reduceAdd, Nat.reduceMul, Nat.reduceSub, Nat.reduceEqDiff, Int.reduceNeg, Int.reduceToNat, Int.reduceAdd, Int.reduceSub]; exact rfl) (by simp only [go_sem, Nat.reduceLT, Nat.reduceBEq, Nat.reduceLeDiff, Nat.reduceAdd, Nat.reduceMul, Nat.reduceSub, Nat.reduceEqDiff, Int.reduceNeg, Int.reduceToNat, Int.reduceAdd, Int.reduceSub, hd, hw, hsl]; try exact rfl) ?_ (by simp only [go_sem, Nat.reduceLT, Nat.reduceBEq, Nat.reduceLeDiff, Nat.reduceAdd, Nat.reduceMul, Nat.reduceSub, Nat.reduceEqDiff, Int.reduceNeg, Int.reduceToNat, Int.reduceAdd, Int.reduceSub]; exact rfl) ?_
          · simp [go_sem]
            exact ⟨by omega, by omega, fun _ _ => rfl⟩
          refine seg_new tabOK rfl (by simp only [go_sem, Nat.reduceLT, Nat.reduceBEq, Nat.reduceLeDiff, Nat.reduceAdd, Nat.reduceMul, Nat.reduceSub, Nat.reduceEqDiff, Int.reduceNeg, Int.reduceToNat, Int.reduceAdd, Int.reduceSub]; try exact rfl) (by simp only [go_sem, Nat.reduceLT, Nat.reduceBEq, Nat.reduceLeDiff, Nat.reduceAdd, Nat.reduceMul, Nat.reduceSub, Nat.reduceEqDiff, Int.reduceNeg, Int.reduceToNat, Int.reduceAdd, Int.reduceSub]; try exact rfl) (by simp [go_sem]) (by simp only [go_sem, Nat.reduceLT, Nat.reduceBEq, Nat.reduceLeDiff, Nat.reduceAdd, Nat.reduceMul, Nat.reduceSub, Nat.reduceEqDiff, Int.reduceNeg, Int.reduceToNat, Int.reduceAdd, Int.reduceSub]; try exact rfl) (by simp only [go_sem, Nat.reduceLT, Nat.reduceBEq, Nat.reduceLeDiff, Nat.reduceAdd, Nat.reduceMul, Nat.reduceSub, Nat.reduceEqDiff, Int.reduceNeg, Int.reduceToNat, Int.reduceAdd, Int.reduceSub]; exact rfl) (by simp only [go_sem, Nat.reduceLT, Nat.reduceBEq, Nat.reduceLeDiff, Nat.reduceAdd, Nat.reduceMul, Nat.reduceSub, Nat.reduceEqDiff, Int.reduceNeg, Int.reduceToNat, Int.reduceAdd, Int.reduceSub]; exact rfl) ?_
          refine seg_viewC rfl (by simp only [go_sem, Nat.reduceLT, Nat.reduceBEq, Nat.reduceLeDiff, Nat.reduceAdd, Nat.reduceMul, Nat.reduceSub, Nat.reduceEqDiff, Int.reduceNeg, Int.reduceToNat, Int.reduceAdd, Int.reduceSub]; try exact rfl) (by simp only [go_sem, Nat.reduceLT, Nat.reduceBEq, Nat.reduceLeDiff, Nat.reduceAdd, Nat.reduceMul, Nat.reduceSub, Nat.reduceEqDiff, Int.reduceNeg, Int.reduceToNat, Int.reduceAdd, Int.reduceSub]; try exact rfl) (by simp [go_sem]) (by simp only [go_sem, Nat.reduceLT, Nat.reduceBEq, Nat.reduceLeDiff, Nat.reduceAdd, Nat.reduceMul, Nat.reduceSub, Nat.reduceEqDiff, Int.reduceNeg, Int.reduceToNat, Int.reduceAdd, Int.reduceSub]; try exact rfl) (by simp [go_sem]) ⟨_, Go.Proofs.Try.func18, by kernel_rfl, rfl⟩ (fun hb => (sameLog_ok [z] [y] (by simp) (by simp))) (by simp [go_sem]) (by simp only [go_sem, Nat.reduceLT, Nat.reduceBEq, Nat.reduceLeDiff, Nat.reduceAdd, Nat.reduceMul, Nat.reduceSub, Nat.reduceEqDiff, Int.reduceNeg, Int.reduceToNat, Int.reduceAdd, Int.reduceSub]; exact rfl) (by simp only [go_sem, Nat.reduceLT, Nat.reduceBEq, Nat.reduceLeDiff, Nat.reduceAdd, Nat.reduceMul, Nat.reduceSub, Nat.reduceEqDiff, Int.reduceNeg, Int.reduceToNat, Int.reduceAdd, Int.reduceSub]; exact rfl) ?_
          refine seg_runN tabOK 2 (by simp only [go_sem, Nat.reduceLT, Nat.reduceBEq, Nat.reduceLeDiff, Nat.reduceAdd, Nat.reduceMul, Nat.reduceSub, Nat.reduceEqDiff, Int.reduceNeg, Int.reduceToNat, Int.reduceAdd, Int.reduceSub]; exact rfl) (by simp only [go_sem, Nat.reduceLT, Nat.reduceBEq, Nat.reduceLeDiff, Nat.reduceAdd, Nat.reduceMul, Nat.reduceSub, Nat.reduceEqDiff, Int.reduceNeg, Int.reduceToNat, Int.reduceAdd, Int.reduceSub]; exact rfl) (by simp only [go_sem, Nat.reduceLT, Nat.reduceBEq, Nat.reduceLeDiff, Nat.reduceAdd, Nat.reduceMul, Nat.reduceSub, Nat.reduceEqDiff, Int.reduceNeg, Int.reduceToNat, Int.reduceAdd, Int.reduceSub]; try exact rfl) (by simp [go_sem]) (by simp only [go_sem, Nat.reduceLT, Nat.reduceBEq, Nat.reduceLeDiff, Nat.reduceAdd, Nat.reduceMul, Nat.reduceSub, Nat.reduceEqDiff, Int.reduceNeg, Int.reduceToNat, Int.reduceAdd, Int.reduceSub]; exact rfl) ?_
          refine seg_end (by kernel_rfl) (by simp only [go_sem, Nat.reduceLT, Nat.reduceBEq, Nat.reduceLeDiff, Nat.reduceAdd, Nat.reduceMul, Nat.reduceSub, Nat.reduceEqDiff, Int.reduceNeg, Int.reduceToNat, Int.reduceAdd, Int.reduceSub]; exact rfl) ?_
          refine draw_close (by kernel_rfl) ?_
          by_cases hzy : z = y
          · refine cw_condF (by simp only [go_sem, Nat.reduceLT, Nat.reduceBEq, Nat.reduceLeDiff, Nat.reduceAdd, Nat.reduceMul, Nat.reduceSub, Nat.reduceEqDiff, Int.reduceNeg, Int.reduceToNat, Int.reduceAdd, Int.reduceSub]; try exact rfl) trivial (by simp [hzy]) ?_
            refine cw_go tabOK 99 (by simp only [go_sem, Nat.reduceLT, Nat.reduceBEq, Nat.reduceLeDiff, Nat.reduceAdd, Nat.reduceMul, Nat.reduceSub, Nat.reduceEqDiff, Int.reduceNeg, Int.reduceToNat, Int.reduceAdd, Int.reduceSub]; try exact rfl) (by simp [go_sem]) ?_
            refine cw_condF (by simp only [go_sem, Nat.reduceLT, Nat.reduceBEq, Nat.reduceLeDiff, Nat.reduceAdd, Nat.reduceMul, Nat.reduceSub, Nat.reduceEqDiff, Int.reduceNeg, Int.reduceToNat, Int.reduceAdd, Int.reduceSub]; try exact rfl) trivial (by simp; omega) ?_
            refine cw_go tabOK 99 (by simp only [go_sem, Nat.reduceLT, Nat.reduceBEq, Nat.reduceLeDiff, Nat.reduceAdd, Nat.reduceMul, Nat.reduceSub, Nat.reduceEqDiff, Int.reduceNeg, Int.reduceToNat, Int.reduceAdd, Int.reduceSub, hw, hw2]; try exact rfl) (by simp [go_sem, hw, hw2]) ?_
            refine cw_back ⟨(i + 1, a + 1), ⟨by simp only; omega, by simp only; omega, ?_⟩, by simp only; omega, le_sub ?_ ?_ ?_⟩
            · subst hzy; exact List.cons_sublist_cons.1 hs
            · simp [go_sem]
            · simp [go_sem]
            · simp [go_sem]
          · refine cw_condT (by simp only [go_sem, Nat.reduceLT, Nat.reduceBEq, Nat.reduceLeDiff, Nat.reduceAdd, Nat.reduceMul, Nat.reduceSub, Nat.reduceEqDiff, Int.reduceNeg, Int.reduceToNat, Int.reduceAdd, Int.reduceSub]; try exact rfl) trivial (by simp [hzy]) ?_
            refine cw_go tabOK 99 (by simp only [go_sem, Nat.reduceLT, Nat.reduceBEq, Nat.reduceLeDiff, Nat.reduceAdd, Nat.reduceMul, Nat.reduceSub, Nat.reduceEqDiff, Int.reduceNeg, Int.reduceToNat, Int.reduceAdd, Int.reduceSub, hw]; try exact rfl) (by simp [go_sem, hw]) ?_
            refine cw_back ⟨a + 1, ⟨by omega, sub_skip hs hzy⟩, by omega, le_sub ?_ ?_ ?_⟩
            · simp [go_sem]
            · simp [go_sem]
            · simp [go_sem]
        · refine cw_go tabOK 99 (by simp only [go_sem, Nat.reduceLT, Nat.reduceBEq, Nat.reduceLeDiff, Nat.reduceAdd, Nat.reduceMul, Nat.reduceSub, Nat.reduceEqDiff, Int.reduceNeg, Int.reduceToNat, Int.reduceAdd, Int.reduceSub]; try exact rfl) (by simp [go_sem]) ?_
          refine cw_ret ⟨_, _, (by simp only [go_sem, Nat.reduceLT, Nat.reduceBEq, Nat.reduceLeDiff, Nat.reduceAdd, Nat.reduceMul, Nat.reduceSub, Nat.reduceEqDiff, Int.reduceNeg, Int.reduceToNat, Int.reduceAdd, Int.reduceSub]; try exact rfl), by simp [go_sem], _, .inr (.inl rfl), ?_⟩
          rfl
      · refine cw_condF (by simp only [go_sem, Nat.reduceLT, Nat.reduceBEq, Nat.reduceLeDiff, Nat.reduceAdd, Nat.reduceMul, Nat.reduceSub, Nat.reduceEqDiff, Int.reduceNeg, Int.reduceToNat, Int.reduceAdd, Int.reduceSub]; try exact rfl) trivial (by simp [hyr]) ?_
        have hys : (ys ++ [y]).Sublist l := by
          rw [if_neg (by simp [hyr])] at hsub
          exact hsub
        obtain ⟨X, hX, hsX⟩ : ∃ X : List Rec, X.map recRow = ys.map recRow ++ [recRow y] ∧ X.Sublist l := ⟨ys ++ [y], by simp, hys⟩
        rw [← hX]
        refine cw_go tabOK 99 (by simp only [go_sem, Nat.reduceLT, Nat.reduceBEq, Nat.reduceLeDiff, Nat.reduceAdd, Nat.reduceMul, Nat.reduceSub, Nat.reduceEqDiff, Int.reduceNeg, Int.reduceToNat, Int.reduceAdd, Int.reduceSub]; try exact rfl) (by simp [go_sem]) ?_
        have hXl := hsX.length_le
        clear hadd
        refine cw_loopS (fun s : Nat × Nat => s.1 ≤ X.length ∧ s.2 ≤ l.length ∧ (X.drop s.1).Sublist (l.drop s.2)) (fun s => X.length - s.1) (fun s => [(52, .int .i64 (s.1 : Nat)), (7, .int .i64 (s.2 : Nat)), (8, .any), (9, .any), (10, .any), (11, .any), (12, .any), (13, .any), (14, .any), (15, .any), (16, .any), (17, .any), (18, .any), (19, .any), (20, .any), (21, .any), (22, .any), (23, .any), (24, .any), (25, .any), (26, .any), (27, .any), (28, .any), (29, .any), (30, .any), (31, .any), (32, .any), (33, .any), (34, .any), (35, .any), (36, .any), (37, .any), (38, .any), (39, .any), (40, .any), (41, .any), (42, .any), (43, .any), (44, .any), (45, .any), (46, .any), (47, .any), (48, .any), (49, .any), (53, .any), (54, .any), (55, .any), (56, .any), (57, .any), (58, .any), (59, .any), (60, .any), (61, .any), (62, .any), (63, .any), (64, .any), (65, .any), (66, .any), (67, .any), (68, .any), (69, .any), (70, .any), (71, .any), (72, .any), (73, .any), (74, .any), (75, .any), (76, .any), (77, .any), (78, .any), (79, .any)]) (fun _ => []) (0, 0) ⟨by omega, by omega, hsX⟩ ?_ fun s hs => ?_
        · simp only [go_sem, Nat.reduceLT, Nat.reduceBEq, Nat.reduceLeDiff, Nat.reduceAdd, Nat.reduceMul, Nat.reduceSub, Nat.reduceEqDiff, Int.reduceNeg, Int.reduceToNat, Int.reduceAdd, Int.reduceSub]
          exact le_sub (by simp [go_sem]) (by simp [go_sem]) (by simp [go_sem])
        obtain ⟨i, p⟩ := s
        obtain ⟨hi, hp, hs⟩ := hs
        simp only at hi hp hs
        simp only [go_sem, Nat.reduceLT, Nat.reduceBEq, Nat.reduceLeDiff, Nat.reduceAdd, Nat.reduceMul, Nat.reduceSub, Nat.reduceEqDiff, Int.reduceNeg, Int.reduceToNat, Int.reduceAdd, Int.reduceSub]
        refine cw_go tabOK 99 (by simp only [go_sem, Nat.reduceLT, Nat.reduceBEq, Nat.reduceLeDiff, Nat.reduceAdd, Nat.reduceMul, Nat.reduceSub, Nat.reduceEqDiff, Int.reduceNeg, Int.reduceToNat, Int.reduceAdd, Int.reduceSub]; try exact rfl) (by simp [go_sem]) ?_
        refine cw_cond (by simp only [go_sem, Nat.reduceLT, Nat.reduceBEq, Nat.reduceLeDiff, Nat.reduceAdd, Nat.reduceMul, Nat.reduceSub, Nat.reduceEqDiff, Int.reduceNeg, Int.reduceToNat, Int.reduceAdd, Int.reduceSub]; try exact rfl) trivial (fun h => ?_) (fun h => ?_)
        · have hlt : i < X.length := by have := of_decide_eq_true h; omega
          have hg : (X.map recRow).getD i [] = recRow (X.getD i default) := Fam.getD hlt
          rw [drop_getD hlt] at hs
          generalize X.getD i default = y at hg hs
          refine cw_go tabOK 99 (by simp only [go_sem, Nat.reduceLT, Nat.reduceBEq, Nat.reduceLeDiff, Nat.reduceAdd, Nat.reduceMul, Nat.reduceSub, Nat.reduceEqDiff, Int.reduceNeg, Int.reduceToNat, Int.reduceAdd, Int.reduceSub, hg, recRow]; try exact rfl) ?_ ?_
          · simp [hlt]
          refine cw_freeze 9 rfl (rfl) ?_
          simp only [go_sem, Nat.reduceLT, Nat.reduceBEq, Nat.reduceLeDiff, Nat.reduceAdd, Nat.reduceMul, Nat.reduceSub, Nat.reduceEqDiff, Int.reduceNeg, Int.reduceToNat, Int.reduceAdd, Int.reduceSub]
          refine cw_loopS (fun a : Nat => a ≤ l.length ∧ (y :: X.drop (i + 1)).Sublist (l.drop a)) (fun a => l.length - a) (fun a => [(7, .int .i64 (a : Nat)), (56, .any), (57, .any), (58, .any), (59, .any), (60, .any), (61, .any), (62, .any), (63, .any), (64, .any), (65, .any), (66, .any), (67, .any), (68, .any), (69, .any), (70, .any), (71, .any), (72, .any)]) (fun _ => []) p ⟨hp, hs⟩ ?_ fun a ha => ?_
          · simp only [go_sem, Nat.reduceLT, Nat.reduceBEq, Nat.reduceLeDiff, Nat.reduceAdd, Nat.reduceMul, Nat.reduceSub, Nat.reduceEqDiff, Int.reduceNeg, Int.reduceToNat, Int.reduceAdd, Int.reduceSub]
            exact le_sub (by simp [go_sem]) (by simp [go_sem]) (by simp [go_sem])
          obtain ⟨ha, hs⟩ := ha
          have hal : a < l.length := by
            by_cases h : a < l.length
            · exact h
            · rw [List.drop_eq_nil_of_le (show l.length ≤ a by omega)] at hs; cases hs
          rw [drop_getD hal] at hs
          have hsl : ((l.map recRow).take (a + 1)).drop a = [recRow (l.getD a default)] := by
            rw [← List.map_take, take_succ_getD hal, List.map_append, List.drop_left' (by simp; omega)]; rfl
          have hd : decide ((a : Int) < (l.length : Int)) = true := decide_eq_true (by omega)
          have hw : IntKind.i64.wrap ((a : Int) + 1) = ((a + 1 : Nat) : Int) := by rw [Eng.wrap_small (by omega) (by omega)]; rfl
          have hw2 : IntKind.i64.wrap ((i : Int) + 1) = ((i + 1 : Nat) : Int) := by rw [Eng.wrap_small (by omega) (by omega)]; rfl
          generalize l.getD a default = z at hs hsl
          simp only [go_sem, Nat.reduceLT, Nat.reduceBEq, Nat.reduceLeDiff, Nat.reduceAdd, Nat.reduceMul, Nat.reduceSub, Nat.reduceEqDiff, Int.reduceNeg, Int.reduceToNat, Int.reduceAdd, Int.reduceSub]
          refine cw_go tabOK 99 (by simp only [go_sem, Nat.reduceLT, Nat.reduceBEq, Nat.reduceLeDiff, Nat.reduceAdd, Nat.reduceMul, Nat.reduceSub, Nat.reduceEqDiff, Int.reduceNeg, Int.reduceToNat, Int.reduceAdd, Int.reduceSub]; try exact rfl) (by simp [go_sem]) ?_
          refine cw_draw mixed ?_
          refine seg_start rfl ?_
          refine seg_runN tabOK 5 (by simp only [go_sem, Nat.reduceLT, Nat.reduceBEq, Nat.reduceLeDiff, Nat.reduceAdd, Nat.reduceMul, Nat.reduceSub, Nat.reduceEqDiff, Int.reduceNeg, Int.reduceToNat, Int.reduceAdd, Int.reduceSub]; exact rfl) (by simp only [go_sem, Nat.reduceLT, Nat.reduceBEq, Nat.reduceLeDiff, Nat.reduceAdd, Nat.reduceMul, Nat.reduceSub, Nat.reduceEqDiff, Int.reduceNeg, Int.reduceToNat, Int.reduceAdd, Int.reduceSub]; exact rfl) (by simp only [go_sem, Nat.reduceLT, Nat.reduceBEq, Nat.reduceLeDiff, Nat.reduceAdd, Nat.reduceMul, Nat.reduceSub, Nat.reduceEqDiff, Int.reduceNeg, Int.reduceToNat, Int.reduceAdd, Int.reduceSub, hd]; try exact rfl) (by simp [go_sem, hd]) (by simp only [go_sem, Nat.reduceLT, Nat.reduceBEq, Nat.reduceLeDiff, Nat.reduceAdd, Nat.reduceMul, Nat.reduceSub, Nat.reduceEqDiff, Int.reduceNeg, Int.reduceToNat, Int.reduceAdd, Int.reduceSub]; exact rfl) ?_
          refine seg_runN tabOK 6 (by simp only [go_sem, Nat.reduceLT, Nat.reduceBEq, Nat.reduceLeDiff, Nat.reduceAdd, Nat.reduceMul, Nat.reduceSub, Nat.reduceEqDiff, Int.reduceNeg, Int.reduceToNat, Int.reduceAdd, Int.reduceSub]; exact rfl) (by simp only [go_sem, Nat.reduceLT, Nat.reduceBEq, Nat.reduceLeDiff, Nat.reduceAdd, Nat.reduceMul, Nat.reduceSub, Nat.reduceEqDiff, Int.reduceNeg, Int.reduceToNat, Int.reduceAdd, Int.reduceSub]; exact rfl) (by simp only [go_sem, Nat.reduceLT, Nat.reduceBEq, Nat.reduceLeDiff, Nat.reduceAdd, Nat.reduceMul, Nat.reduceSub, Nat.reduceEqDiff, Int.reduceNeg, Int.reduceToNat, Int.reduceAdd, Int.reduceSub, hd, hw, hsl]; try exact rfl) ?_ (by simp only [go_sem, Nat.reduceLT, Nat.reduceBEq, Nat.reduceLeDiff, Nat.reduceAdd, Nat.reduceMul, Nat.reduceSub, Nat.reduceEqDiff, Int.reduceNeg, Int.reduceToNat, Int.reduceAdd, Int.reduceSub]; exact rfl) ?_
          · simp [go_sem]
            exact ⟨by omega, by omega, fun _ _ => rfl⟩
          refine seg_new tabOK rfl (by simp only [go_sem, Nat.reduceLT, Nat.reduceBEq, Nat.reduceLeDiff, Nat.reduceAdd, Nat.reduceMul, Nat.reduceSub, Nat.reduceEqDiff, Int.reduceNeg, Int.reduceToNat, Int.reduceAdd, Int.reduceSub]; try exact rfl) (by simp only [go_sem, Nat.reduceLT, Nat.reduceBEq, Nat.reduceLeDiff, Nat.reduceAdd, Nat.reduceMul, Nat.reduceSub, Nat.reduceEqDiff, Int.reduceNeg, Int.reduceToNat, Int.reduceAdd, Int.reduceSub]; try exact rfl) (by simp [go_sem]) (by simp only [go_sem, Nat.reduceLT, Nat.reduceBEq, Nat.reduceLeDiff, Nat.reduceAdd, Nat.reduceMul, Nat.reduceSub, Nat.reduceEqDiff, Int.reduceNeg, Int.reduceToNat, Int.reduceAdd, Int.reduceSub]; try exact rfl) (by simp only [go_sem, Nat.reduceLT, Nat.reduceBEq, Nat.reduceLeDiff, Nat.reduceAdd, Nat.reduceMul, Nat.reduceSub, Nat.reduceEqDiff, Int.reduceNeg, Int.reduceToNat, Int.reduceAdd, Int.reduceSub]; exact rfl) (by simp only [go_sem, Nat.reduceLT, Nat.reduceBEq, Nat.reduceLeDiff, Nat.reduceAdd, Nat.reduceMul, Nat.reduceSub, Nat.reduceEqDiff, Int.reduceNeg, Int.reduceToNat, Int.reduceAdd, Int.reduceSub]; exact rfl) ?_
          refine seg_viewC rfl (by simp only [go_sem, Nat.reduceLT, Nat.reduceBEq, Nat.reduceLeDiff, Nat.reduceAdd, Nat.reduceMul, Nat.reduceSub, Nat.reduceEqDiff, Int.reduceNeg, Int.reduceToNat, Int.reduceAdd, Int.reduceSub]; try exact rfl) (by simp only [go_sem, Nat.reduceLT, Nat.reduceBEq, Nat.reduceLeDiff, Nat.reduceAdd, Nat.reduceMul, Nat.reduceSub, Nat.reduceEqDiff, Int.reduceNeg, Int.reduceToNat, Int.reduceAdd, Int.reduceSub]; try exact rfl) (by simp [go_sem]) (by simp only [go_sem, Nat.reduceLT, Nat.reduceBEq, Nat.reduceLeDiff, Nat.reduceAdd, Nat.reduceMul, Nat.reduceSub, Nat.reduceEqDiff, Int.reduceNeg, Int.reduceToNat, Int.reduceAdd, Int.reduceSub]; try exact rfl) (by simp [go_sem]) ⟨_, Go.Proofs.Try.func18, by kernel_rfl, rfl⟩ (fun hb => (sameLog_ok [z] [y] (by simp) (by simp))) (by simp [go_sem]) (by simp only [go_sem, Nat.reduceLT, Nat.reduceBEq, Nat.reduceLeDiff, Nat.reduceAdd, Nat.reduceMul, Nat.reduceSub, Nat.reduceEqDiff, Int.reduceNeg, Int.reduceToNat, Int.reduceAdd, Int.reduceSub]; exact rfl) (by simp only [go_sem, Nat.reduceLT, Nat.reduceBEq, Nat.reduceLeDiff, Nat.reduceAdd, Nat.reduceMul, Nat.reduceSub, Nat.reduceEqDiff, Int.reduceNeg, Int.reduceToNat, Int.reduceAdd, Int.reduceSub]; exact rfl) ?_
          refine seg_runN tabOK 2 (by simp only [go_sem, Nat.reduceLT, Nat.reduceBEq, Nat.reduceLeDiff, Nat.reduceAdd, Nat.reduceMul, Nat.reduceSub, Nat.reduceEqDiff, Int.reduceNeg, Int.reduceToNat, Int.reduceAdd, Int.reduceSub]; exact rfl) (by simp only [go_sem, Nat.reduceLT, Nat.reduceBEq, Nat.reduceLeDiff, Nat.reduceAdd, Nat.reduceMul, Nat.reduceSub, Nat.reduceEqDiff, Int.reduceNeg, Int.reduceToNat, Int.reduceAdd, Int.reduceSub]; exact rfl) (by simp only [go_sem, Nat.reduceLT, Nat.reduceBEq, Nat.reduceLeDiff, Nat.reduceAdd, Nat.reduceMul, Nat.reduceSub, Nat.reduceEqDiff, Int.reduceNeg, Int.reduceToNat, Int.reduceAdd, Int.reduceSub]; try exact rfl) (by simp [go_sem]) (by simp only [go_sem, Nat.reduceLT, Nat.reduceBEq, Nat.reduceLeDiff, Nat.reduceAdd, Nat.reduceMul, Nat.reduceSub, Nat.reduceEqDiff, Int.reduceNeg, Int.reduceToNat, Int.reduceAdd, Int.reduceSub]; exact rfl) ?_
          refine seg_end (by kernel_rfl) (by simp only [go_sem, Nat.reduceLT, Nat.reduceBEq, Nat.reduceLeDiff, Nat.reduceAdd, Nat.reduceMul, Nat.reduceSub, Nat.reduceEqDiff, Int.reduceNeg, Int.reduceToNat, Int.reduceAdd, Int.reduceSub]; exact rfl) ?_
          refine draw_close (by kernel_rfl) ?_
          by_cases hzy : z = y
          · refine cw_condF (by simp only [go_sem, Nat.reduceLT, Nat.reduceBEq, Nat.reduceLeDiff, Nat.reduceAdd, Nat.reduceMul, Nat.reduceSub, Nat.reduceEqDiff, Int.reduceNeg, Int.reduceToNat, Int.reduceAdd, Int.reduceSub]; try exact rfl) trivial (by simp [hzy]) ?_
            refine cw_go tabOK 99 (by simp only [go_sem, Nat.reduceLT, Nat.reduceBEq, Nat.reduceLeDiff, Nat.reduceAdd, Nat.reduceMul, Nat.reduceSub, Nat.reduceEqDiff, Int.reduceNeg, Int.reduceToNat, Int.reduceAdd, Int.reduceSub]; try exact rfl) (by simp [go_sem]) ?_
            refine cw_condF (by simp only [go_sem, Nat.reduceLT, Nat.reduceBEq, Nat.reduceLeDiff, Nat.reduceAdd, Nat.reduceMul, Nat.reduceSub, Nat.reduceEqDiff, Int.reduceNeg, Int.reduceToNat, Int.reduceAdd, Int.reduceSub]; try exact rfl) trivial (by simp; omega) ?_
            refine cw_go tabOK 99 (by simp only [go_sem, Nat.reduceLT, Nat.reduceBEq, Nat.reduceLeDiff, Nat.reduceAdd, Nat.reduceMul, Nat.reduceSub, Nat.reduceEqDiff, Int.reduceNeg, Int.reduceToNat, Int.reduceAdd, Int.reduceSub, hw, hw2]; try exact rfl) (by simp [go_sem, hw, hw2]) ?_
            refine cw_back ⟨(i + 1, a + 1), ⟨by simp only; omega, by simp only; omega, ?_⟩, by simp only; omega, le_sub ?_ ?_ ?_⟩
            · subst hzy; exact List.cons_sublist_cons.1 hs
            · simp [go_sem]
            · simp [go_sem]
            · simp [go_sem]
          · refine cw_condT (by simp only [go_sem, Nat.reduceLT, Nat.reduceBEq, Nat.reduceLeDiff, Nat.reduceAdd, Nat.reduceMul, Nat.reduceSub, Nat.reduceEqDiff, Int.reduceNeg, Int.reduceToNat, Int.reduceAdd, Int.reduceSub]; try exact rfl) trivial (by simp [hzy]) ?_
            refine cw_go tabOK 99 (by simp only [go_sem, Nat.reduceLT, Nat.reduceBEq, Nat.reduceLeDiff, Nat.reduceAdd, Nat.reduceMul, Nat.reduceSub, Nat.reduceEqDiff, Int.reduceNeg, Int.reduceToNat, Int.reduceAdd, Int.reduceSub, hw]; try exact rfl) (by simp [go_sem, hw]) ?_
            refine cw_back ⟨a + 1, ⟨by omega, sub_skip hs hzy⟩, by omega, le_sub ?_ ?_ ?_⟩
            · simp [go_sem]
            · simp [go_sem]
            · simp [go_sem]
        · refine cw_go tabOK 99 (by simp only [go_sem, Nat.reduceLT, Nat.reduceBEq, Nat.reduceLeDiff, Nat.reduceAdd, Nat.reduceMul, Nat.reduceSub, Nat.reduceEqDiff, Int.reduceNeg, Int.reduceToNat, Int.reduceAdd, Int.reduceSub]; try exact rfl) (by simp [go_sem]) ?_
          refine cw_ret ⟨_, _, (by simp only [go_sem, Nat.reduceLT, Nat.reduceBEq, Nat.reduceLeDiff, Nat.reduceAdd, Nat.reduceMul, Nat.reduceSub, Nat.reduceEqDiff, Int.reduceNeg, Int.reduceToNat, Int.reduceAdd, Int.reduceSub]; try exact rfl), by simp [go_sem], _, .inr (.inl rfl), ?_⟩
          rfl
end La
