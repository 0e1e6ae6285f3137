/- Acts and logs: copies, fids. No condition. -/
import Derived.Test.YtldpfleilffanaaOwn
namespace La
open Go Go.Eng Go.Proofs
set_option maxRecDepth 10000
set_option linter.unusedSimpArgs false

def Act.Small (a : Act) : Prop := a.data.length ≤ 100000000
structure SmallL (l : List Rec) : Prop where
  len : l.length ≤ 100000000
  each : ∀ r, r ∈ l → r.act.Small

theorem acts_own (a : Act) (ha : a.Small) : FnOK Try.prog 72 [.agg (actRow a)] [] (fun r _ => r = .agg (actRow a)) := by
  unfold actRow
  refine fn_of_cwW tabOK (Go.Proofs.Try.func72) rfl (fun C => ?_)
  simp only [Go.Proofs.Try.ntmps72, Go.Proofs.Try.results72, go_sem, Nat.reduceLT, Nat.reduceBEq, Nat.reduceLeDiff, Nat.reduceAdd, Nat.reduceMul, Nat.reduceSub, Nat.reduceEqDiff, Int.reduceNeg, Int.reduceToNat, Int.reduceAdd, Int.reduceSub]
  refine cw_go tabOK 99 (by simp only [go_sem, Nat.reduceLT, Nat.reduceBEq, Nat.reduceLeDiff, Nat.reduceAdd, Nat.reduceMul, Nat.reduceSub, Nat.reduceEqDiff, Int.reduceNeg, Int.reduceToNat, Int.reduceAdd, Int.reduceSub]; try exact rfl) (by simp [go_sem]) ?_
  refine cw_call rfl rfl (by simp only [go_sem, Nat.reduceLT, Nat.reduceBEq, Nat.reduceLeDiff, Nat.reduceAdd, Nat.reduceMul, Nat.reduceSub, Nat.reduceEqDiff, Int.reduceNeg, Int.reduceToNat, Int.reduceAdd, Int.reduceSub]; try exact rfl) (by simp [go_sem]) ⟨_, Go.Proofs.Try.func128, by kernel_rfl, rfl⟩ (by simp [go_sem]) (clone_bytes _ ha) (by simp [go_sem]) (by simp only [go_sem, Nat.reduceLT, Nat.reduceBEq, Nat.reduceLeDiff, Nat.reduceAdd, Nat.reduceMul, Nat.reduceSub, Nat.reduceEqDiff, Int.reduceNeg, Int.reduceToNat, Int.reduceAdd, Int.reduceSub]; exact rfl) ?_
  refine cw_go tabOK 99 (by simp only [go_sem, Nat.reduceLT, Nat.reduceBEq, Nat.reduceLeDiff, Nat.reduceAdd, Nat.reduceMul, Nat.reduceSub, Nat.reduceEqDiff, Int.reduceNeg, Int.reduceToNat, Int.reduceAdd, Int.reduceSub]; try exact rfl) (by simp [go_sem]) ?_
  refine cw_ret ⟨_, _, (by simp only [go_sem, Nat.reduceLT, Nat.reduceBEq, Nat.reduceLeDiff, Nat.reduceAdd, Nat.reduceMul, Nat.reduceSub, Nat.reduceEqDiff, Int.reduceNeg, Int.reduceToNat, Int.reduceAdd, Int.reduceSub]; try exact rfl), by simp [go_sem], _, .inr (.inl rfl), ?_⟩
  rfl

theorem logs_ownH (l : List Rec) (hl : SmallL l) : FnOK Try.prog 19 [.sl (l.map recRow)] [] (fun r H => r = .osl 19 9 0 (l.map recRow).length ∧ ∀ i b, hget [(19, .cells 27 9 (l.map recRow))] i = some b → hget H i = some b) := by
  have hlen := hl.len
  refine fn_of_cwW tabOK (Go.Proofs.Try.func19) rfl (fun C => ?_)
  simp only [Go.Proofs.Try.ntmps19, Go.Proofs.Try.results19, go_sem, Nat.reduceLT, Nat.reduceBEq, Nat.reduceLeDiff, Nat.reduceAdd, Nat.reduceMul, Nat.reduceSub, Nat.reduceEqDiff, Int.reduceNeg, Int.reduceToNat, Int.reduceAdd, Int.reduceSub]
  refine cw_go tabOK 99 (by simp only [go_sem, Nat.reduceLT, Nat.reduceBEq, Nat.reduceLeDiff, Nat.reduceAdd, Nat.reduceMul, Nat.reduceSub, Nat.reduceEqDiff, Int.reduceNeg, Int.reduceToNat, Int.reduceAdd, Int.reduceSub]; try exact rfl) (by simp [go_sem]) ?_
  refine cw_loopS (fun i : Nat => i ≤ l.length) (fun i => l.length - i) (fun i => [(3, .osl 19 9 0 i), (5, .any), (8, .int .i64 i), (9, .any), (10, .any), (11, .any), (12, .any), (13, .any), (14, .any), (15, .any), (16, .any), (17, .any), (18, .any), (19, .any), (20, .any)])
    (fun i => [(19, .cells 27 9 ((l.take i).map recRow))]) 0 (by omega) ?_ fun i hi => ?_
  · simp only [go_sem, Nat.reduceLT, Nat.reduceBEq, Nat.reduceLeDiff, Nat.reduceAdd, Nat.reduceMul, Nat.reduceSub, Nat.reduceEqDiff, Int.reduceNeg, Int.reduceToNat, Int.reduceAdd, Int.reduceSub]
    exact le_sub (by simp [go_sem]) (by simp [go_sem]) (by simp only [go_sem, Nat.reduceLT, Nat.reduceBEq, Nat.reduceLeDiff, Nat.reduceAdd, Nat.reduceMul, Nat.reduceSub, Nat.reduceEqDiff, Int.reduceNeg, Int.reduceToNat, Int.reduceAdd, Int.reduceSub])
  simp only [go_sem, Nat.reduceLT, Nat.reduceBEq, Nat.reduceLeDiff, Nat.reduceAdd, Nat.reduceMul, Nat.reduceSub, Nat.reduceEqDiff, Int.reduceNeg, Int.reduceToNat, Int.reduceAdd, Int.reduceSub]
  refine cw_go tabOK 99 (by simp only [go_sem, Nat.reduceLT, Nat.reduceBEq, Nat.reduceLeDiff, Nat.reduceAdd, Nat.reduceMul, Nat.reduceSub, Nat.reduceEqDiff, Int.reduceNeg, Int.reduceToNat, Int.reduceAdd, Int.reduceSub]; try exact rfl) (by simp [go_sem]) ?_
  refine cw_cond (by simp only [go_sem, Nat.reduceLT, Nat.reduceBEq, Nat.reduceLeDiff, Nat.reduceAdd, Nat.reduceMul, Nat.reduceSub, Nat.reduceEqDiff, Int.reduceNeg, Int.reduceToNat, Int.reduceAdd, Int.reduceSub]; try exact rfl) trivial (fun h => ?_) (fun h => ?_)
  · have hlt : i < l.length := by simp at h; omega
    have hn := hl.each _ (getD_mem hlt)
    have hg : (l.map recRow).getD i [] = recRow (l.getD i default) := Fam.getD hlt
    have hs := take_succ_map recRow hlt
    generalize l.getD i default = n at hn hg hs
    refine cw_go tabOK 99 (by simp only [go_sem, Nat.reduceLT, Nat.reduceBEq, Nat.reduceLeDiff, Nat.reduceAdd, Nat.reduceMul, Nat.reduceSub, Nat.reduceEqDiff, Int.reduceNeg, Int.reduceToNat, Int.reduceAdd, Int.reduceSub, hg, recRow]; try exact rfl) ?_ ?_
    · simp [hlt, recRow]
    refine cw_call rfl rfl (by simp only [go_sem, Nat.reduceLT, Nat.reduceBEq, Nat.reduceLeDiff, Nat.reduceAdd, Nat.reduceMul, Nat.reduceSub, Nat.reduceEqDiff, Int.reduceNeg, Int.reduceToNat, Int.reduceAdd, Int.reduceSub]; try exact rfl) (by simp [go_sem]) ⟨_, Go.Proofs.Try.func72, by kernel_rfl, rfl⟩ (by simp [go_sem]) (acts_own n.act hn) (by simp [go_sem]) (by simp only [go_sem, Nat.reduceLT, Nat.reduceBEq, Nat.reduceLeDiff, Nat.reduceAdd, Nat.reduceMul, Nat.reduceSub, Nat.reduceEqDiff, Int.reduceNeg, Int.reduceToNat, Int.reduceAdd, Int.reduceSub]; exact rfl) ?_
    have ht : List.take i (List.map recRow (List.take i l)) = List.map recRow (List.take i l) := List.take_of_length_le (by simp; omega)
    have hw : IntKind.i64.wrap ((i : Int) + 1) = (i : Int) + 1 := wrap_small (by omega) (by omega)
    refine cw_go tabOK 99 (by simp only [go_sem, Nat.reduceLT, Nat.reduceBEq, Nat.reduceLeDiff, Nat.reduceAdd, Nat.reduceMul, Nat.reduceSub, Nat.reduceEqDiff, Int.reduceNeg, Int.reduceToNat, Int.reduceAdd, Int.reduceSub, ht, hw, actRow]; try exact rfl) ?_ ?_
    · simp [rowsOf]; omega
    refine cw_back ⟨i + 1, by omega, by omega, le_sub ?_ ?_ ?_⟩
    · simp [go_sem]
    · simp [go_sem, hs, recRow]
    · simp only [go_sem, Nat.reduceLT, Nat.reduceBEq, Nat.reduceLeDiff, Nat.reduceAdd, Nat.reduceMul, Nat.reduceSub, Nat.reduceEqDiff, Int.reduceNeg, Int.reduceToNat, Int.reduceAdd, Int.reduceSub]
  · have e : i = l.length := by simp at h; omega
    subst e
    refine cw_go tabOK 99 (by simp only [go_sem, Nat.reduceLT, Nat.reduceBEq, Nat.reduceLeDiff, Nat.reduceAdd, Nat.reduceMul, Nat.reduceSub, Nat.reduceEqDiff, Int.reduceNeg, Int.reduceToNat, Int.reduceAdd, Int.reduceSub]; try exact rfl) (by simp [go_sem]) ?_
    refine cw_ret ⟨_, _, (by simp only [go_sem, Nat.reduceLT, Nat.reduceBEq, Nat.reduceLeDiff, Nat.reduceAdd, Nat.reduceMul, Nat.reduceSub, Nat.reduceEqDiff, Int.reduceNeg, Int.reduceToNat, Int.reduceAdd, Int.reduceSub]; try exact rfl), by simp [go_sem], _, .inr (.inl rfl), ?_⟩
    simp [go_sem]

theorem logs_own (l : List Rec) (hl : SmallL l) : FnOK Try.prog 19 [.sl (l.map recRow)] [] (fun r _ => r = .sl (l.map recRow)) := FnOK.read (logs_ownH l hl) (recRow_pure _)

theorem logs_acts (l : List Rec) (hl : SmallL l) : FnOK Try.prog 20 [.sl (l.map recRow)] [] (fun r _ => r = .sl ((l.map Rec.act).map actRow)) := by
  have hlen := hl.len
  refine fn_of_cwW tabOK (Go.Proofs.Try.func20) rfl (fun C => ?_)
  simp only [Go.Proofs.Try.ntmps20, Go.Proofs.Try.results20, go_sem, Nat.reduceLT, Nat.reduceBEq, Nat.reduceLeDiff, Nat.reduceAdd, Nat.reduceMul, Nat.reduceSub, Nat.reduceEqDiff, Int.reduceNeg, Int.reduceToNat, Int.reduceAdd, Int.reduceSub]
  refine cw_go tabOK 99 (by simp only [go_sem, Nat.reduceLT, Nat.reduceBEq, Nat.reduceLeDiff, Nat.reduceAdd, Nat.reduceMul, Nat.reduceSub, Nat.reduceEqDiff, Int.reduceNeg, Int.reduceToNat, Int.reduceAdd, Int.reduceSub]; try exact rfl) (by simp [go_sem]) ?_
  refine cw_loopS (fun i : Nat => i ≤ l.length) (fun i => l.length - i) (fun i => [(3, .osl 17 7 0 i), (5, .any), (8, .int .i64 i), (9, .any), (10, .any), (11, .any), (12, .any), (13, .any), (14, .any), (15, .any), (16, .any), (17, .any), (18, .any)])
    (fun i => [(17, .cells 25 7 (((l.map Rec.act).take i).map actRow))]) 0 (by omega) ?_ fun i hi => ?_
  · simp only [go_sem, Nat.reduceLT, Nat.reduceBEq, Nat.reduceLeDiff, Nat.reduceAdd, Nat.reduceMul, Nat.reduceSub, Nat.reduceEqDiff, Int.reduceNeg, Int.reduceToNat, Int.reduceAdd, Int.reduceSub]
    exact le_sub (by simp [go_sem]) (by simp [go_sem]) (by simp only [go_sem, Nat.reduceLT, Nat.reduceBEq, Nat.reduceLeDiff, Nat.reduceAdd, Nat.reduceMul, Nat.reduceSub, Nat.reduceEqDiff, Int.reduceNeg, Int.reduceToNat, Int.reduceAdd, Int.reduceSub])
  simp only [go_sem, Nat.reduceLT, Nat.reduceBEq, Nat.reduceLeDiff, Nat.reduceAdd, Nat.reduceMul, Nat.reduceSub, Nat.reduceEqDiff, Int.reduceNeg, Int.reduceToNat, Int.reduceAdd, Int.reduceSub]
  refine cw_go tabOK 99 (by simp only [go_sem, Nat.reduceLT, Nat.reduceBEq, Nat.reduceLeDiff, Nat.reduceAdd, Nat.reduceMul, Nat.reduceSub, Nat.reduceEqDiff, Int.reduceNeg, Int.reduceToNat, Int.reduceAdd, Int.reduceSub]; try exact rfl) (by simp [go_sem]) ?_
  refine cw_cond (by simp only [go_sem, Nat.reduceLT, Nat.reduceBEq, Nat.reduceLeDiff, Nat.reduceAdd, Nat.reduceMul, Nat.reduceSub, Nat.reduceEqDiff, Int.reduceNeg, Int.reduceToNat, Int.reduceAdd, Int.reduceSub]; try exact rfl) trivial (fun h => ?_) (fun h => ?_)
  · have hlt : i < l.length := by simp at h; omega
    have hn := hl.each _ (getD_mem hlt)
    have hg : (l.map recRow).getD i [] = recRow (l.getD i default) := Fam.getD hlt
    have hs := take_succ_map actRow (l := l.map Rec.act) (i := i) (by simpa using hlt)
    have he : (l.map Rec.act).getD i default = (l.getD i default).act := by
      rw [List.getD_eq_getElem?_getD, List.getD_eq_getElem?_getD, List.getElem?_map, List.getElem?_eq_getElem hlt]; rfl
    rw [he] at hs
    generalize l.getD i default = n at hn hg hs
    refine cw_go tabOK 99 (by simp only [go_sem, Nat.reduceLT, Nat.reduceBEq, Nat.reduceLeDiff, Nat.reduceAdd, Nat.reduceMul, Nat.reduceSub, Nat.reduceEqDiff, Int.reduceNeg, Int.reduceToNat, Int.reduceAdd, Int.reduceSub, hg, recRow]; try exact rfl) ?_ ?_
    · simp [hlt, recRow]
    refine cw_call rfl rfl (by simp only [go_sem, Nat.reduceLT, Nat.reduceBEq, Nat.reduceLeDiff, Nat.reduceAdd, Nat.reduceMul, Nat.reduceSub, Nat.reduceEqDiff, Int.reduceNeg, Int.reduceToNat, Int.reduceAdd, Int.reduceSub]; try exact rfl) (by simp [go_sem]) ⟨_, Go.Proofs.Try.func72, by kernel_rfl, rfl⟩ (by simp [go_sem]) (acts_own n.act hn) (by simp [go_sem]) (by simp only [go_sem, Nat.reduceLT, Nat.reduceBEq, Nat.reduceLeDiff, Nat.reduceAdd, Nat.reduceMul, Nat.reduceSub, Nat.reduceEqDiff, Int.reduceNeg, Int.reduceToNat, Int.reduceAdd, Int.reduceSub]; exact rfl) ?_
    have ht : List.take i (List.map actRow (List.take i (l.map Rec.act))) = List.map actRow (List.take i (l.map Rec.act)) := List.take_of_length_le (by simp; omega)
    have hw : IntKind.i64.wrap ((i : Int) + 1) = (i : Int) + 1 := wrap_small (by omega) (by omega)
    refine cw_go tabOK 99 (by simp only [go_sem, Nat.reduceLT, Nat.reduceBEq, Nat.reduceLeDiff, Nat.reduceAdd, Nat.reduceMul, Nat.reduceSub, Nat.reduceEqDiff, Int.reduceNeg, Int.reduceToNat, Int.reduceAdd, Int.reduceSub, ht, hw, actRow]; try exact rfl) ?_ ?_
    · simp [rowsOf]; omega
    refine cw_back ⟨i + 1, by omega, by omega, le_sub ?_ ?_ ?_⟩
    · simp [go_sem]
    · simp [go_sem, hs, actRow]
    · simp only [go_sem, Nat.reduceLT, Nat.reduceBEq, Nat.reduceLeDiff, Nat.reduceAdd, Nat.reduceMul, Nat.reduceSub, Nat.reduceEqDiff, Int.reduceNeg, Int.reduceToNat, Int.reduceAdd, Int.reduceSub]
  · have e : i = l.length := by simp at h; omega
    subst e
    have e2 : List.take l.length (l.map Rec.act) = l.map Rec.act := List.take_of_length_le (by simp)
    rw [e2]
    refine cw_freeze 17 rfl (actRow_pure _) ?_
    simp only [go_sem, Nat.reduceLT, Nat.reduceBEq, Nat.reduceLeDiff, Nat.reduceAdd, Nat.reduceMul, Nat.reduceSub, Nat.reduceEqDiff, Int.reduceNeg, Int.reduceToNat, Int.reduceAdd, Int.reduceSub]
    refine cw_go tabOK 99 (by simp only [go_sem, Nat.reduceLT, Nat.reduceBEq, Nat.reduceLeDiff, Nat.reduceAdd, Nat.reduceMul, Nat.reduceSub, Nat.reduceEqDiff, Int.reduceNeg, Int.reduceToNat, Int.reduceAdd, Int.reduceSub]; try exact rfl) (by simp [go_sem]) ?_
    refine cw_ret ⟨_, _, (by simp only [go_sem, Nat.reduceLT, Nat.reduceBEq, Nat.reduceLeDiff, Nat.reduceAdd, Nat.reduceMul, Nat.reduceSub, Nat.reduceEqDiff, Int.reduceNeg, Int.reduceToNat, Int.reduceAdd, Int.reduceSub]; try exact rfl), by simp [go_sem], _, .inr (.inl rfl), ?_⟩
    simp
end La
