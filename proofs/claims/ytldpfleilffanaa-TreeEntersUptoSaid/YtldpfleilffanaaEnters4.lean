/- The law TreeEnters is true of the program: its statement TreeEntersUptoSaid, in this seat's Rows. No condition. -/
import Derived.Lib.SlBytesConst
import Derived.ChangeArms
import Derived.Test.YtldpfleilffanaaEnters3
namespace La
open Go Go.Eng Go.Proofs
set_option maxRecDepth 10000
set_option linter.unusedSimpArgs false
set_option linter.unusedVariables false

theorem bytesEqual_ok (a b : List UInt8) : FnOK Try.prog 133 [.sl (a.map byteRow), .sl (b.map byteRow)] [] (fun r _ => r = .bool (a == b)) := by
  refine fn_of_cwW tabOK (Go.Proofs.Try.func133) rfl (fun C => ?_)
  simp only [Go.Proofs.Try.ntmps133, Go.Proofs.Try.results133, go_sem, Nat.reduceLT, Nat.reduceBEq, Nat.reduceLeDiff, Nat.reduceAdd, Nat.reduceMul, Nat.reduceSub, Nat.reduceEqDiff, Int.reduceNeg, Int.reduceToNat, Int.reduceAdd, Int.reduceSub]
  refine cw_go tabOK 99 (by simp only [go_sem, Nat.reduceLT, Nat.reduceBEq, Nat.reduceLeDiff, Nat.reduceAdd, Nat.reduceMul, Nat.reduceSub, Nat.reduceEqDiff, Int.reduceNeg, Int.reduceToNat, Int.reduceAdd, Int.reduceSub]; try exact rfl) ?_ ?_
  · simp
  refine cw_ret ⟨_, _, (by simp only [go_sem, Nat.reduceLT, Nat.reduceBEq, Nat.reduceLeDiff, Nat.reduceAdd, Nat.reduceMul, Nat.reduceSub, Nat.reduceEqDiff, Int.reduceNeg, Int.reduceToNat, Int.reduceAdd, Int.reduceSub]; try exact rfl), by simp [go_sem], _, .inr (.inl rfl), ?_⟩
  simp

/-- two lists that are alike as far as one looked -/
theorem take_same {α : Type} [Inhabited α] [DecidableEq α] {a b : List α} {i : Nat} (h : a.take i = b.take i) (ha : i < a.length) (hb : i < b.length) (e : a.getD i default = b.getD i default) : a.take (i + 1) = b.take (i + 1) := by
  rw [take_succ_getD ha, take_succ_getD hb, h, e]
theorem take_diff {α : Type} [Inhabited α] {a b : List α} {i : Nat} (e : ¬ a.getD i default = b.getD i default) : a ≠ b := by rintro rfl; exact e rfl

set_option maxHeartbeats 1000000 in
theorem entriesEqual_ok (a b : List Entry) (ha : a.length ≤ 100000000) (hb : b.length ≤ 100000000) : FnOK Try.prog 134 [.sl (a.map entryRow), .sl (b.map entryRow)] [] (fun r _ => r = .bool (decide (a = b))) := by
  refine fn_of_cwW tabOK (Go.Proofs.Try.func134) rfl (fun C => ?_)
  simp only [Go.Proofs.Try.ntmps134, Go.Proofs.Try.results134, go_sem, Nat.reduceLT, Nat.reduceBEq, Nat.reduceLeDiff, Nat.reduceAdd, Nat.reduceMul, Nat.reduceSub, Nat.reduceEqDiff, Int.reduceNeg, Int.reduceToNat, Int.reduceAdd, Int.reduceSub]
  refine cw_go tabOK 99 (by simp only [go_sem, Nat.reduceLT, Nat.reduceBEq, Nat.reduceLeDiff, Nat.reduceAdd, Nat.reduceMul, Nat.reduceSub, Nat.reduceEqDiff, Int.reduceNeg, Int.reduceToNat, Int.reduceAdd, Int.reduceSub]; try exact rfl) (by simp [go_sem]) ?_
  refine cw_cond (by simp only [go_sem, Nat.reduceLT, Nat.reduceBEq, Nat.reduceLeDiff, Nat.reduceAdd, Nat.reduceMul, Nat.reduceSub, Nat.reduceEqDiff, Int.reduceNeg, Int.reduceToNat, Int.reduceAdd, Int.reduceSub]; try exact rfl) trivial (fun h => ?_) (fun h => ?_)
  · have hne : a ≠ b := by rintro rfl; simp at h
    refine cw_go tabOK 99 (by simp only [go_sem, Nat.reduceLT, Nat.reduceBEq, Nat.reduceLeDiff, Nat.reduceAdd, Nat.reduceMul, Nat.reduceSub, Nat.reduceEqDiff, Int.reduceNeg, Int.reduceToNat, Int.reduceAdd, Int.reduceSub]; try exact rfl) (by simp [go_sem]) ?_
    refine cw_ret ⟨_, _, (by simp only [go_sem, Nat.reduceLT, Nat.reduceBEq, Nat.reduceLeDiff, Nat.reduceAdd, Nat.reduceMul, Nat.reduceSub, Nat.reduceEqDiff, Int.reduceNeg, Int.reduceToNat, Int.reduceAdd, Int.reduceSub]; try exact rfl), by simp [go_sem], _, .inr (.inl rfl), ?_⟩
    simp [hne]
  have hl : a.length = b.length := by simp at h; omega
  refine cw_go tabOK 99 (by simp only [go_sem, Nat.reduceLT, Nat.reduceBEq, Nat.reduceLeDiff, Nat.reduceAdd, Nat.reduceMul, Nat.reduceSub, Nat.reduceEqDiff, Int.reduceNeg, Int.reduceToNat, Int.reduceAdd, Int.reduceSub]; try exact rfl) (by simp [go_sem]) ?_
  refine cw_loopS (fun i : Nat => i ≤ a.length ∧ a.take i = b.take i) (fun i => a.length - i) (fun i => [(5, .any), (13, .int .i64 i), (14, .any), (15, .any), (16, .any), (17, .any), (18, .any), (19, .any), (20, .any), (21, .any), (22, .any), (23, .any), (24, .any), (25, .any)]) (fun _ => []) 0 ⟨by omega, by simp⟩ ?_ fun i hi => ?_
  · simp only [go_sem, Nat.reduceLT, Nat.reduceBEq, Nat.reduceLeDiff, Nat.reduceAdd, Nat.reduceMul, Nat.reduceSub, Nat.reduceEqDiff, Int.reduceNeg, Int.reduceToNat, Int.reduceAdd, Int.reduceSub]
    exact le_sub (by simp [go_sem]) (by simp [go_sem]) (by simp [go_sem])
  obtain ⟨hi, hs⟩ := hi
  simp only [go_sem, Nat.reduceLT, Nat.reduceBEq, Nat.reduceLeDiff, Nat.reduceAdd, Nat.reduceMul, Nat.reduceSub, Nat.reduceEqDiff, Int.reduceNeg, Int.reduceToNat, Int.reduceAdd, Int.reduceSub]
  refine cw_go tabOK 99 (by simp only [go_sem, Nat.reduceLT, Nat.reduceBEq, Nat.reduceLeDiff, Nat.reduceAdd, Nat.reduceMul, Nat.reduceSub, Nat.reduceEqDiff, Int.reduceNeg, Int.reduceToNat, Int.reduceAdd, Int.reduceSub]; try exact rfl) (by simp [go_sem]) ?_
  refine cw_cond (by simp only [go_sem, Nat.reduceLT, Nat.reduceBEq, Nat.reduceLeDiff, Nat.reduceAdd, Nat.reduceMul, Nat.reduceSub, Nat.reduceEqDiff, Int.reduceNeg, Int.reduceToNat, Int.reduceAdd, Int.reduceSub]; try exact rfl) trivial (fun h => ?_) (fun h => ?_)
  · have hlt : i < a.length := by simp at h; omega
    have hltb : i < b.length := by omega
    have hga : (a.map entryRow).getD i [] = entryRow (a.getD i default) := Fam.getD hlt
    have hgb : (b.map entryRow).getD i [] = entryRow (b.getD i default) := Fam.getD hltb
    have htk := take_same hs hlt hltb
    have htd := take_diff (a := a) (b := b) (i := i)
    generalize a.getD i default = x at hga htk htd
    generalize b.getD i default = y at hgb htk htd
    refine cw_go tabOK 99 (by simp only [go_sem, Nat.reduceLT, Nat.reduceBEq, Nat.reduceLeDiff, Nat.reduceAdd, Nat.reduceMul, Nat.reduceSub, Nat.reduceEqDiff, Int.reduceNeg, Int.reduceToNat, Int.reduceAdd, Int.reduceSub]; try exact rfl) (by simp [go_sem]) ?_
    refine cw_draw mixed ?_
    refine seg_start rfl ?_
    refine seg_runN tabOK 8 (by simp only [go_sem, Nat.reduceLT, Nat.reduceBEq, Nat.reduceLeDiff, Nat.reduceAdd, Nat.reduceMul, Nat.reduceSub, Nat.reduceEqDiff, Int.reduceNeg, Int.reduceToNat, Int.reduceAdd, Int.reduceSub]; exact rfl) (by simp only [go_sem, Nat.reduceLT, Nat.reduceBEq, Nat.reduceLeDiff, Nat.reduceAdd, Nat.reduceMul, Nat.reduceSub, Nat.reduceEqDiff, Int.reduceNeg, Int.reduceToNat, Int.reduceAdd, Int.reduceSub]; exact rfl) (by simp only [go_sem, Nat.reduceLT, Nat.reduceBEq, Nat.reduceLeDiff, Nat.reduceAdd, Nat.reduceMul, Nat.reduceSub, Nat.reduceEqDiff, Int.reduceNeg, Int.reduceToNat, Int.reduceAdd, Int.reduceSub, hga, hgb, entryRow]; try exact rfl) ?_ (by simp only [go_sem, Nat.reduceLT, Nat.reduceBEq, Nat.reduceLeDiff, Nat.reduceAdd, Nat.reduceMul, Nat.reduceSub, Nat.reduceEqDiff, Int.reduceNeg, Int.reduceToNat, Int.reduceAdd, Int.reduceSub]; exact rfl) ?_
    · simp [hga, hgb, entryRow, hlt, hltb]
    refine seg_end (by kernel_rfl) (by simp only [go_sem, Nat.reduceLT, Nat.reduceBEq, Nat.reduceLeDiff, Nat.reduceAdd, Nat.reduceMul, Nat.reduceSub, Nat.reduceEqDiff, Int.reduceNeg, Int.reduceToNat, Int.reduceAdd, Int.reduceSub]; exact rfl) ?_
    refine draw_trip rfl (by kernel_rfl) rfl (trip_eqS tabOK rfl (tys := [9, 3]) (by kernel_rfl) (by simp only [go_sem, Nat.reduceLT, Nat.reduceBEq, Nat.reduceLeDiff, Nat.reduceAdd, Nat.reduceMul, Nat.reduceSub, Nat.reduceEqDiff, Int.reduceNeg, Int.reduceToNat, Int.reduceAdd, Int.reduceSub]; try exact rfl) (by simp only [go_sem, Nat.reduceLT, Nat.reduceBEq, Nat.reduceLeDiff, Nat.reduceAdd, Nat.reduceMul, Nat.reduceSub, Nat.reduceEqDiff, Int.reduceNeg, Int.reduceToNat, Int.reduceAdd, Int.reduceSub]; try exact rfl) (by simp only [go_sem, Nat.reduceLT, Nat.reduceBEq, Nat.reduceLeDiff, Nat.reduceAdd, Nat.reduceMul, Nat.reduceSub, Nat.reduceEqDiff, Int.reduceNeg, Int.reduceToNat, Int.reduceAdd, Int.reduceSub]; exact rfl) (by first | exact .inl ⟨rfl, rfl⟩ | exact .inr ⟨rfl, rfl⟩)) rfl ?_
    refine draw_close (by kernel_rfl) ?_
    have hxy : (x.name == y.name && x.fid == y.fid) = decide (x = y) := by
      obtain ⟨n1, f1⟩ := x
      obtain ⟨n2, f2⟩ := y
      by_cases h1 : n1 = n2 <;> by_cases h2 : f1 = f2 <;> simp [h1, h2]
    simp only [go_sem, Nat.reduceLT, Nat.reduceBEq, Nat.reduceLeDiff, Nat.reduceAdd, Nat.reduceMul, Nat.reduceSub, Nat.reduceEqDiff, Int.reduceNeg, Int.reduceToNat, Int.reduceAdd, Int.reduceSub, Bool.and_true, hxy]
    refine cw_go tabOK 99 (by simp only [go_sem, Nat.reduceLT, Nat.reduceBEq, Nat.reduceLeDiff, Nat.reduceAdd, Nat.reduceMul, Nat.reduceSub, Nat.reduceEqDiff, Int.reduceNeg, Int.reduceToNat, Int.reduceAdd, Int.reduceSub]; try exact rfl) (by simp [go_sem]) ?_
    refine cw_cond (by simp only [go_sem, Nat.reduceLT, Nat.reduceBEq, Nat.reduceLeDiff, Nat.reduceAdd, Nat.reduceMul, Nat.reduceSub, Nat.reduceEqDiff, Int.reduceNeg, Int.reduceToNat, Int.reduceAdd, Int.reduceSub]; try exact rfl) trivial (fun h => ?_) (fun h => ?_)
    · have hne : x ≠ y := by simpa using h
      have := htd hne
      refine cw_go tabOK 99 (by simp only [go_sem, Nat.reduceLT, Nat.reduceBEq, Nat.reduceLeDiff, Nat.reduceAdd, Nat.reduceMul, Nat.reduceSub, Nat.reduceEqDiff, Int.reduceNeg, Int.reduceToNat, Int.reduceAdd, Int.reduceSub]; try exact rfl) (by simp [go_sem]) ?_
      refine cw_ret ⟨_, _, (by simp only [go_sem, Nat.reduceLT, Nat.reduceBEq, Nat.reduceLeDiff, Nat.reduceAdd, Nat.reduceMul, Nat.reduceSub, Nat.reduceEqDiff, Int.reduceNeg, Int.reduceToNat, Int.reduceAdd, Int.reduceSub]; try exact rfl), by simp [go_sem], _, .inr (.inl rfl), ?_⟩
      simp [this]
    · have heq : x = y := by simpa using h
      have hw : IntKind.i64.wrap ((i : Int) + 1) = ((i + 1 : Nat) : Int) := by rw [Eng.wrap_small (by omega) (by omega)]; rfl
      refine cw_go tabOK 99 (by simp only [go_sem, Nat.reduceLT, Nat.reduceBEq, Nat.reduceLeDiff, Nat.reduceAdd, Nat.reduceMul, Nat.reduceSub, Nat.reduceEqDiff, Int.reduceNeg, Int.reduceToNat, Int.reduceAdd, Int.reduceSub, hw]; try exact rfl) (by simp [go_sem, hw]) ?_
      refine cw_back ⟨i + 1, ⟨by omega, htk heq⟩, by omega, le_sub ?_ ?_ ?_⟩
      · simp [go_sem]; exact hw
      · simp [go_sem]
      · simp [go_sem]
  · have e : i = a.length := by simp at h; omega
    have hab : a = b := by
      rw [e, List.take_length, hl, List.take_length] at hs; exact hs
    refine cw_go tabOK 99 (by simp only [go_sem, Nat.reduceLT, Nat.reduceBEq, Nat.reduceLeDiff, Nat.reduceAdd, Nat.reduceMul, Nat.reduceSub, Nat.reduceEqDiff, Int.reduceNeg, Int.reduceToNat, Int.reduceAdd, Int.reduceSub]; try exact rfl) (by simp [go_sem]) ?_
    refine cw_ret ⟨_, _, (by simp only [go_sem, Nat.reduceLT, Nat.reduceBEq, Nat.reduceLeDiff, Nat.reduceAdd, Nat.reduceMul, Nat.reduceSub, Nat.reduceEqDiff, Int.reduceNeg, Int.reduceToNat, Int.reduceAdd, Int.reduceSub]; try exact rfl), by simp [go_sem], _, .inr (.inl rfl), ?_⟩
    simp [hab]

def sameN (v : Bool) (a b : Node) : Bool := a.fid == b.fid && a.dir == b.dir && a.data == b.data && decide (a.entries = b.entries) && (!v || a.version == b.version)

set_option maxHeartbeats 1000000 in
theorem sameNode_ok (a b : Node) (v : Bool) (ha : a.Small) (hb : b.Small) : FnOK Try.prog 34 [.agg (nodeRow a), .agg (nodeRow b), .bool v] [] (fun r _ => r = .bool (sameN v a b)) := by
  have hla := ha.entries
  have hlb := hb.entries
  unfold nodeRow
  refine fn_of_cwW tabOK (Go.Proofs.Try.func34) rfl (fun C => ?_)
  simp only [Go.Proofs.Try.ntmps34, Go.Proofs.Try.results34, go_sem, Nat.reduceLT, Nat.reduceBEq, Nat.reduceLeDiff, Nat.reduceAdd, Nat.reduceMul, Nat.reduceSub, Nat.reduceEqDiff, Int.reduceNeg, Int.reduceToNat, Int.reduceAdd, Int.reduceSub]
  refine cw_goR 99 (by simp only [go_sem, Nat.reduceLT, Nat.reduceBEq, Nat.reduceLeDiff, Nat.reduceAdd, Nat.reduceMul, Nat.reduceSub, Nat.reduceEqDiff, Int.reduceNeg, Int.reduceToNat, Int.reduceAdd, Int.reduceSub]; try exact rfl) ?_
  refine cw_runN tabOK 3 (by simp only [go_sem, Nat.reduceLT, Nat.reduceBEq, Nat.reduceLeDiff, Nat.reduceAdd, Nat.reduceMul, Nat.reduceSub, Nat.reduceEqDiff, Int.reduceNeg, Int.reduceToNat, Int.reduceAdd, Int.reduceSub]; exact rfl) (by simp only [go_sem, Nat.reduceLT, Nat.reduceBEq, Nat.reduceLeDiff, Nat.reduceAdd, Nat.reduceMul, Nat.reduceSub, Nat.reduceEqDiff, Int.reduceNeg, Int.reduceToNat, Int.reduceAdd, Int.reduceSub]; exact rfl) (by simp only [go_sem, Nat.reduceLT, Nat.reduceBEq, Nat.reduceLeDiff, Nat.reduceAdd, Nat.reduceMul, Nat.reduceSub, Nat.reduceEqDiff, Int.reduceNeg, Int.reduceToNat, Int.reduceAdd, Int.reduceSub]; try exact rfl) (by simp [go_sem]) ?_
  refine cw_goR 99 (by simp only [go_sem, Nat.reduceLT, Nat.reduceBEq, Nat.reduceLeDiff, Nat.reduceAdd, Nat.reduceMul, Nat.reduceSub, Nat.reduceEqDiff, Int.reduceNeg, Int.reduceToNat, Int.reduceAdd, Int.reduceSub]; try exact rfl) ?_
  refine cw_freeze 3 rfl (rfl) ?_
  refine cw_freeze 4 rfl (rfl) ?_
  simp only [go_sem, Nat.reduceLT, Nat.reduceBEq, Nat.reduceLeDiff, Nat.reduceAdd, Nat.reduceMul, Nat.reduceSub, Nat.reduceEqDiff, Int.reduceNeg, Int.reduceToNat, Int.reduceAdd, Int.reduceSub]
  refine cw_runN tabOK 5 (by simp only [go_sem, Nat.reduceLT, Nat.reduceBEq, Nat.reduceLeDiff, Nat.reduceAdd, Nat.reduceMul, Nat.reduceSub, Nat.reduceEqDiff, Int.reduceNeg, Int.reduceToNat, Int.reduceAdd, Int.reduceSub]; exact rfl) (by simp only [go_sem, Nat.reduceLT, Nat.reduceBEq, Nat.reduceLeDiff, Nat.reduceAdd, Nat.reduceMul, Nat.reduceSub, Nat.reduceEqDiff, Int.reduceNeg, Int.reduceToNat, Int.reduceAdd, Int.reduceSub]; exact rfl) (by simp only [go_sem, Nat.reduceLT, Nat.reduceBEq, Nat.reduceLeDiff, Nat.reduceAdd, Nat.reduceMul, Nat.reduceSub, Nat.reduceEqDiff, Int.reduceNeg, Int.reduceToNat, Int.reduceAdd, Int.reduceSub]; try exact rfl) (by simp [go_sem]) ?_
  refine cw_name 12 (by simp only [go_sem, Nat.reduceLT, Nat.reduceBEq, Nat.reduceLeDiff, Nat.reduceAdd, Nat.reduceMul, Nat.reduceSub, Nat.reduceEqDiff, Int.reduceNeg, Int.reduceToNat, Int.reduceAdd, Int.reduceSub]; exact rfl) (fun c12 h12 => ?_)
  simp only [go_sem, Nat.reduceLT, Nat.reduceBEq, Nat.reduceLeDiff, Nat.reduceAdd, Nat.reduceMul, Nat.reduceSub, Nat.reduceEqDiff, Int.reduceNeg, Int.reduceToNat, Int.reduceAdd, Int.reduceSub]
  refine cw_runN tabOK 7 (by simp only [go_sem, Nat.reduceLT, Nat.reduceBEq, Nat.reduceLeDiff, Nat.reduceAdd, Nat.reduceMul, Nat.reduceSub, Nat.reduceEqDiff, Int.reduceNeg, Int.reduceToNat, Int.reduceAdd, Int.reduceSub]; exact rfl) (by simp only [go_sem, Nat.reduceLT, Nat.reduceBEq, Nat.reduceLeDiff, Nat.reduceAdd, Nat.reduceMul, Nat.reduceSub, Nat.reduceEqDiff, Int.reduceNeg, Int.reduceToNat, Int.reduceAdd, Int.reduceSub]; exact rfl) (by simp only [go_sem, Nat.reduceLT, Nat.reduceBEq, Nat.reduceLeDiff, Nat.reduceAdd, Nat.reduceMul, Nat.reduceSub, Nat.reduceEqDiff, Int.reduceNeg, Int.reduceToNat, Int.reduceAdd, Int.reduceSub]; try exact rfl) (by simp [go_sem]) ?_
  refine cw_name 19 (by simp only [go_sem, Nat.reduceLT, Nat.reduceBEq, Nat.reduceLeDiff, Nat.reduceAdd, Nat.reduceMul, Nat.reduceSub, Nat.reduceEqDiff, Int.reduceNeg, Int.reduceToNat, Int.reduceAdd, Int.reduceSub]; exact rfl) (fun c19 h19 => ?_)
  simp only [go_sem, Nat.reduceLT, Nat.reduceBEq, Nat.reduceLeDiff, Nat.reduceAdd, Nat.reduceMul, Nat.reduceSub, Nat.reduceEqDiff, Int.reduceNeg, Int.reduceToNat, Int.reduceAdd, Int.reduceSub]
  refine cw_runN tabOK 9 (by simp only [go_sem, Nat.reduceLT, Nat.reduceBEq, Nat.reduceLeDiff, Nat.reduceAdd, Nat.reduceMul, Nat.reduceSub, Nat.reduceEqDiff, Int.reduceNeg, Int.reduceToNat, Int.reduceAdd, Int.reduceSub]; exact rfl) (by simp only [go_sem, Nat.reduceLT, Nat.reduceBEq, Nat.reduceLeDiff, Nat.reduceAdd, Nat.reduceMul, Nat.reduceSub, Nat.reduceEqDiff, Int.reduceNeg, Int.reduceToNat, Int.reduceAdd, Int.reduceSub]; exact rfl) (by simp only [go_sem, Nat.reduceLT, Nat.reduceBEq, Nat.reduceLeDiff, Nat.reduceAdd, Nat.reduceMul, Nat.reduceSub, Nat.reduceEqDiff, Int.reduceNeg, Int.reduceToNat, Int.reduceAdd, Int.reduceSub]; try exact rfl) (by simp [go_sem]) ?_
  refine cw_name 28 (by simp only [go_sem, Nat.reduceLT, Nat.reduceBEq, Nat.reduceLeDiff, Nat.reduceAdd, Nat.reduceMul, Nat.reduceSub, Nat.reduceEqDiff, Int.reduceNeg, Int.reduceToNat, Int.reduceAdd, Int.reduceSub]; exact rfl) (fun c28 h28 => ?_)
  simp only [go_sem, Nat.reduceLT, Nat.reduceBEq, Nat.reduceLeDiff, Nat.reduceAdd, Nat.reduceMul, Nat.reduceSub, Nat.reduceEqDiff, Int.reduceNeg, Int.reduceToNat, Int.reduceAdd, Int.reduceSub]
  refine cw_runN tabOK 9 (by simp only [go_sem, Nat.reduceLT, Nat.reduceBEq, Nat.reduceLeDiff, Nat.reduceAdd, Nat.reduceMul, Nat.reduceSub, Nat.reduceEqDiff, Int.reduceNeg, Int.reduceToNat, Int.reduceAdd, Int.reduceSub]; exact rfl) (by simp only [go_sem, Nat.reduceLT, Nat.reduceBEq, Nat.reduceLeDiff, Nat.reduceAdd, Nat.reduceMul, Nat.reduceSub, Nat.reduceEqDiff, Int.reduceNeg, Int.reduceToNat, Int.reduceAdd, Int.reduceSub]; exact rfl) (by simp only [go_sem, Nat.reduceLT, Nat.reduceBEq, Nat.reduceLeDiff, Nat.reduceAdd, Nat.reduceMul, Nat.reduceSub, Nat.reduceEqDiff, Int.reduceNeg, Int.reduceToNat, Int.reduceAdd, Int.reduceSub]; try exact rfl) (by simp [go_sem]) ?_
  refine cw_name 37 (by simp only [go_sem, Nat.reduceLT, Nat.reduceBEq, Nat.reduceLeDiff, Nat.reduceAdd, Nat.reduceMul, Nat.reduceSub, Nat.reduceEqDiff, Int.reduceNeg, Int.reduceToNat, Int.reduceAdd, Int.reduceSub]; exact rfl) (fun c37 h37 => ?_)
  simp only [go_sem, Nat.reduceLT, Nat.reduceBEq, Nat.reduceLeDiff, Nat.reduceAdd, Nat.reduceMul, Nat.reduceSub, Nat.reduceEqDiff, Int.reduceNeg, Int.reduceToNat, Int.reduceAdd, Int.reduceSub]
  refine cw_runN tabOK 10 (by simp only [go_sem, Nat.reduceLT, Nat.reduceBEq, Nat.reduceLeDiff, Nat.reduceAdd, Nat.reduceMul, Nat.reduceSub, Nat.reduceEqDiff, Int.reduceNeg, Int.reduceToNat, Int.reduceAdd, Int.reduceSub]; exact rfl) (by simp only [go_sem, Nat.reduceLT, Nat.reduceBEq, Nat.reduceLeDiff, Nat.reduceAdd, Nat.reduceMul, Nat.reduceSub, Nat.reduceEqDiff, Int.reduceNeg, Int.reduceToNat, Int.reduceAdd, Int.reduceSub]; exact rfl) (by simp only [go_sem, Nat.reduceLT, Nat.reduceBEq, Nat.reduceLeDiff, Nat.reduceAdd, Nat.reduceMul, Nat.reduceSub, Nat.reduceEqDiff, Int.reduceNeg, Int.reduceToNat, Int.reduceAdd, Int.reduceSub]; try exact rfl) ?_ ?_
  · cases c37 <;> cases v <;> simp
  refine cw_name 47 (by simp only [go_sem, Nat.reduceLT, Nat.reduceBEq, Nat.reduceLeDiff, Nat.reduceAdd, Nat.reduceMul, Nat.reduceSub, Nat.reduceEqDiff, Int.reduceNeg, Int.reduceToNat, Int.reduceAdd, Int.reduceSub]; exact rfl) (fun c47 h47 => ?_)
  simp only [go_sem, Nat.reduceLT, Nat.reduceBEq, Nat.reduceLeDiff, Nat.reduceAdd, Nat.reduceMul, Nat.reduceSub, Nat.reduceEqDiff, Int.reduceNeg, Int.reduceToNat, Int.reduceAdd, Int.reduceSub]
  have hdiff : c47 = !(a.fid == b.fid && a.dir == b.dir && a.data == b.data && (a.entries.length == b.entries.length) && (!v || a.version == b.version)) := by
    subst h47 h37 h28 h19 h12
    have e : ((a.entries.length : Int) != (b.entries.length : Int)) = !(a.entries.length == b.entries.length) := by
      rw [Bool.eq_iff_iff]; simp; omega
    rw [e]
    simp only [bne]
    cases (a.fid == b.fid) <;> cases (a.dir == b.dir) <;> cases (a.data == b.data) <;> cases (a.entries.length == b.entries.length) <;> cases v <;> cases (a.version == b.version) <;> rfl
  refine cw_cond (by simp only [go_sem, Nat.reduceLT, Nat.reduceBEq, Nat.reduceLeDiff, Nat.reduceAdd, Nat.reduceMul, Nat.reduceSub, Nat.reduceEqDiff, Int.reduceNeg, Int.reduceToNat, Int.reduceAdd, Int.reduceSub]; try exact rfl) trivial (fun h => ?_) (fun h => ?_)
  · rw [hdiff] at h
    refine cw_go tabOK 99 (by simp only [go_sem, Nat.reduceLT, Nat.reduceBEq, Nat.reduceLeDiff, Nat.reduceAdd, Nat.reduceMul, Nat.reduceSub, Nat.reduceEqDiff, Int.reduceNeg, Int.reduceToNat, Int.reduceAdd, Int.reduceSub]; try exact rfl) (by simp [go_sem]) ?_
    refine cw_ret ⟨_, _, (by simp only [go_sem, Nat.reduceLT, Nat.reduceBEq, Nat.reduceLeDiff, Nat.reduceAdd, Nat.reduceMul, Nat.reduceSub, Nat.reduceEqDiff, Int.reduceNeg, Int.reduceToNat, Int.reduceAdd, Int.reduceSub]; try exact rfl), by simp [go_sem], _, .inr (.inl rfl), ?_⟩
    have : sameN v a b = false := by
      unfold sameN
      have hn : decide (a.entries = b.entries) = true → (a.entries.length == b.entries.length) = true := fun h => by
        rw [of_decide_eq_true h]; simp
      revert h hn
      cases (a.fid == b.fid) <;> cases (a.dir == b.dir) <;> cases (a.data == b.data) <;> cases (a.entries.length == b.entries.length) <;> cases v <;> cases (a.version == b.version) <;> cases decide (a.entries = b.entries) <;> simp
    rw [this]
  rw [hdiff] at h
  have hl : a.entries.length = b.entries.length := by
    revert h
    cases e : (a.entries.length == b.entries.length)
    · simp
    · intro _; simpa using e
  have hsn : sameN v a b = decide (a.entries = b.entries) := by
    unfold sameN
    revert h
    cases (a.fid == b.fid) <;> cases (a.dir == b.dir) <;> cases (a.data == b.data) <;> cases (a.entries.length == b.entries.length) <;> cases v <;> cases (a.version == b.version) <;> simp
  rw [hsn]
  clear h12 h19 h28 h37 h47
  refine cw_go tabOK 99 (by simp only [go_sem, Nat.reduceLT, Nat.reduceBEq, Nat.reduceLeDiff, Nat.reduceAdd, Nat.reduceMul, Nat.reduceSub, Nat.reduceEqDiff, Int.reduceNeg, Int.reduceToNat, Int.reduceAdd, Int.reduceSub]; try exact rfl) (by simp [go_sem]) ?_
  refine cw_loopS (fun i : Nat => i ≤ a.entries.length ∧ a.entries.take i = b.entries.take i) (fun i => a.entries.length - i) (fun i => [(7, .any), (51, .int .i64 i), (52, .any), (53, .any), (54, .any), (55, .any), (56, .any), (57, .any), (58, .any), (59, .any), (60, .any), (61, .any), (62, .any), (63, .any), (64, .any), (65, .any)]) (fun _ => []) 0 ⟨by omega, by simp⟩ ?_ fun i hi => ?_
  · simp only [go_sem, Nat.reduceLT, Nat.reduceBEq, Nat.reduceLeDiff, Nat.reduceAdd, Nat.reduceMul, Nat.reduceSub, Nat.reduceEqDiff, Int.reduceNeg, Int.reduceToNat, Int.reduceAdd, Int.reduceSub]
    exact le_sub (by simp [go_sem]) (by simp [go_sem]) (by simp [go_sem])
  obtain ⟨hi, hs⟩ := hi
  simp only [go_sem, Nat.reduceLT, Nat.reduceBEq, Nat.reduceLeDiff, Nat.reduceAdd, Nat.reduceMul, Nat.reduceSub, Nat.reduceEqDiff, Int.reduceNeg, Int.reduceToNat, Int.reduceAdd, Int.reduceSub]
  refine cw_go tabOK 99 (by simp only [go_sem, Nat.reduceLT, Nat.reduceBEq, Nat.reduceLeDiff, Nat.reduceAdd, Nat.reduceMul, Nat.reduceSub, Nat.reduceEqDiff, Int.reduceNeg, Int.reduceToNat, Int.reduceAdd, Int.reduceSub]; try exact rfl) (by simp [go_sem]) ?_
  refine cw_cond (by simp only [go_sem, Nat.reduceLT, Nat.reduceBEq, Nat.reduceLeDiff, Nat.reduceAdd, Nat.reduceMul, Nat.reduceSub, Nat.reduceEqDiff, Int.reduceNeg, Int.reduceToNat, Int.reduceAdd, Int.reduceSub]; try exact rfl) trivial (fun h => ?_) (fun h => ?_)
  · have hlt : i < a.entries.length := by simp at h; omega
    have hltb : i < b.entries.length := by omega
    have hga : (a.entries.map entryRow).getD i [] = entryRow (a.entries.getD i default) := Fam.getD hlt
    have hgb : (b.entries.map entryRow).getD i [] = entryRow (b.entries.getD i default) := Fam.getD hltb
    have htk := take_same hs hlt hltb
    have htd := take_diff (a := a.entries) (b := b.entries) (i := i)
    generalize a.entries.getD i default = x at hga htk htd
    generalize b.entries.getD i default = y at hgb htk htd
    refine cw_go tabOK 99 (by simp only [go_sem, Nat.reduceLT, Nat.reduceBEq, Nat.reduceLeDiff, Nat.reduceAdd, Nat.reduceMul, Nat.reduceSub, Nat.reduceEqDiff, Int.reduceNeg, Int.reduceToNat, Int.reduceAdd, Int.reduceSub]; try exact rfl) (by simp [go_sem]) ?_
    refine cw_draw mixed ?_
    refine seg_start rfl ?_
    refine seg_runN tabOK 10 (by simp only [go_sem, Nat.reduceLT, Nat.reduceBEq, Nat.reduceLeDiff, Nat.reduceAdd, Nat.reduceMul, Nat.reduceSub, Nat.reduceEqDiff, Int.reduceNeg, Int.reduceToNat, Int.reduceAdd, Int.reduceSub]; exact rfl) (by simp only [go_sem, Nat.reduceLT, Nat.reduceBEq, Nat.reduceLeDiff, Nat.reduceAdd, Nat.reduceMul, Nat.reduceSub, Nat.reduceEqDiff, Int.reduceNeg, Int.reduceToNat, Int.reduceAdd, Int.reduceSub]; exact rfl) (by simp only [go_sem, Nat.reduceLT, Nat.reduceBEq, Nat.reduceLeDiff, Nat.reduceAdd, Nat.reduceMul, Nat.reduceSub, Nat.reduceEqDiff, Int.reduceNeg, Int.reduceToNat, Int.reduceAdd, Int.reduceSub, hga, hgb, entryRow]; try exact rfl) ?_ (by simp only [go_sem, Nat.reduceLT, Nat.reduceBEq, Nat.reduceLeDiff, Nat.reduceAdd, Nat.reduceMul, Nat.reduceSub, Nat.reduceEqDiff, Int.reduceNeg, Int.reduceToNat, Int.reduceAdd, Int.reduceSub]; exact rfl) ?_
    · simp [hga, hgb, entryRow, hlt, hltb]
    refine seg_end (by kernel_rfl) (by simp only [go_sem, Nat.reduceLT, Nat.reduceBEq, Nat.reduceLeDiff, Nat.reduceAdd, Nat.reduceMul, Nat.reduceSub, Nat.reduceEqDiff, Int.reduceNeg, Int.reduceToNat, Int.reduceAdd, Int.reduceSub]; exact rfl) ?_
    refine draw_trip rfl (by kernel_rfl) rfl (trip_eqS tabOK rfl (tys := [9, 3]) (by kernel_rfl) (by simp only [go_sem, Nat.reduceLT, Nat.reduceBEq, Nat.reduceLeDiff, Nat.reduceAdd, Nat.reduceMul, Nat.reduceSub, Nat.reduceEqDiff, Int.reduceNeg, Int.reduceToNat, Int.reduceAdd, Int.reduceSub]; try exact rfl) (by simp only [go_sem, Nat.reduceLT, Nat.reduceBEq, Nat.reduceLeDiff, Nat.reduceAdd, Nat.reduceMul, Nat.reduceSub, Nat.reduceEqDiff, Int.reduceNeg, Int.reduceToNat, Int.reduceAdd, Int.reduceSub]; try exact rfl) (by simp only [go_sem, Nat.reduceLT, Nat.reduceBEq, Nat.reduceLeDiff, Nat.reduceAdd, Nat.reduceMul, Nat.reduceSub, Nat.reduceEqDiff, Int.reduceNeg, Int.reduceToNat, Int.reduceAdd, Int.reduceSub]; exact rfl) (by first | exact .inl ⟨rfl, rfl⟩ | exact .inr ⟨rfl, rfl⟩)) rfl ?_
    refine draw_close (by kernel_rfl) ?_
    have hxy : (x.name == y.name && x.fid == y.fid) = decide (x = y) := by
      obtain ⟨n1, f1⟩ := x
      obtain ⟨n2, f2⟩ := y
      by_cases h1 : n1 = n2 <;> by_cases h2 : f1 = f2 <;> simp [h1, h2]
    simp only [go_sem, Nat.reduceLT, Nat.reduceBEq, Nat.reduceLeDiff, Nat.reduceAdd, Nat.reduceMul, Nat.reduceSub, Nat.reduceEqDiff, Int.reduceNeg, Int.reduceToNat, Int.reduceAdd, Int.reduceSub, Bool.and_true, hxy]
    refine cw_go tabOK 99 (by simp only [go_sem, Nat.reduceLT, Nat.reduceBEq, Nat.reduceLeDiff, Nat.reduceAdd, Nat.reduceMul, Nat.reduceSub, Nat.reduceEqDiff, Int.reduceNeg, Int.reduceToNat, Int.reduceAdd, Int.reduceSub]; try exact rfl) (by simp [go_sem]) ?_
    refine cw_cond (by simp only [go_sem, Nat.reduceLT, Nat.reduceBEq, Nat.reduceLeDiff, Nat.reduceAdd, Nat.reduceMul, Nat.reduceSub, Nat.reduceEqDiff, Int.reduceNeg, Int.reduceToNat, Int.reduceAdd, Int.reduceSub]; try exact rfl) trivial (fun h => ?_) (fun h => ?_)
    · have hne : x ≠ y := by simpa using h
      have := htd hne
      refine cw_go tabOK 99 (by simp only [go_sem, Nat.reduceLT, Nat.reduceBEq, Nat.reduceLeDiff, Nat.reduceAdd, Nat.reduceMul, Nat.reduceSub, Nat.reduceEqDiff, Int.reduceNeg, Int.reduceToNat, Int.reduceAdd, Int.reduceSub]; try exact rfl) (by simp [go_sem]) ?_
      refine cw_ret ⟨_, _, (by simp only [go_sem, Nat.reduceLT, Nat.reduceBEq, Nat.reduceLeDiff, Nat.reduceAdd, Nat.reduceMul, Nat.reduceSub, Nat.reduceEqDiff, Int.reduceNeg, Int.reduceToNat, Int.reduceAdd, Int.reduceSub]; try exact rfl), by simp [go_sem], _, .inr (.inl rfl), ?_⟩
      simp [this]
    · have heq : x = y := by simpa using h
      have hw : IntKind.i64.wrap ((i : Int) + 1) = ((i + 1 : Nat) : Int) := by rw [Eng.wrap_small (by omega) (by omega)]; rfl
      refine cw_go tabOK 99 (by simp only [go_sem, Nat.reduceLT, Nat.reduceBEq, Nat.reduceLeDiff, Nat.reduceAdd, Nat.reduceMul, Nat.reduceSub, Nat.reduceEqDiff, Int.reduceNeg, Int.reduceToNat, Int.reduceAdd, Int.reduceSub, hw]; try exact rfl) (by simp [go_sem, hw]) ?_
      refine cw_back ⟨i + 1, ⟨by omega, htk heq⟩, by omega, le_sub ?_ ?_ ?_⟩
      · simp [go_sem]; exact hw
      · simp [go_sem]
      · simp [go_sem]
  · have e : i = a.entries.length := by simp at h; omega
    have hab : a.entries = b.entries := by
      rw [e, List.take_length, hl, List.take_length] at hs; exact hs
    refine cw_go tabOK 99 (by simp only [go_sem, Nat.reduceLT, Nat.reduceBEq, Nat.reduceLeDiff, Nat.reduceAdd, Nat.reduceMul, Nat.reduceSub, Nat.reduceEqDiff, Int.reduceNeg, Int.reduceToNat, Int.reduceAdd, Int.reduceSub]; try exact rfl) (by simp [go_sem]) ?_
    refine cw_ret ⟨_, _, (by simp only [go_sem, Nat.reduceLT, Nat.reduceBEq, Nat.reduceLeDiff, Nat.reduceAdd, Nat.reduceMul, Nat.reduceSub, Nat.reduceEqDiff, Int.reduceNeg, Int.reduceToNat, Int.reduceAdd, Int.reduceSub]; try exact rfl), by simp [go_sem], _, .inr (.inl rfl), ?_⟩
    simp [hab]
end La

namespace La
open Go Go.Eng Go.Proofs
set_option maxRecDepth 10000
set_option linter.unusedSimpArgs false
set_option linter.unusedVariables false

def sameT (v : Bool) : List Node → List Node → Bool
  | [], [] => true
  | x :: a, y :: b => sameN v x y && sameT v a b
  | _, _ => false

theorem sameT_iff (v : Bool) : ∀ (a b : List Node), sameT v a b = true ↔ a.length = b.length ∧ ∀ j, j < a.length → sameN v (a.getD j default) (b.getD j default) = true
  | [], [] => by simp [sameT]
  | [], _ :: _ => by simp [sameT]
  | _ :: _, [] => by simp [sameT]
  | x :: a, y :: b => by
    rw [sameT, Bool.and_eq_true, sameT_iff v a b]
    constructor
    · rintro ⟨h1, h2, h3⟩
      refine ⟨by simp [h2], fun j hj => ?_⟩
      cases j with
      | zero => simpa using h1
      | succ j => simpa using h3 j (by simpa using hj)
    · rintro ⟨h2, h3⟩
      refine ⟨by simpa using h3 0 (by simp), by simpa using h2, fun j hj => by simpa using h3 (j + 1) (by simpa using hj)⟩

theorem same_ok (a b : List Node) (v : Bool) (ha : Small a) (hb : Small b) : FnOK Try.prog 29 [.sl (a.map nodeRow), .sl (b.map nodeRow), .bool v] [] (fun r _ => r = .bool (sameT v a b)) := by
  have hla := ha.len
  have hlb := hb.len
  refine fn_of_cwW tabOK (Go.Proofs.Try.func29) rfl (fun C => ?_)
  simp only [Go.Proofs.Try.ntmps29, Go.Proofs.Try.results29, go_sem, Nat.reduceLT, Nat.reduceBEq, Nat.reduceLeDiff, Nat.reduceAdd, Nat.reduceMul, Nat.reduceSub, Nat.reduceEqDiff, Int.reduceNeg, Int.reduceToNat, Int.reduceAdd, Int.reduceSub]
  refine cw_go tabOK 99 (by simp only [go_sem, Nat.reduceLT, Nat.reduceBEq, Nat.reduceLeDiff, Nat.reduceAdd, Nat.reduceMul, Nat.reduceSub, Nat.reduceEqDiff, Int.reduceNeg, Int.reduceToNat, Int.reduceAdd, Int.reduceSub]; try exact rfl) (by simp [go_sem]) ?_
  refine cw_cond (by simp only [go_sem, Nat.reduceLT, Nat.reduceBEq, Nat.reduceLeDiff, Nat.reduceAdd, Nat.reduceMul, Nat.reduceSub, Nat.reduceEqDiff, Int.reduceNeg, Int.reduceToNat, Int.reduceAdd, Int.reduceSub]; try exact rfl) trivial (fun h => ?_) (fun h => ?_)
  · have hne : sameT v a b = false := by
      cases e : sameT v a b with
      | false => rfl
      | true => have := ((sameT_iff v a b).1 e).1; simp [this] at h
    refine cw_go tabOK 99 (by simp only [go_sem, Nat.reduceLT, Nat.reduceBEq, Nat.reduceLeDiff, Nat.reduceAdd, Nat.reduceMul, Nat.reduceSub, Nat.reduceEqDiff, Int.reduceNeg, Int.reduceToNat, Int.reduceAdd, Int.reduceSub]; try exact rfl) (by simp [go_sem]) ?_
    refine cw_ret ⟨_, _, (by simp only [go_sem, Nat.reduceLT, Nat.reduceBEq, Nat.reduceLeDiff, Nat.reduceAdd, Nat.reduceMul, Nat.reduceSub, Nat.reduceEqDiff, Int.reduceNeg, Int.reduceToNat, Int.reduceAdd, Int.reduceSub]; try exact rfl), by simp [go_sem], _, .inr (.inl rfl), ?_⟩
    simp [hne]
  have hl : a.length = b.length := by simp at h; omega
  refine cw_go tabOK 99 (by simp only [go_sem, Nat.reduceLT, Nat.reduceBEq, Nat.reduceLeDiff, Nat.reduceAdd, Nat.reduceMul, Nat.reduceSub, Nat.reduceEqDiff, Int.reduceNeg, Int.reduceToNat, Int.reduceAdd, Int.reduceSub]; try exact rfl) (by simp [go_sem]) ?_
  refine cw_loopS (fun i : Nat => i ≤ a.length ∧ ∀ j, j < i → sameN v (a.getD j default) (b.getD j default) = true) (fun i => a.length - i) (fun i => [(7, .any), (15, .int .i64 i), (16, .any), (17, .any), (18, .any), (19, .any), (20, .any), (21, .any), (22, .any), (23, .any), (24, .any), (25, .any), (26, .any), (27, .any), (28, .any), (29, .any)]) (fun _ => []) 0 ⟨by omega, by omega⟩ ?_ fun i hi => ?_
  · simp only [go_sem, Nat.reduceLT, Nat.reduceBEq, Nat.reduceLeDiff, Nat.reduceAdd, Nat.reduceMul, Nat.reduceSub, Nat.reduceEqDiff, Int.reduceNeg, Int.reduceToNat, Int.reduceAdd, Int.reduceSub]
    exact le_sub (by simp [go_sem]) (by simp [go_sem]) (by simp [go_sem])
  obtain ⟨hi, hs⟩ := hi
  simp only [go_sem, Nat.reduceLT, Nat.reduceBEq, Nat.reduceLeDiff, Nat.reduceAdd, Nat.reduceMul, Nat.reduceSub, Nat.reduceEqDiff, Int.reduceNeg, Int.reduceToNat, Int.reduceAdd, Int.reduceSub]
  refine cw_go tabOK 99 (by simp only [go_sem, Nat.reduceLT, Nat.reduceBEq, Nat.reduceLeDiff, Nat.reduceAdd, Nat.reduceMul, Nat.reduceSub, Nat.reduceEqDiff, Int.reduceNeg, Int.reduceToNat, Int.reduceAdd, Int.reduceSub]; try exact rfl) (by simp [go_sem]) ?_
  refine cw_cond (by simp only [go_sem, Nat.reduceLT, Nat.reduceBEq, Nat.reduceLeDiff, Nat.reduceAdd, Nat.reduceMul, Nat.reduceSub, Nat.reduceEqDiff, Int.reduceNeg, Int.reduceToNat, Int.reduceAdd, Int.reduceSub]; try exact rfl) trivial (fun h => ?_) (fun h => ?_)
  · have hlt : i < a.length := by simp at h; omega
    have hltb : i < b.length := by omega
    have hga : (a.map nodeRow).getD i [] = nodeRow (a.getD i default) := Fam.getD hlt
    have hgb : (b.map nodeRow).getD i [] = nodeRow (b.getD i default) := Fam.getD hltb
    have hsm := sameNode_ok _ _ v (ha.each _ (getD_mem hlt)) (hb.each _ (getD_mem hltb))
    have hno : sameN v (a.getD i default) (b.getD i default) = false → sameT v a b = false := fun h0 => by
      cases e : sameT v a b with
      | false => rfl
      | true => rw [((sameT_iff v a b).1 e).2 i hlt] at h0; cases h0
    have hyes : sameN v (a.getD i default) (b.getD i default) = true → ∀ j, j < i + 1 → sameN v (a.getD j default) (b.getD j default) = true := fun h0 j hj => by
      rcases Nat.lt_succ_iff_lt_or_eq.1 hj with h1 | rfl
      · exact hs j h1
      · exact h0
    clear hs
    generalize a.getD i default = x at hga hsm hno hyes
    generalize b.getD i default = y at hgb hsm hno hyes
    refine cw_go tabOK 99 (by simp only [go_sem, Nat.reduceLT, Nat.reduceBEq, Nat.reduceLeDiff, Nat.reduceAdd, Nat.reduceMul, Nat.reduceSub, Nat.reduceEqDiff, Int.reduceNeg, Int.reduceToNat, Int.reduceAdd, Int.reduceSub]; try exact rfl) (by simp [go_sem]) ?_
    refine cw_draw mixed ?_
    refine seg_start rfl ?_
    refine seg_runN tabOK 9 (by simp only [go_sem, Nat.reduceLT, Nat.reduceBEq, Nat.reduceLeDiff, Nat.reduceAdd, Nat.reduceMul, Nat.reduceSub, Nat.reduceEqDiff, Int.reduceNeg, Int.reduceToNat, Int.reduceAdd, Int.reduceSub]; exact rfl) (by simp only [go_sem, Nat.reduceLT, Nat.reduceBEq, Nat.reduceLeDiff, Nat.reduceAdd, Nat.reduceMul, Nat.reduceSub, Nat.reduceEqDiff, Int.reduceNeg, Int.reduceToNat, Int.reduceAdd, Int.reduceSub]; exact rfl) (by simp only [go_sem, Nat.reduceLT, Nat.reduceBEq, Nat.reduceLeDiff, Nat.reduceAdd, Nat.reduceMul, Nat.reduceSub, Nat.reduceEqDiff, Int.reduceNeg, Int.reduceToNat, Int.reduceAdd, Int.reduceSub, hga, hgb, nodeRow]; try exact rfl) ?_ (by simp only [go_sem, Nat.reduceLT, Nat.reduceBEq, Nat.reduceLeDiff, Nat.reduceAdd, Nat.reduceMul, Nat.reduceSub, Nat.reduceEqDiff, Int.reduceNeg, Int.reduceToNat, Int.reduceAdd, Int.reduceSub]; exact rfl) ?_
    · simp [hga, hgb, nodeRow, hlt, hltb]
    refine seg_call rfl rfl (by simp only [go_sem, Nat.reduceLT, Nat.reduceBEq, Nat.reduceLeDiff, Nat.reduceAdd, Nat.reduceMul, Nat.reduceSub, Nat.reduceEqDiff, Int.reduceNeg, Int.reduceToNat, Int.reduceAdd, Int.reduceSub]; try exact rfl) (by simp [go_sem]) ⟨_, Go.Proofs.Try.func34, by kernel_rfl, rfl⟩ (by simp [go_sem]) (hsm) (by simp [go_sem]) (by simp only [go_sem, Nat.reduceLT, Nat.reduceBEq, Nat.reduceLeDiff, Nat.reduceAdd, Nat.reduceMul, Nat.reduceSub, Nat.reduceEqDiff, Int.reduceNeg, Int.reduceToNat, Int.reduceAdd, Int.reduceSub]; exact rfl) (by simp only [go_sem, Nat.reduceLT, Nat.reduceBEq, Nat.reduceLeDiff, Nat.reduceAdd, Nat.reduceMul, Nat.reduceSub, Nat.reduceEqDiff, Int.reduceNeg, Int.reduceToNat, Int.reduceAdd, Int.reduceSub]; exact rfl) ?_
    refine seg_run tabOK (by simp only [go_sem, Nat.reduceLT, Nat.reduceBEq, Nat.reduceLeDiff, Nat.reduceAdd, Nat.reduceMul, Nat.reduceSub, Nat.reduceEqDiff, Int.reduceNeg, Int.reduceToNat, Int.reduceAdd, Int.reduceSub]; try exact rfl) (by simp [go_sem]) (by simp only [go_sem, Nat.reduceLT, Nat.reduceBEq, Nat.reduceLeDiff, Nat.reduceAdd, Nat.reduceMul, Nat.reduceSub, Nat.reduceEqDiff, Int.reduceNeg, Int.reduceToNat, Int.reduceAdd, Int.reduceSub]; exact rfl) ?_
    refine seg_end (by kernel_rfl) (by simp only [go_sem, Nat.reduceLT, Nat.reduceBEq, Nat.reduceLeDiff, Nat.reduceAdd, Nat.reduceMul, Nat.reduceSub, Nat.reduceEqDiff, Int.reduceNeg, Int.reduceToNat, Int.reduceAdd, Int.reduceSub]; exact rfl) ?_
    refine draw_close (by kernel_rfl) ?_
    refine cw_cond (by simp only [go_sem, Nat.reduceLT, Nat.reduceBEq, Nat.reduceLeDiff, Nat.reduceAdd, Nat.reduceMul, Nat.reduceSub, Nat.reduceEqDiff, Int.reduceNeg, Int.reduceToNat, Int.reduceAdd, Int.reduceSub]; try exact rfl) trivial (fun h => ?_) (fun h => ?_)
    · have h0 : sameN v x y = false := by simpa using h
      have := hno h0
      refine cw_go tabOK 99 (by simp only [go_sem, Nat.reduceLT, Nat.reduceBEq, Nat.reduceLeDiff, Nat.reduceAdd, Nat.reduceMul, Nat.reduceSub, Nat.reduceEqDiff, Int.reduceNeg, Int.reduceToNat, Int.reduceAdd, Int.reduceSub]; try exact rfl) (by simp [go_sem]) ?_
      refine cw_ret ⟨_, _, (by simp only [go_sem, Nat.reduceLT, Nat.reduceBEq, Nat.reduceLeDiff, Nat.reduceAdd, Nat.reduceMul, Nat.reduceSub, Nat.reduceEqDiff, Int.reduceNeg, Int.reduceToNat, Int.reduceAdd, Int.reduceSub]; try exact rfl), by simp [go_sem], _, .inr (.inl rfl), ?_⟩
      simp [this]
    · have h0 : sameN v x y = true := by simpa using h
      have hw : IntKind.i64.wrap ((i : Int) + 1) = ((i + 1 : Nat) : Int) := by rw [Eng.wrap_small (by omega) (by omega)]; rfl
      refine cw_go tabOK 99 (by simp only [go_sem, Nat.reduceLT, Nat.reduceBEq, Nat.reduceLeDiff, Nat.reduceAdd, Nat.reduceMul, Nat.reduceSub, Nat.reduceEqDiff, Int.reduceNeg, Int.reduceToNat, Int.reduceAdd, Int.reduceSub, hw]; try exact rfl) (by simp [go_sem, hw]) ?_
      refine cw_back ⟨i + 1, ⟨by omega, hyes h0⟩, by omega, le_sub ?_ ?_ ?_⟩
      · simp [go_sem]
      · simp [go_sem]
      · simp [go_sem]
  · have e : i = a.length := by simp at h; omega
    subst e
    have hab : sameT v a b = true := (sameT_iff v a b).2 ⟨hl, hs⟩
    refine cw_go tabOK 99 (by simp only [go_sem, Nat.reduceLT, Nat.reduceBEq, Nat.reduceLeDiff, Nat.reduceAdd, Nat.reduceMul, Nat.reduceSub, Nat.reduceEqDiff, Int.reduceNeg, Int.reduceToNat, Int.reduceAdd, Int.reduceSub]; try exact rfl) (by simp [go_sem]) ?_
    refine cw_ret ⟨_, _, (by simp only [go_sem, Nat.reduceLT, Nat.reduceBEq, Nat.reduceLeDiff, Nat.reduceAdd, Nat.reduceMul, Nat.reduceSub, Nat.reduceEqDiff, Int.reduceNeg, Int.reduceToNat, Int.reduceAdd, Int.reduceSub]; try exact rfl), by simp [go_sem], _, .inr (.inl rfl), ?_⟩
    simp [hab]

theorem new_ok : FnOK Try.prog 82 [] [] (fun r _ => r = .sl [[.int .i64 0, .bool true, .nils, .nils, .int .i64 0]]) := by
  refine fn_of_cwW tabOK (Go.Proofs.Try.func82) rfl (fun C => ?_)
  simp only [Go.Proofs.Try.ntmps82, Go.Proofs.Try.results82, go_sem, Nat.reduceLT, Nat.reduceBEq, Nat.reduceLeDiff, Nat.reduceAdd, Nat.reduceMul, Nat.reduceSub, Nat.reduceEqDiff, Int.reduceNeg, Int.reduceToNat, Int.reduceAdd, Int.reduceSub]
  refine cw_go tabOK 99 (by simp only [go_sem, Nat.reduceLT, Nat.reduceBEq, Nat.reduceLeDiff, Nat.reduceAdd, Nat.reduceMul, Nat.reduceSub, Nat.reduceEqDiff, Int.reduceNeg, Int.reduceToNat, Int.reduceAdd, Int.reduceSub]; try exact rfl) (by simp [go_sem]) ?_
  refine cw_freeze 2 rfl (rfl) ?_
  simp only [go_sem, Nat.reduceLT, Nat.reduceBEq, Nat.reduceLeDiff, Nat.reduceAdd, Nat.reduceMul, Nat.reduceSub, Nat.reduceEqDiff, Int.reduceNeg, Int.reduceToNat, Int.reduceAdd, Int.reduceSub]
  refine cw_ret ⟨_, _, (by simp only [go_sem, Nat.reduceLT, Nat.reduceBEq, Nat.reduceLeDiff, Nat.reduceAdd, Nat.reduceMul, Nat.reduceSub, Nat.reduceEqDiff, Int.reduceNeg, Int.reduceToNat, Int.reduceAdd, Int.reduceSub]; try exact rfl), by simp [go_sem], _, .inr (.inl rfl), ?_⟩
  rfl

def stepB (l : List Node) (j : Nat) : Bool := j == 0 || decide ((l.getD (j - 1) default).fid < (l.getD j default).fid)
def entB (es : List Entry) (k : Nat) : Bool := k == 0 || decide ((es.getD (k - 1) default).name < (es.getD k default).name)
def nodeB (l : List Node) (j : Nat) : Bool := stepB l j && (List.range (l.getD j default).entries.length).all (entB (l.getD j default).entries)
def risesB (l : List Node) : Bool := (List.range l.length).all (nodeB l)

theorem adj_up {l : List Node} (h : ∀ j, j < l.length → stepB l j = true) : Up l := by
  refine List.pairwise_iff_getElem.2 fun i j hi hj hij => ?_
  have key : ∀ d, ∀ (h : i + d + 1 < l.length), (l.getD i default).fid < (l.getD (i + d + 1) default).fid := fun d => by
    induction d with
    | zero =>
      intro hlt
      have := h (i + 1) hlt
      simp only [stepB, Nat.add_sub_cancel, Bool.or_eq_true, beq_iff_eq, decide_eq_true_eq] at this
      rcases this with h0 | h0
      · omega
      · exact h0
    | succ d ih =>
      intro hlt
      have h1 := ih (by omega)
      have := h (i + (d + 1) + 1) hlt
      simp only [stepB, Nat.add_sub_cancel, Bool.or_eq_true, beq_iff_eq, decide_eq_true_eq] at this
      rcases this with h0 | h0
      · omega
      · exact Int.lt_trans h1 h0
  obtain ⟨d, rfl⟩ : ∃ d, j = i + d + 1 := ⟨j - i - 1, by omega⟩
  have := key d hj
  rw [List.getD_eq_getElem?_getD, List.getD_eq_getElem?_getD, List.getElem?_eq_getElem hi, List.getElem?_eq_getElem hj] at this
  exact this
theorem adj_eup {l : List Entry} (h : ∀ j, j < l.length → entB l j = true) : EUp l := by
  refine List.pairwise_iff_getElem.2 fun i j hi hj hij => ?_
  have key : ∀ d, ∀ (h : i + d + 1 < l.length), (l.getD i default).name < (l.getD (i + d + 1) default).name := fun d => by
    induction d with
    | zero =>
      intro hlt
      have := h (i + 1) hlt
      simp only [entB, Nat.add_sub_cancel, Bool.or_eq_true, beq_iff_eq, decide_eq_true_eq] at this
      rcases this with h0 | h0
      · omega
      · exact h0
    | succ d ih =>
      intro hlt
      have h1 := ih (by omega)
      have := h (i + (d + 1) + 1) hlt
      simp only [entB, Nat.add_sub_cancel, Bool.or_eq_true, beq_iff_eq, decide_eq_true_eq] at this
      rcases this with h0 | h0
      · omega
      · exact strans h1 h0
  obtain ⟨d, rfl⟩ : ∃ d, j = i + d + 1 := ⟨j - i - 1, by omega⟩
  have := key d hj
  rw [List.getD_eq_getElem?_getD, List.getD_eq_getElem?_getD, List.getElem?_eq_getElem hi, List.getElem?_eq_getElem hj] at this
  exact this
theorem risesB_iff (l : List Node) : risesB l = true ↔ Up l ∧ ∀ n, n ∈ l → EUp n.entries := by
  unfold risesB
  rw [List.all_eq_true]
  constructor
  · intro h
    refine ⟨adj_up fun j hj => ?_, fun n hn => ?_⟩
    · have := h j (List.mem_range.2 hj)
      unfold nodeB at this
      exact (Bool.and_eq_true_iff.1 this).1
    · obtain ⟨j, hj⟩ := List.getElem?_of_mem hn
      have hjl := (List.getElem?_eq_some_iff.1 hj).1
      have := h j (List.mem_range.2 hjl)
      unfold nodeB at this
      rw [getD_of hj] at this
      exact adj_eup fun k hk => List.all_eq_true.1 (Bool.and_eq_true_iff.1 this).2 k (List.mem_range.2 hk)
  · rintro ⟨h1, h2⟩ j hj
    have hjl := List.mem_range.1 hj
    unfold nodeB
    rw [Bool.and_eq_true]
    refine ⟨?_, List.all_eq_true.2 fun k hk => ?_⟩
    · unfold stepB
      cases j with
      | zero => rfl
      | succ j => simp only [Bool.or_eq_true, decide_eq_true_eq]; exact .inr (h1.lt (by omega) hjl)
    · unfold entB
      cases k with
      | zero => rfl
      | succ k => simp only [Bool.or_eq_true, decide_eq_true_eq]; exact .inr ((h2 _ (getD_mem hjl)).lt (by omega) (List.mem_range.1 hk))

theorem risesB_no {l : List Node} {j : Nat} (hj : j < l.length) (h : nodeB l j = false) : risesB l = false := by
  cases e : risesB l with
  | false => rfl
  | true =>
    unfold risesB at e
    rw [List.all_eq_true.1 e j (List.mem_range.2 hj)] at h
    cases h


set_option maxHeartbeats 1000000 in
theorem rises_ok (l : List Node) (hl : Small l) : FnOK Try.prog 27 [.sl (l.map nodeRow)] [] (fun r _ => r = .bool (risesB l)) := by
  have hlen := hl.len
  refine fn_of_cwW tabOK (Go.Proofs.Try.func27) rfl (fun C => ?_)
  simp only [Go.Proofs.Try.ntmps27, Go.Proofs.Try.results27, go_sem, Nat.reduceLT, Nat.reduceBEq, Nat.reduceLeDiff, Nat.reduceAdd, Nat.reduceMul, Nat.reduceSub, Nat.reduceEqDiff, Int.reduceNeg, Int.reduceToNat, Int.reduceAdd, Int.reduceSub]
  refine cw_go tabOK 99 (by simp only [go_sem, Nat.reduceLT, Nat.reduceBEq, Nat.reduceLeDiff, Nat.reduceAdd, Nat.reduceMul, Nat.reduceSub, Nat.reduceEqDiff, Int.reduceNeg, Int.reduceToNat, Int.reduceAdd, Int.reduceSub]; try exact rfl) (by simp [go_sem]) ?_
  refine cw_loopS (fun i : Nat => i ≤ l.length ∧ ∀ j, j < i → nodeB l j = true) (fun i => l.length - i) (fun i => [(3, .any), (4, .any), (5, .any), (8, .int .i64 i), (9, .any), (10, .any), (11, .any), (12, .any), (13, .any), (14, .any), (15, .any), (16, .any), (17, .any), (18, .any), (19, .any), (20, .any), (21, .any), (22, .any), (23, .any), (24, .any), (25, .any), (26, .any), (27, .any), (28, .any), (29, .any), (30, .any), (31, .any), (32, .any), (33, .any), (34, .any), (35, .any), (36, .any), (37, .any), (38, .any), (39, .any), (40, .any), (41, .any), (42, .any), (43, .any), (44, .any), (45, .any), (46, .any), (47, .any), (48, .any), (49, .any), (50, .any), (51, .any)]) (fun _ => []) 0 ⟨by omega, by omega⟩ ?_ fun i hi => ?_
  · simp only [go_sem, Nat.reduceLT, Nat.reduceBEq, Nat.reduceLeDiff, Nat.reduceAdd, Nat.reduceMul, Nat.reduceSub, Nat.reduceEqDiff, Int.reduceNeg, Int.reduceToNat, Int.reduceAdd, Int.reduceSub]
    exact le_sub (by simp [go_sem]) (by simp [go_sem]) (by simp [go_sem])
  obtain ⟨hi, hs⟩ := hi
  simp only [go_sem, Nat.reduceLT, Nat.reduceBEq, Nat.reduceLeDiff, Nat.reduceAdd, Nat.reduceMul, Nat.reduceSub, Nat.reduceEqDiff, Int.reduceNeg, Int.reduceToNat, Int.reduceAdd, Int.reduceSub]
  refine cw_go tabOK 99 (by simp only [go_sem, Nat.reduceLT, Nat.reduceBEq, Nat.reduceLeDiff, Nat.reduceAdd, Nat.reduceMul, Nat.reduceSub, Nat.reduceEqDiff, Int.reduceNeg, Int.reduceToNat, Int.reduceAdd, Int.reduceSub]; try exact rfl) (by simp [go_sem]) ?_
  refine cw_cond (by simp only [go_sem, Nat.reduceLT, Nat.reduceBEq, Nat.reduceLeDiff, Nat.reduceAdd, Nat.reduceMul, Nat.reduceSub, Nat.reduceEqDiff, Int.reduceNeg, Int.reduceToNat, Int.reduceAdd, Int.reduceSub]; try exact rfl) trivial (fun h => ?_) (fun h => ?_)
  · have hlt : i < l.length := by simp at h; omega
    have hg : (l.map nodeRow).getD i [] = nodeRow (l.getD i default) := Fam.getD hlt
    have hen := (hl.each _ (getD_mem hlt)).entries
    have hsB : i ≠ 0 → stepB l i = decide ((l.getD (i - 1) default).fid < (l.getD i default).fid) := fun h0 => by simp [stepB, h0]
    have hno : stepB l i = false → nodeB l i = false := fun h0 => by unfold nodeB; rw [h0]; rfl
    generalize hxd : l.getD i default = x at hg hen hsB
    refine cw_go tabOK 99 (by simp only [go_sem, Nat.reduceLT, Nat.reduceBEq, Nat.reduceLeDiff, Nat.reduceAdd, Nat.reduceMul, Nat.reduceSub, Nat.reduceEqDiff, Int.reduceNeg, Int.reduceToNat, Int.reduceAdd, Int.reduceSub, hg, nodeRow]; try exact rfl) ?_ ?_
    · simp [hg, nodeRow, hlt]
    refine cw_freeze 4 rfl (rfl) ?_
    simp only [go_sem, Nat.reduceLT, Nat.reduceBEq, Nat.reduceLeDiff, Nat.reduceAdd, Nat.reduceMul, Nat.reduceSub, Nat.reduceEqDiff, Int.reduceNeg, Int.reduceToNat, Int.reduceAdd, Int.reduceSub]
    by_cases hi0 : i = 0
    · subst hi0
      have hst : stepB l 0 = true := rfl
      refine cw_draw mixed ?_
      refine seg_start rfl ?_
      refine seg_runN tabOK 3 (by simp only [go_sem, Nat.reduceLT, Nat.reduceBEq, Nat.reduceLeDiff, Nat.reduceAdd, Nat.reduceMul, Nat.reduceSub, Nat.reduceEqDiff, Int.reduceNeg, Int.reduceToNat, Int.reduceAdd, Int.reduceSub]; exact rfl) (by simp only [go_sem, Nat.reduceLT, Nat.reduceBEq, Nat.reduceLeDiff, Nat.reduceAdd, Nat.reduceMul, Nat.reduceSub, Nat.reduceEqDiff, Int.reduceNeg, Int.reduceToNat, Int.reduceAdd, Int.reduceSub]; exact rfl) (by simp only [go_sem, Nat.reduceLT, Nat.reduceBEq, Nat.reduceLeDiff, Nat.reduceAdd, Nat.reduceMul, Nat.reduceSub, Nat.reduceEqDiff, Int.reduceNeg, Int.reduceToNat, Int.reduceAdd, Int.reduceSub]; try exact rfl) (by simp [go_sem]) (by simp only [go_sem, Nat.reduceLT, Nat.reduceBEq, Nat.reduceLeDiff, Nat.reduceAdd, Nat.reduceMul, Nat.reduceSub, Nat.reduceEqDiff, Int.reduceNeg, Int.reduceToNat, Int.reduceAdd, Int.reduceSub]; exact rfl) ?_
      refine seg_skip .any (by simp only [go_sem, Nat.reduceLT, Nat.reduceBEq, Nat.reduceLeDiff, Nat.reduceAdd, Nat.reduceMul, Nat.reduceSub, Nat.reduceEqDiff, Int.reduceNeg, Int.reduceToNat, Int.reduceAdd, Int.reduceSub]; try exact rfl) (by simp only [go_sem, Nat.reduceLT, Nat.reduceBEq, Nat.reduceLeDiff, Nat.reduceAdd, Nat.reduceMul, Nat.reduceSub, Nat.reduceEqDiff, Int.reduceNeg, Int.reduceToNat, Int.reduceAdd, Int.reduceSub]; exact rfl) (by simp only [go_sem, Nat.reduceLT, Nat.reduceBEq, Nat.reduceLeDiff, Nat.reduceAdd, Nat.reduceMul, Nat.reduceSub, Nat.reduceEqDiff, Int.reduceNeg, Int.reduceToNat, Int.reduceAdd, Int.reduceSub]; exact rfl) ?_
      refine seg_skip .any (by simp only [go_sem, Nat.reduceLT, Nat.reduceBEq, Nat.reduceLeDiff, Nat.reduceAdd, Nat.reduceMul, Nat.reduceSub, Nat.reduceEqDiff, Int.reduceNeg, Int.reduceToNat, Int.reduceAdd, Int.reduceSub]; try exact rfl) (by simp only [go_sem, Nat.reduceLT, Nat.reduceBEq, Nat.reduceLeDiff, Nat.reduceAdd, Nat.reduceMul, Nat.reduceSub, Nat.reduceEqDiff, Int.reduceNeg, Int.reduceToNat, Int.reduceAdd, Int.reduceSub]; exact rfl) (by simp only [go_sem, Nat.reduceLT, Nat.reduceBEq, Nat.reduceLeDiff, Nat.reduceAdd, Nat.reduceMul, Nat.reduceSub, Nat.reduceEqDiff, Int.reduceNeg, Int.reduceToNat, Int.reduceAdd, Int.reduceSub]; exact rfl) ?_
      refine seg_skip .any (by simp only [go_sem, Nat.reduceLT, Nat.reduceBEq, Nat.reduceLeDiff, Nat.reduceAdd, Nat.reduceMul, Nat.reduceSub, Nat.reduceEqDiff, Int.reduceNeg, Int.reduceToNat, Int.reduceAdd, Int.reduceSub]; try exact rfl) (by simp only [go_sem, Nat.reduceLT, Nat.reduceBEq, Nat.reduceLeDiff, Nat.reduceAdd, Nat.reduceMul, Nat.reduceSub, Nat.reduceEqDiff, Int.reduceNeg, Int.reduceToNat, Int.reduceAdd, Int.reduceSub]; exact rfl) (by simp only [go_sem, Nat.reduceLT, Nat.reduceBEq, Nat.reduceLeDiff, Nat.reduceAdd, Nat.reduceMul, Nat.reduceSub, Nat.reduceEqDiff, Int.reduceNeg, Int.reduceToNat, Int.reduceAdd, Int.reduceSub]; exact rfl) ?_
      refine seg_skip .any (by simp only [go_sem, Nat.reduceLT, Nat.reduceBEq, Nat.reduceLeDiff, Nat.reduceAdd, Nat.reduceMul, Nat.reduceSub, Nat.reduceEqDiff, Int.reduceNeg, Int.reduceToNat, Int.reduceAdd, Int.reduceSub]; try exact rfl) (by simp only [go_sem, Nat.reduceLT, Nat.reduceBEq, Nat.reduceLeDiff, Nat.reduceAdd, Nat.reduceMul, Nat.reduceSub, Nat.reduceEqDiff, Int.reduceNeg, Int.reduceToNat, Int.reduceAdd, Int.reduceSub]; exact rfl) (by simp only [go_sem, Nat.reduceLT, Nat.reduceBEq, Nat.reduceLeDiff, Nat.reduceAdd, Nat.reduceMul, Nat.reduceSub, Nat.reduceEqDiff, Int.reduceNeg, Int.reduceToNat, Int.reduceAdd, Int.reduceSub]; exact rfl) ?_
      refine seg_skip .any (by simp only [go_sem, Nat.reduceLT, Nat.reduceBEq, Nat.reduceLeDiff, Nat.reduceAdd, Nat.reduceMul, Nat.reduceSub, Nat.reduceEqDiff, Int.reduceNeg, Int.reduceToNat, Int.reduceAdd, Int.reduceSub]; try exact rfl) (by simp only [go_sem, Nat.reduceLT, Nat.reduceBEq, Nat.reduceLeDiff, Nat.reduceAdd, Nat.reduceMul, Nat.reduceSub, Nat.reduceEqDiff, Int.reduceNeg, Int.reduceToNat, Int.reduceAdd, Int.reduceSub]; exact rfl) (by simp only [go_sem, Nat.reduceLT, Nat.reduceBEq, Nat.reduceLeDiff, Nat.reduceAdd, Nat.reduceMul, Nat.reduceSub, Nat.reduceEqDiff, Int.reduceNeg, Int.reduceToNat, Int.reduceAdd, Int.reduceSub]; exact rfl) ?_
      refine seg_skip .any (by simp only [go_sem, Nat.reduceLT, Nat.reduceBEq, Nat.reduceLeDiff, Nat.reduceAdd, Nat.reduceMul, Nat.reduceSub, Nat.reduceEqDiff, Int.reduceNeg, Int.reduceToNat, Int.reduceAdd, Int.reduceSub]; try exact rfl) (by simp only [go_sem, Nat.reduceLT, Nat.reduceBEq, Nat.reduceLeDiff, Nat.reduceAdd, Nat.reduceMul, Nat.reduceSub, Nat.reduceEqDiff, Int.reduceNeg, Int.reduceToNat, Int.reduceAdd, Int.reduceSub]; exact rfl) (by simp only [go_sem, Nat.reduceLT, Nat.reduceBEq, Nat.reduceLeDiff, Nat.reduceAdd, Nat.reduceMul, Nat.reduceSub, Nat.reduceEqDiff, Int.reduceNeg, Int.reduceToNat, Int.reduceAdd, Int.reduceSub]; exact rfl) ?_
      refine seg_skip .any (by simp only [go_sem, Nat.reduceLT, Nat.reduceBEq, Nat.reduceLeDiff, Nat.reduceAdd, Nat.reduceMul, Nat.reduceSub, Nat.reduceEqDiff, Int.reduceNeg, Int.reduceToNat, Int.reduceAdd, Int.reduceSub]; try exact rfl) (by simp only [go_sem, Nat.reduceLT, Nat.reduceBEq, Nat.reduceLeDiff, Nat.reduceAdd, Nat.reduceMul, Nat.reduceSub, Nat.reduceEqDiff, Int.reduceNeg, Int.reduceToNat, Int.reduceAdd, Int.reduceSub]; exact rfl) (by simp only [go_sem, Nat.reduceLT, Nat.reduceBEq, Nat.reduceLeDiff, Nat.reduceAdd, Nat.reduceMul, Nat.reduceSub, Nat.reduceEqDiff, Int.reduceNeg, Int.reduceToNat, Int.reduceAdd, Int.reduceSub]; exact rfl) ?_
      refine seg_skip .any (by simp only [go_sem, Nat.reduceLT, Nat.reduceBEq, Nat.reduceLeDiff, Nat.reduceAdd, Nat.reduceMul, Nat.reduceSub, Nat.reduceEqDiff, Int.reduceNeg, Int.reduceToNat, Int.reduceAdd, Int.reduceSub]; try exact rfl) (by simp only [go_sem, Nat.reduceLT, Nat.reduceBEq, Nat.reduceLeDiff, Nat.reduceAdd, Nat.reduceMul, Nat.reduceSub, Nat.reduceEqDiff, Int.reduceNeg, Int.reduceToNat, Int.reduceAdd, Int.reduceSub]; exact rfl) (by simp only [go_sem, Nat.reduceLT, Nat.reduceBEq, Nat.reduceLeDiff, Nat.reduceAdd, Nat.reduceMul, Nat.reduceSub, Nat.reduceEqDiff, Int.reduceNeg, Int.reduceToNat, Int.reduceAdd, Int.reduceSub]; exact rfl) ?_
      refine seg_skip (.bool false) (by simp only [go_sem, Nat.reduceLT, Nat.reduceBEq, Nat.reduceLeDiff, Nat.reduceAdd, Nat.reduceMul, Nat.reduceSub, Nat.reduceEqDiff, Int.reduceNeg, Int.reduceToNat, Int.reduceAdd, Int.reduceSub]; try exact rfl) (by simp only [go_sem, Nat.reduceLT, Nat.reduceBEq, Nat.reduceLeDiff, Nat.reduceAdd, Nat.reduceMul, Nat.reduceSub, Nat.reduceEqDiff, Int.reduceNeg, Int.reduceToNat, Int.reduceAdd, Int.reduceSub]; exact rfl) (by simp only [go_sem, Nat.reduceLT, Nat.reduceBEq, Nat.reduceLeDiff, Nat.reduceAdd, Nat.reduceMul, Nat.reduceSub, Nat.reduceEqDiff, Int.reduceNeg, Int.reduceToNat, Int.reduceAdd, Int.reduceSub]; exact rfl) ?_
      refine seg_runN tabOK 1 (by simp only [go_sem, Nat.reduceLT, Nat.reduceBEq, Nat.reduceLeDiff, Nat.reduceAdd, Nat.reduceMul, Nat.reduceSub, Nat.reduceEqDiff, Int.reduceNeg, Int.reduceToNat, Int.reduceAdd, Int.reduceSub]; exact rfl) (by simp only [go_sem, Nat.reduceLT, Nat.reduceBEq, Nat.reduceLeDiff, Nat.reduceAdd, Nat.reduceMul, Nat.reduceSub, Nat.reduceEqDiff, Int.reduceNeg, Int.reduceToNat, Int.reduceAdd, Int.reduceSub]; exact rfl) (by simp only [go_sem, Nat.reduceLT, Nat.reduceBEq, Nat.reduceLeDiff, Nat.reduceAdd, Nat.reduceMul, Nat.reduceSub, Nat.reduceEqDiff, Int.reduceNeg, Int.reduceToNat, Int.reduceAdd, Int.reduceSub]; try exact rfl) (by simp [go_sem]) (by simp only [go_sem, Nat.reduceLT, Nat.reduceBEq, Nat.reduceLeDiff, Nat.reduceAdd, Nat.reduceMul, Nat.reduceSub, Nat.reduceEqDiff, Int.reduceNeg, Int.reduceToNat, Int.reduceAdd, Int.reduceSub]; exact rfl) ?_
      refine seg_end (by kernel_rfl) (by simp only [go_sem, Nat.reduceLT, Nat.reduceBEq, Nat.reduceLeDiff, Nat.reduceAdd, Nat.reduceMul, Nat.reduceSub, Nat.reduceEqDiff, Int.reduceNeg, Int.reduceToNat, Int.reduceAdd, Int.reduceSub]; exact rfl) ?_
      refine draw_close (by kernel_rfl) ?_
      refine cw_condF (by simp only [go_sem, Nat.reduceLT, Nat.reduceBEq, Nat.reduceLeDiff, Nat.reduceAdd, Nat.reduceMul, Nat.reduceSub, Nat.reduceEqDiff, Int.reduceNeg, Int.reduceToNat, Int.reduceAdd, Int.reduceSub]; try exact rfl) trivial (by simp) ?_
      refine cw_go tabOK 99 (by simp only [go_sem, Nat.reduceLT, Nat.reduceBEq, Nat.reduceLeDiff, Nat.reduceAdd, Nat.reduceMul, Nat.reduceSub, Nat.reduceEqDiff, Int.reduceNeg, Int.reduceToNat, Int.reduceAdd, Int.reduceSub]; try exact rfl) (by simp [go_sem]) ?_
      refine cw_loopS (fun k : Nat => k ≤ x.entries.length ∧ ∀ j, j < k → entB x.entries j = true) (fun k => x.entries.length - k) (fun k => [(5, .any), (29, .int .i64 k), (30, .any), (31, .any), (32, .any), (33, .any), (34, .any), (35, .any), (36, .any), (37, .any), (38, .any), (39, .any), (40, .any), (41, .any), (42, .any), (43, .any), (44, .any), (45, .any), (46, .any), (47, .any), (48, .any), (49, .any)]) (fun _ => []) 0 ⟨by omega, by omega⟩ ?_ fun k hk => ?_
      · simp only [go_sem, Nat.reduceLT, Nat.reduceBEq, Nat.reduceLeDiff, Nat.reduceAdd, Nat.reduceMul, Nat.reduceSub, Nat.reduceEqDiff, Int.reduceNeg, Int.reduceToNat, Int.reduceAdd, Int.reduceSub]
        exact le_sub (by simp [go_sem]) (by simp [go_sem]) (by simp [go_sem])
      obtain ⟨hk, hks⟩ := hk
      simp only [go_sem, Nat.reduceLT, Nat.reduceBEq, Nat.reduceLeDiff, Nat.reduceAdd, Nat.reduceMul, Nat.reduceSub, Nat.reduceEqDiff, Int.reduceNeg, Int.reduceToNat, Int.reduceAdd, Int.reduceSub]
      refine cw_go tabOK 99 (by simp only [go_sem, Nat.reduceLT, Nat.reduceBEq, Nat.reduceLeDiff, Nat.reduceAdd, Nat.reduceMul, Nat.reduceSub, Nat.reduceEqDiff, Int.reduceNeg, Int.reduceToNat, Int.reduceAdd, Int.reduceSub]; try exact rfl) (by simp [go_sem]) ?_
      refine cw_cond (by simp only [go_sem, Nat.reduceLT, Nat.reduceBEq, Nat.reduceLeDiff, Nat.reduceAdd, Nat.reduceMul, Nat.reduceSub, Nat.reduceEqDiff, Int.reduceNeg, Int.reduceToNat, Int.reduceAdd, Int.reduceSub]; try exact rfl) trivial (fun h => ?_) (fun h => ?_)
      · have hklt : k < x.entries.length := by simp at h; omega
        have hgk : (x.entries.map entryRow).getD k [] = entryRow (x.entries.getD k default) := Fam.getD hklt
        have hwk : IntKind.i64.wrap ((k : Int) + 1) = ((k + 1 : Nat) : Int) := by rw [Eng.wrap_small (by omega) (by omega)]; rfl
        refine cw_go tabOK 99 (by simp only [go_sem, Nat.reduceLT, Nat.reduceBEq, Nat.reduceLeDiff, Nat.reduceAdd, Nat.reduceMul, Nat.reduceSub, Nat.reduceEqDiff, Int.reduceNeg, Int.reduceToNat, Int.reduceAdd, Int.reduceSub]; try exact rfl) (by simp [go_sem]) ?_
        by_cases hk0 : k = 0
        · subst hk0
          have he : entB x.entries 0 = true := rfl
          refine cw_draw mixed ?_
          refine seg_start rfl ?_
          refine seg_runN tabOK 3 (by simp only [go_sem, Nat.reduceLT, Nat.reduceBEq, Nat.reduceLeDiff, Nat.reduceAdd, Nat.reduceMul, Nat.reduceSub, Nat.reduceEqDiff, Int.reduceNeg, Int.reduceToNat, Int.reduceAdd, Int.reduceSub]; exact rfl) (by simp only [go_sem, Nat.reduceLT, Nat.reduceBEq, Nat.reduceLeDiff, Nat.reduceAdd, Nat.reduceMul, Nat.reduceSub, Nat.reduceEqDiff, Int.reduceNeg, Int.reduceToNat, Int.reduceAdd, Int.reduceSub]; exact rfl) (by simp only [go_sem, Nat.reduceLT, Nat.reduceBEq, Nat.reduceLeDiff, Nat.reduceAdd, Nat.reduceMul, Nat.reduceSub, Nat.reduceEqDiff, Int.reduceNeg, Int.reduceToNat, Int.reduceAdd, Int.reduceSub]; try exact rfl) (by simp [go_sem]) (by simp only [go_sem, Nat.reduceLT, Nat.reduceBEq, Nat.reduceLeDiff, Nat.reduceAdd, Nat.reduceMul, Nat.reduceSub, Nat.reduceEqDiff, Int.reduceNeg, Int.reduceToNat, Int.reduceAdd, Int.reduceSub]; exact rfl) ?_
          refine seg_skip .any (by simp only [go_sem, Nat.reduceLT, Nat.reduceBEq, Nat.reduceLeDiff, Nat.reduceAdd, Nat.reduceMul, Nat.reduceSub, Nat.reduceEqDiff, Int.reduceNeg, Int.reduceToNat, Int.reduceAdd, Int.reduceSub]; try exact rfl) (by simp only [go_sem, Nat.reduceLT, Nat.reduceBEq, Nat.reduceLeDiff, Nat.reduceAdd, Nat.reduceMul, Nat.reduceSub, Nat.reduceEqDiff, Int.reduceNeg, Int.reduceToNat, Int.reduceAdd, Int.reduceSub]; exact rfl) (by simp only [go_sem, Nat.reduceLT, Nat.reduceBEq, Nat.reduceLeDiff, Nat.reduceAdd, Nat.reduceMul, Nat.reduceSub, Nat.reduceEqDiff, Int.reduceNeg, Int.reduceToNat, Int.reduceAdd, Int.reduceSub]; exact rfl) ?_
          refine seg_skip .any (by simp only [go_sem, Nat.reduceLT, Nat.reduceBEq, Nat.reduceLeDiff, Nat.reduceAdd, Nat.reduceMul, Nat.reduceSub, Nat.reduceEqDiff, Int.reduceNeg, Int.reduceToNat, Int.reduceAdd, Int.reduceSub]; try exact rfl) (by simp only [go_sem, Nat.reduceLT, Nat.reduceBEq, Nat.reduceLeDiff, Nat.reduceAdd, Nat.reduceMul, Nat.reduceSub, Nat.reduceEqDiff, Int.reduceNeg, Int.reduceToNat, Int.reduceAdd, Int.reduceSub]; exact rfl) (by simp only [go_sem, Nat.reduceLT, Nat.reduceBEq, Nat.reduceLeDiff, Nat.reduceAdd, Nat.reduceMul, Nat.reduceSub, Nat.reduceEqDiff, Int.reduceNeg, Int.reduceToNat, Int.reduceAdd, Int.reduceSub]; exact rfl) ?_
          refine seg_skip .any (by simp only [go_sem, Nat.reduceLT, Nat.reduceBEq, Nat.reduceLeDiff, Nat.reduceAdd, Nat.reduceMul, Nat.reduceSub, Nat.reduceEqDiff, Int.reduceNeg, Int.reduceToNat, Int.reduceAdd, Int.reduceSub]; try exact rfl) (by simp only [go_sem, Nat.reduceLT, Nat.reduceBEq, Nat.reduceLeDiff, Nat.reduceAdd, Nat.reduceMul, Nat.reduceSub, Nat.reduceEqDiff, Int.reduceNeg, Int.reduceToNat, Int.reduceAdd, Int.reduceSub]; exact rfl) (by simp only [go_sem, Nat.reduceLT, Nat.reduceBEq, Nat.reduceLeDiff, Nat.reduceAdd, Nat.reduceMul, Nat.reduceSub, Nat.reduceEqDiff, Int.reduceNeg, Int.reduceToNat, Int.reduceAdd, Int.reduceSub]; exact rfl) ?_
          refine seg_skip .any (by simp only [go_sem, Nat.reduceLT, Nat.reduceBEq, Nat.reduceLeDiff, Nat.reduceAdd, Nat.reduceMul, Nat.reduceSub, Nat.reduceEqDiff, Int.reduceNeg, Int.reduceToNat, Int.reduceAdd, Int.reduceSub]; try exact rfl) (by simp only [go_sem, Nat.reduceLT, Nat.reduceBEq, Nat.reduceLeDiff, Nat.reduceAdd, Nat.reduceMul, Nat.reduceSub, Nat.reduceEqDiff, Int.reduceNeg, Int.reduceToNat, Int.reduceAdd, Int.reduceSub]; exact rfl) (by simp only [go_sem, Nat.reduceLT, Nat.reduceBEq, Nat.reduceLeDiff, Nat.reduceAdd, Nat.reduceMul, Nat.reduceSub, Nat.reduceEqDiff, Int.reduceNeg, Int.reduceToNat, Int.reduceAdd, Int.reduceSub]; exact rfl) ?_
          refine seg_skip .any (by simp only [go_sem, Nat.reduceLT, Nat.reduceBEq, Nat.reduceLeDiff, Nat.reduceAdd, Nat.reduceMul, Nat.reduceSub, Nat.reduceEqDiff, Int.reduceNeg, Int.reduceToNat, Int.reduceAdd, Int.reduceSub]; try exact rfl) (by simp only [go_sem, Nat.reduceLT, Nat.reduceBEq, Nat.reduceLeDiff, Nat.reduceAdd, Nat.reduceMul, Nat.reduceSub, Nat.reduceEqDiff, Int.reduceNeg, Int.reduceToNat, Int.reduceAdd, Int.reduceSub]; exact rfl) (by simp only [go_sem, Nat.reduceLT, Nat.reduceBEq, Nat.reduceLeDiff, Nat.reduceAdd, Nat.reduceMul, Nat.reduceSub, Nat.reduceEqDiff, Int.reduceNeg, Int.reduceToNat, Int.reduceAdd, Int.reduceSub]; exact rfl) ?_
          refine seg_skip .any (by simp only [go_sem, Nat.reduceLT, Nat.reduceBEq, Nat.reduceLeDiff, Nat.reduceAdd, Nat.reduceMul, Nat.reduceSub, Nat.reduceEqDiff, Int.reduceNeg, Int.reduceToNat, Int.reduceAdd, Int.reduceSub]; try exact rfl) (by simp only [go_sem, Nat.reduceLT, Nat.reduceBEq, Nat.reduceLeDiff, Nat.reduceAdd, Nat.reduceMul, Nat.reduceSub, Nat.reduceEqDiff, Int.reduceNeg, Int.reduceToNat, Int.reduceAdd, Int.reduceSub]; exact rfl) (by simp only [go_sem, Nat.reduceLT, Nat.reduceBEq, Nat.reduceLeDiff, Nat.reduceAdd, Nat.reduceMul, Nat.reduceSub, Nat.reduceEqDiff, Int.reduceNeg, Int.reduceToNat, Int.reduceAdd, Int.reduceSub]; exact rfl) ?_
          refine seg_skip .any (by simp only [go_sem, Nat.reduceLT, Nat.reduceBEq, Nat.reduceLeDiff, Nat.reduceAdd, Nat.reduceMul, Nat.reduceSub, Nat.reduceEqDiff, Int.reduceNeg, Int.reduceToNat, Int.reduceAdd, Int.reduceSub]; try exact rfl) (by simp only [go_sem, Nat.reduceLT, Nat.reduceBEq, Nat.reduceLeDiff, Nat.reduceAdd, Nat.reduceMul, Nat.reduceSub, Nat.reduceEqDiff, Int.reduceNeg, Int.reduceToNat, Int.reduceAdd, Int.reduceSub]; exact rfl) (by simp only [go_sem, Nat.reduceLT, Nat.reduceBEq, Nat.reduceLeDiff, Nat.reduceAdd, Nat.reduceMul, Nat.reduceSub, Nat.reduceEqDiff, Int.reduceNeg, Int.reduceToNat, Int.reduceAdd, Int.reduceSub]; exact rfl) ?_
          refine seg_skip .any (by simp only [go_sem, Nat.reduceLT, Nat.reduceBEq, Nat.reduceLeDiff, Nat.reduceAdd, Nat.reduceMul, Nat.reduceSub, Nat.reduceEqDiff, Int.reduceNeg, Int.reduceToNat, Int.reduceAdd, Int.reduceSub]; try exact rfl) (by simp only [go_sem, Nat.reduceLT, Nat.reduceBEq, Nat.reduceLeDiff, Nat.reduceAdd, Nat.reduceMul, Nat.reduceSub, Nat.reduceEqDiff, Int.reduceNeg, Int.reduceToNat, Int.reduceAdd, Int.reduceSub]; exact rfl) (by simp only [go_sem, Nat.reduceLT, Nat.reduceBEq, Nat.reduceLeDiff, Nat.reduceAdd, Nat.reduceMul, Nat.reduceSub, Nat.reduceEqDiff, Int.reduceNeg, Int.reduceToNat, Int.reduceAdd, Int.reduceSub]; exact rfl) ?_
          refine seg_skip .any (by simp only [go_sem, Nat.reduceLT, Nat.reduceBEq, Nat.reduceLeDiff, Nat.reduceAdd, Nat.reduceMul, Nat.reduceSub, Nat.reduceEqDiff, Int.reduceNeg, Int.reduceToNat, Int.reduceAdd, Int.reduceSub]; try exact rfl) (by simp only [go_sem, Nat.reduceLT, Nat.reduceBEq, Nat.reduceLeDiff, Nat.reduceAdd, Nat.reduceMul, Nat.reduceSub, Nat.reduceEqDiff, Int.reduceNeg, Int.reduceToNat, Int.reduceAdd, Int.reduceSub]; exact rfl) (by simp only [go_sem, Nat.reduceLT, Nat.reduceBEq, Nat.reduceLeDiff, Nat.reduceAdd, Nat.reduceMul, Nat.reduceSub, Nat.reduceEqDiff, Int.reduceNeg, Int.reduceToNat, Int.reduceAdd, Int.reduceSub]; exact rfl) ?_
          refine seg_skip .any (by simp only [go_sem, Nat.reduceLT, Nat.reduceBEq, Nat.reduceLeDiff, Nat.reduceAdd, Nat.reduceMul, Nat.reduceSub, Nat.reduceEqDiff, Int.reduceNeg, Int.reduceToNat, Int.reduceAdd, Int.reduceSub]; try exact rfl) (by simp only [go_sem, Nat.reduceLT, Nat.reduceBEq, Nat.reduceLeDiff, Nat.reduceAdd, Nat.reduceMul, Nat.reduceSub, Nat.reduceEqDiff, Int.reduceNeg, Int.reduceToNat, Int.reduceAdd, Int.reduceSub]; exact rfl) (by simp only [go_sem, Nat.reduceLT, Nat.reduceBEq, Nat.reduceLeDiff, Nat.reduceAdd, Nat.reduceMul, Nat.reduceSub, Nat.reduceEqDiff, Int.reduceNeg, Int.reduceToNat, Int.reduceAdd, Int.reduceSub]; exact rfl) ?_
          refine seg_skip .any (by simp only [go_sem, Nat.reduceLT, Nat.reduceBEq, Nat.reduceLeDiff, Nat.reduceAdd, Nat.reduceMul, Nat.reduceSub, Nat.reduceEqDiff, Int.reduceNeg, Int.reduceToNat, Int.reduceAdd, Int.reduceSub]; try exact rfl) (by simp only [go_sem, Nat.reduceLT, Nat.reduceBEq, Nat.reduceLeDiff, Nat.reduceAdd, Nat.reduceMul, Nat.reduceSub, Nat.reduceEqDiff, Int.reduceNeg, Int.reduceToNat, Int.reduceAdd, Int.reduceSub]; exact rfl) (by simp only [go_sem, Nat.reduceLT, Nat.reduceBEq, Nat.reduceLeDiff, Nat.reduceAdd, Nat.reduceMul, Nat.reduceSub, Nat.reduceEqDiff, Int.reduceNeg, Int.reduceToNat, Int.reduceAdd, Int.reduceSub]; exact rfl) ?_
          refine seg_skip .any (by simp only [go_sem, Nat.reduceLT, Nat.reduceBEq, Nat.reduceLeDiff, Nat.reduceAdd, Nat.reduceMul, Nat.reduceSub, Nat.reduceEqDiff, Int.reduceNeg, Int.reduceToNat, Int.reduceAdd, Int.reduceSub]; try exact rfl) (by simp only [go_sem, Nat.reduceLT, Nat.reduceBEq, Nat.reduceLeDiff, Nat.reduceAdd, Nat.reduceMul, Nat.reduceSub, Nat.reduceEqDiff, Int.reduceNeg, Int.reduceToNat, Int.reduceAdd, Int.reduceSub]; exact rfl) (by simp only [go_sem, Nat.reduceLT, Nat.reduceBEq, Nat.reduceLeDiff, Nat.reduceAdd, Nat.reduceMul, Nat.reduceSub, Nat.reduceEqDiff, Int.reduceNeg, Int.reduceToNat, Int.reduceAdd, Int.reduceSub]; exact rfl) ?_
          refine seg_skip .any (by simp only [go_sem, Nat.reduceLT, Nat.reduceBEq, Nat.reduceLeDiff, Nat.reduceAdd, Nat.reduceMul, Nat.reduceSub, Nat.reduceEqDiff, Int.reduceNeg, Int.reduceToNat, Int.reduceAdd, Int.reduceSub]; try exact rfl) (by simp only [go_sem, Nat.reduceLT, Nat.reduceBEq, Nat.reduceLeDiff, Nat.reduceAdd, Nat.reduceMul, Nat.reduceSub, Nat.reduceEqDiff, Int.reduceNeg, Int.reduceToNat, Int.reduceAdd, Int.reduceSub]; exact rfl) (by simp only [go_sem, Nat.reduceLT, Nat.reduceBEq, Nat.reduceLeDiff, Nat.reduceAdd, Nat.reduceMul, Nat.reduceSub, Nat.reduceEqDiff, Int.reduceNeg, Int.reduceToNat, Int.reduceAdd, Int.reduceSub]; exact rfl) ?_
          refine seg_skip (.bool false) (by simp only [go_sem, Nat.reduceLT, Nat.reduceBEq, Nat.reduceLeDiff, Nat.reduceAdd, Nat.reduceMul, Nat.reduceSub, Nat.reduceEqDiff, Int.reduceNeg, Int.reduceToNat, Int.reduceAdd, Int.reduceSub]; try exact rfl) (by simp only [go_sem, Nat.reduceLT, Nat.reduceBEq, Nat.reduceLeDiff, Nat.reduceAdd, Nat.reduceMul, Nat.reduceSub, Nat.reduceEqDiff, Int.reduceNeg, Int.reduceToNat, Int.reduceAdd, Int.reduceSub]; exact rfl) (by simp only [go_sem, Nat.reduceLT, Nat.reduceBEq, Nat.reduceLeDiff, Nat.reduceAdd, Nat.reduceMul, Nat.reduceSub, Nat.reduceEqDiff, Int.reduceNeg, Int.reduceToNat, Int.reduceAdd, Int.reduceSub]; exact rfl) ?_
          refine seg_runN tabOK 1 (by simp only [go_sem, Nat.reduceLT, Nat.reduceBEq, Nat.reduceLeDiff, Nat.reduceAdd, Nat.reduceMul, Nat.reduceSub, Nat.reduceEqDiff, Int.reduceNeg, Int.reduceToNat, Int.reduceAdd, Int.reduceSub]; exact rfl) (by simp only [go_sem, Nat.reduceLT, Nat.reduceBEq, Nat.reduceLeDiff, Nat.reduceAdd, Nat.reduceMul, Nat.reduceSub, Nat.reduceEqDiff, Int.reduceNeg, Int.reduceToNat, Int.reduceAdd, Int.reduceSub]; exact rfl) (by simp only [go_sem, Nat.reduceLT, Nat.reduceBEq, Nat.reduceLeDiff, Nat.reduceAdd, Nat.reduceMul, Nat.reduceSub, Nat.reduceEqDiff, Int.reduceNeg, Int.reduceToNat, Int.reduceAdd, Int.reduceSub]; try exact rfl) (by simp [go_sem]) (by simp only [go_sem, Nat.reduceLT, Nat.reduceBEq, Nat.reduceLeDiff, Nat.reduceAdd, Nat.reduceMul, Nat.reduceSub, Nat.reduceEqDiff, Int.reduceNeg, Int.reduceToNat, Int.reduceAdd, Int.reduceSub]; exact rfl) ?_
          refine seg_end (by kernel_rfl) (by simp only [go_sem, Nat.reduceLT, Nat.reduceBEq, Nat.reduceLeDiff, Nat.reduceAdd, Nat.reduceMul, Nat.reduceSub, Nat.reduceEqDiff, Int.reduceNeg, Int.reduceToNat, Int.reduceAdd, Int.reduceSub]; exact rfl) ?_
          refine draw_close (by kernel_rfl) ?_
          refine cw_condF (by simp only [go_sem, Nat.reduceLT, Nat.reduceBEq, Nat.reduceLeDiff, Nat.reduceAdd, Nat.reduceMul, Nat.reduceSub, Nat.reduceEqDiff, Int.reduceNeg, Int.reduceToNat, Int.reduceAdd, Int.reduceSub]; try exact rfl) trivial (by simp) ?_
          refine cw_go tabOK 99 (by simp only [go_sem, Nat.reduceLT, Nat.reduceBEq, Nat.reduceLeDiff, Nat.reduceAdd, Nat.reduceMul, Nat.reduceSub, Nat.reduceEqDiff, Int.reduceNeg, Int.reduceToNat, Int.reduceAdd, Int.reduceSub, hwk]; try exact rfl) (by simp [go_sem, hwk]) ?_
          refine cw_back ⟨1, ⟨by omega, fun j hj => by rw [show j = 0 by omega]; exact he⟩, by omega, le_sub ?_ ?_ ?_⟩
          · simp [go_sem, hwk]
          · simp [go_sem]
          · simp [go_sem]
        · have hwm : IntKind.i64.wrap ((k : Int) - 1) = ((k - 1 : Nat) : Int) := by rw [Eng.wrap_small (by omega) (by omega)]; omega
          have hgm : (x.entries.map entryRow).getD (k - 1) [] = entryRow (x.entries.getD (k - 1) default) := Fam.getD (by omega)
          have heB : entB x.entries k = decide ((x.entries.getD (k - 1) default).name < (x.entries.getD k default).name) := by
            simp [entB, hk0]
          have hyes : entB x.entries k = true → ∀ j, j < k + 1 → entB x.entries j = true := fun h0 j hj => by
            rcases Nat.lt_succ_iff_lt_or_eq.1 hj with h1 | rfl
            · exact hks j h1
            · exact h0
          have hno : entB x.entries k = false → nodeB l 0 = false := fun h0 => by
            cases e : nodeB l 0 with
            | false => rfl
            | true =>
              unfold nodeB at e
              rw [hxd] at e
              rw [List.all_eq_true.1 (Bool.and_eq_true_iff.1 e).2 k (List.mem_range.2 hklt)] at h0
              cases h0
          generalize x.entries.getD k default = u at hgk heB
          generalize x.entries.getD (k - 1) default = v at hgm heB
          refine cw_draw mixed ?_
          refine seg_start rfl ?_
          refine seg_runN tabOK 2 (by simp only [go_sem, Nat.reduceLT, Nat.reduceBEq, Nat.reduceLeDiff, Nat.reduceAdd, Nat.reduceMul, Nat.reduceSub, Nat.reduceEqDiff, Int.reduceNeg, Int.reduceToNat, Int.reduceAdd, Int.reduceSub]; exact rfl) (by simp only [go_sem, Nat.reduceLT, Nat.reduceBEq, Nat.reduceLeDiff, Nat.reduceAdd, Nat.reduceMul, Nat.reduceSub, Nat.reduceEqDiff, Int.reduceNeg, Int.reduceToNat, Int.reduceAdd, Int.reduceSub]; exact rfl) (by simp only [go_sem, Nat.reduceLT, Nat.reduceBEq, Nat.reduceLeDiff, Nat.reduceAdd, Nat.reduceMul, Nat.reduceSub, Nat.reduceEqDiff, Int.reduceNeg, Int.reduceToNat, Int.reduceAdd, Int.reduceSub]; try exact rfl) (by simp [go_sem]) (by simp only [go_sem, Nat.reduceLT, Nat.reduceBEq, Nat.reduceLeDiff, Nat.reduceAdd, Nat.reduceMul, Nat.reduceSub, Nat.reduceEqDiff, Int.reduceNeg, Int.reduceToNat, Int.reduceAdd, Int.reduceSub]; exact rfl) ?_
          refine seg_name 33 (by simp only [go_sem, Nat.reduceLT, Nat.reduceBEq, Nat.reduceLeDiff, Nat.reduceAdd, Nat.reduceMul, Nat.reduceSub, Nat.reduceEqDiff, Int.reduceNeg, Int.reduceToNat, Int.reduceAdd, Int.reduceSub]; exact rfl) (fun c33 h33 => ?_)
          simp only [go_sem, Nat.reduceLT, Nat.reduceBEq, Nat.reduceLeDiff, Nat.reduceAdd, Nat.reduceMul, Nat.reduceSub, Nat.reduceEqDiff, Int.reduceNeg, Int.reduceToNat, Int.reduceAdd, Int.reduceSub]
          have hc : c33 = true := by rw [← h33]; simp; omega
          subst hc
          refine seg_runN tabOK 16 (by simp only [go_sem, Nat.reduceLT, Nat.reduceBEq, Nat.reduceLeDiff, Nat.reduceAdd, Nat.reduceMul, Nat.reduceSub, Nat.reduceEqDiff, Int.reduceNeg, Int.reduceToNat, Int.reduceAdd, Int.reduceSub]; exact rfl) (by simp only [go_sem, Nat.reduceLT, Nat.reduceBEq, Nat.reduceLeDiff, Nat.reduceAdd, Nat.reduceMul, Nat.reduceSub, Nat.reduceEqDiff, Int.reduceNeg, Int.reduceToNat, Int.reduceAdd, Int.reduceSub]; exact rfl) (by simp only [go_sem, Nat.reduceLT, Nat.reduceBEq, Nat.reduceLeDiff, Nat.reduceAdd, Nat.reduceMul, Nat.reduceSub, Nat.reduceEqDiff, Int.reduceNeg, Int.reduceToNat, Int.reduceAdd, Int.reduceSub, hwm, hgk, hgm, entryRow]; try exact rfl) ?_ (by simp only [go_sem, Nat.reduceLT, Nat.reduceBEq, Nat.reduceLeDiff, Nat.reduceAdd, Nat.reduceMul, Nat.reduceSub, Nat.reduceEqDiff, Int.reduceNeg, Int.reduceToNat, Int.reduceAdd, Int.reduceSub]; exact rfl) ?_
          · simp [hwm, hgk, hgm, entryRow]; omega
          refine seg_end (by kernel_rfl) (by simp only [go_sem, Nat.reduceLT, Nat.reduceBEq, Nat.reduceLeDiff, Nat.reduceAdd, Nat.reduceMul, Nat.reduceSub, Nat.reduceEqDiff, Int.reduceNeg, Int.reduceToNat, Int.reduceAdd, Int.reduceSub]; exact rfl) ?_
          refine draw_close (by kernel_rfl) ?_
          have hb : (!Op.bytesLess v.name u.name) = !entB x.entries k := by rw [less_iff, heB]
          simp only [go_sem, Nat.reduceLT, Nat.reduceBEq, Nat.reduceLeDiff, Nat.reduceAdd, Nat.reduceMul, Nat.reduceSub, Nat.reduceEqDiff, Int.reduceNeg, Int.reduceToNat, Int.reduceAdd, Int.reduceSub, hwm, hb]
          refine cw_cond (by simp only [go_sem, Nat.reduceLT, Nat.reduceBEq, Nat.reduceLeDiff, Nat.reduceAdd, Nat.reduceMul, Nat.reduceSub, Nat.reduceEqDiff, Int.reduceNeg, Int.reduceToNat, Int.reduceAdd, Int.reduceSub]; try exact rfl) trivial (fun h => ?_) (fun h => ?_)
          · have h0 : entB x.entries k = false := by simpa using h
            have := risesB_no hlt (hno h0)
            refine cw_go tabOK 99 (by simp only [go_sem, Nat.reduceLT, Nat.reduceBEq, Nat.reduceLeDiff, Nat.reduceAdd, Nat.reduceMul, Nat.reduceSub, Nat.reduceEqDiff, Int.reduceNeg, Int.reduceToNat, Int.reduceAdd, Int.reduceSub]; try exact rfl) (by simp [go_sem]) ?_
            refine cw_ret ⟨_, _, (by simp only [go_sem, Nat.reduceLT, Nat.reduceBEq, Nat.reduceLeDiff, Nat.reduceAdd, Nat.reduceMul, Nat.reduceSub, Nat.reduceEqDiff, Int.reduceNeg, Int.reduceToNat, Int.reduceAdd, Int.reduceSub]; try exact rfl), by simp [go_sem], _, .inr (.inl rfl), ?_⟩
            simp [this]
          · have h0 : entB x.entries k = true := by simpa using h
            refine cw_go tabOK 99 (by simp only [go_sem, Nat.reduceLT, Nat.reduceBEq, Nat.reduceLeDiff, Nat.reduceAdd, Nat.reduceMul, Nat.reduceSub, Nat.reduceEqDiff, Int.reduceNeg, Int.reduceToNat, Int.reduceAdd, Int.reduceSub, hwk]; try exact rfl) (by simp [go_sem, hwk]) ?_
            refine cw_back ⟨k + 1, ⟨by omega, hyes h0⟩, by omega, le_sub ?_ ?_ ?_⟩
            · simp [go_sem, hwk]
            · simp [go_sem]
            · simp [go_sem]
      · have e : k = x.entries.length := by simp at h; omega
        have hnB : nodeB l 0 = true := by
          unfold nodeB
          rw [hxd, hst, Bool.true_and]
          exact List.all_eq_true.2 fun j hj => hks j (by rw [e]; exact List.mem_range.1 hj)
        have hw : IntKind.i64.wrap (((0 : Nat) : Int) + 1) = ((0 + 1 : Nat) : Int) := by rw [Eng.wrap_small (by omega) (by omega)]; rfl
        refine cw_go tabOK 99 (by simp only [go_sem, Nat.reduceLT, Nat.reduceBEq, Nat.reduceLeDiff, Nat.reduceAdd, Nat.reduceMul, Nat.reduceSub, Nat.reduceEqDiff, Int.reduceNeg, Int.reduceToNat, Int.reduceAdd, Int.reduceSub, hw]; try exact rfl) (by simp [go_sem, hw]) ?_
        refine cw_back ⟨0 + 1, ⟨by omega, fun j hj => ?_⟩, by omega, le_sub ?_ ?_ ?_⟩
        · rcases Nat.lt_succ_iff_lt_or_eq.1 hj with h1 | rfl
          · exact hs j h1
          · exact hnB
        · first | (simp [go_sem, hw]; done) | (simp [go_sem]; rfl)
        · simp [go_sem]
        · simp [go_sem]
    · have hwm : IntKind.i64.wrap ((i : Int) - 1) = ((i - 1 : Nat) : Int) := by rw [Eng.wrap_small (by omega) (by omega)]; omega
      have hgm : (l.map nodeRow).getD (i - 1) [] = nodeRow (l.getD (i - 1) default) := Fam.getD (by omega)
      have hsB := hsB hi0
      generalize l.getD (i - 1) default = y at hgm hsB
      refine cw_draw mixed ?_
      refine seg_start rfl ?_
      refine seg_runN tabOK 2 (by simp only [go_sem, Nat.reduceLT, Nat.reduceBEq, Nat.reduceLeDiff, Nat.reduceAdd, Nat.reduceMul, Nat.reduceSub, Nat.reduceEqDiff, Int.reduceNeg, Int.reduceToNat, Int.reduceAdd, Int.reduceSub]; exact rfl) (by simp only [go_sem, Nat.reduceLT, Nat.reduceBEq, Nat.reduceLeDiff, Nat.reduceAdd, Nat.reduceMul, Nat.reduceSub, Nat.reduceEqDiff, Int.reduceNeg, Int.reduceToNat, Int.reduceAdd, Int.reduceSub]; exact rfl) (by simp only [go_sem, Nat.reduceLT, Nat.reduceBEq, Nat.reduceLeDiff, Nat.reduceAdd, Nat.reduceMul, Nat.reduceSub, Nat.reduceEqDiff, Int.reduceNeg, Int.reduceToNat, Int.reduceAdd, Int.reduceSub]; try exact rfl) (by simp [go_sem]) (by simp only [go_sem, Nat.reduceLT, Nat.reduceBEq, Nat.reduceLeDiff, Nat.reduceAdd, Nat.reduceMul, Nat.reduceSub, Nat.reduceEqDiff, Int.reduceNeg, Int.reduceToNat, Int.reduceAdd, Int.reduceSub]; exact rfl) ?_
      refine seg_name 14 (by simp only [go_sem, Nat.reduceLT, Nat.reduceBEq, Nat.reduceLeDiff, Nat.reduceAdd, Nat.reduceMul, Nat.reduceSub, Nat.reduceEqDiff, Int.reduceNeg, Int.reduceToNat, Int.reduceAdd, Int.reduceSub]; exact rfl) (fun c14 h14 => ?_)
      simp only [go_sem, Nat.reduceLT, Nat.reduceBEq, Nat.reduceLeDiff, Nat.reduceAdd, Nat.reduceMul, Nat.reduceSub, Nat.reduceEqDiff, Int.reduceNeg, Int.reduceToNat, Int.reduceAdd, Int.reduceSub]
      have hc : c14 = true := by rw [← h14]; simp; omega
      subst hc
      refine seg_runN tabOK 11 (by simp only [go_sem, Nat.reduceLT, Nat.reduceBEq, Nat.reduceLeDiff, Nat.reduceAdd, Nat.reduceMul, Nat.reduceSub, Nat.reduceEqDiff, Int.reduceNeg, Int.reduceToNat, Int.reduceAdd, Int.reduceSub]; exact rfl) (by simp only [go_sem, Nat.reduceLT, Nat.reduceBEq, Nat.reduceLeDiff, Nat.reduceAdd, Nat.reduceMul, Nat.reduceSub, Nat.reduceEqDiff, Int.reduceNeg, Int.reduceToNat, Int.reduceAdd, Int.reduceSub]; exact rfl) (by simp only [go_sem, Nat.reduceLT, Nat.reduceBEq, Nat.reduceLeDiff, Nat.reduceAdd, Nat.reduceMul, Nat.reduceSub, Nat.reduceEqDiff, Int.reduceNeg, Int.reduceToNat, Int.reduceAdd, Int.reduceSub, hwm, hgm, nodeRow]; try exact rfl) ?_ (by simp only [go_sem, Nat.reduceLT, Nat.reduceBEq, Nat.reduceLeDiff, Nat.reduceAdd, Nat.reduceMul, Nat.reduceSub, Nat.reduceEqDiff, Int.reduceNeg, Int.reduceToNat, Int.reduceAdd, Int.reduceSub]; exact rfl) ?_
      · simp [hwm, hgm, nodeRow]; omega
      refine seg_end (by kernel_rfl) (by simp only [go_sem, Nat.reduceLT, Nat.reduceBEq, Nat.reduceLeDiff, Nat.reduceAdd, Nat.reduceMul, Nat.reduceSub, Nat.reduceEqDiff, Int.reduceNeg, Int.reduceToNat, Int.reduceAdd, Int.reduceSub]; exact rfl) ?_
      refine draw_close (by kernel_rfl) ?_
      have hb : decide (y.fid ≥ x.fid) = !stepB l i := by
        rw [hsB, Bool.eq_iff_iff]; simp
      simp only [go_sem, Nat.reduceLT, Nat.reduceBEq, Nat.reduceLeDiff, Nat.reduceAdd, Nat.reduceMul, Nat.reduceSub, Nat.reduceEqDiff, Int.reduceNeg, Int.reduceToNat, Int.reduceAdd, Int.reduceSub, hwm, hb]
      refine cw_cond (by simp only [go_sem, Nat.reduceLT, Nat.reduceBEq, Nat.reduceLeDiff, Nat.reduceAdd, Nat.reduceMul, Nat.reduceSub, Nat.reduceEqDiff, Int.reduceNeg, Int.reduceToNat, Int.reduceAdd, Int.reduceSub]; try exact rfl) trivial (fun h => ?_) (fun h => ?_)
      · have h0 : stepB l i = false := by simpa using h
        have := risesB_no hlt (hno h0)
        refine cw_go tabOK 99 (by simp only [go_sem, Nat.reduceLT, Nat.reduceBEq, Nat.reduceLeDiff, Nat.reduceAdd, Nat.reduceMul, Nat.reduceSub, Nat.reduceEqDiff, Int.reduceNeg, Int.reduceToNat, Int.reduceAdd, Int.reduceSub]; try exact rfl) (by simp [go_sem]) ?_
        refine cw_ret ⟨_, _, (by simp only [go_sem, Nat.reduceLT, Nat.reduceBEq, Nat.reduceLeDiff, Nat.reduceAdd, Nat.reduceMul, Nat.reduceSub, Nat.reduceEqDiff, Int.reduceNeg, Int.reduceToNat, Int.reduceAdd, Int.reduceSub]; try exact rfl), by simp [go_sem], _, .inr (.inl rfl), ?_⟩
        simp [this]
      · have hst : stepB l i = true := by simpa using h
        clear h14
        refine cw_go tabOK 99 (by simp only [go_sem, Nat.reduceLT, Nat.reduceBEq, Nat.reduceLeDiff, Nat.reduceAdd, Nat.reduceMul, Nat.reduceSub, Nat.reduceEqDiff, Int.reduceNeg, Int.reduceToNat, Int.reduceAdd, Int.reduceSub]; try exact rfl) (by simp [go_sem]) ?_
        refine cw_loopS (fun k : Nat => k ≤ x.entries.length ∧ ∀ j, j < k → entB x.entries j = true) (fun k => x.entries.length - k) (fun k => [(5, .any), (29, .int .i64 k), (30, .any), (31, .any), (32, .any), (33, .any), (34, .any), (35, .any), (36, .any), (37, .any), (38, .any), (39, .any), (40, .any), (41, .any), (42, .any), (43, .any), (44, .any), (45, .any), (46, .any), (47, .any), (48, .any), (49, .any)]) (fun _ => []) 0 ⟨by omega, by omega⟩ ?_ fun k hk => ?_
        · simp only [go_sem, Nat.reduceLT, Nat.reduceBEq, Nat.reduceLeDiff, Nat.reduceAdd, Nat.reduceMul, Nat.reduceSub, Nat.reduceEqDiff, Int.reduceNeg, Int.reduceToNat, Int.reduceAdd, Int.reduceSub]
          exact le_sub (by simp [go_sem]) (by simp [go_sem]) (by simp [go_sem])
        obtain ⟨hk, hks⟩ := hk
        simp only [go_sem, Nat.reduceLT, Nat.reduceBEq, Nat.reduceLeDiff, Nat.reduceAdd, Nat.reduceMul, Nat.reduceSub, Nat.reduceEqDiff, Int.reduceNeg, Int.reduceToNat, Int.reduceAdd, Int.reduceSub]
        refine cw_go tabOK 99 (by simp only [go_sem, Nat.reduceLT, Nat.reduceBEq, Nat.reduceLeDiff, Nat.reduceAdd, Nat.reduceMul, Nat.reduceSub, Nat.reduceEqDiff, Int.reduceNeg, Int.reduceToNat, Int.reduceAdd, Int.reduceSub]; try exact rfl) (by simp [go_sem]) ?_
        refine cw_cond (by simp only [go_sem, Nat.reduceLT, Nat.reduceBEq, Nat.reduceLeDiff, Nat.reduceAdd, Nat.reduceMul, Nat.reduceSub, Nat.reduceEqDiff, Int.reduceNeg, Int.reduceToNat, Int.reduceAdd, Int.reduceSub]; try exact rfl) trivial (fun h => ?_) (fun h => ?_)
        · have hklt : k < x.entries.length := by simp at h; omega
          have hgk : (x.entries.map entryRow).getD k [] = entryRow (x.entries.getD k default) := Fam.getD hklt
          have hwk : IntKind.i64.wrap ((k : Int) + 1) = ((k + 1 : Nat) : Int) := by rw [Eng.wrap_small (by omega) (by omega)]; rfl
          refine cw_go tabOK 99 (by simp only [go_sem, Nat.reduceLT, Nat.reduceBEq, Nat.reduceLeDiff, Nat.reduceAdd, Nat.reduceMul, Nat.reduceSub, Nat.reduceEqDiff, Int.reduceNeg, Int.reduceToNat, Int.reduceAdd, Int.reduceSub]; try exact rfl) (by simp [go_sem]) ?_
          by_cases hk0 : k = 0
          · subst hk0
            have he : entB x.entries 0 = true := rfl
            refine cw_draw mixed ?_
            refine seg_start rfl ?_
            refine seg_runN tabOK 3 (by simp only [go_sem, Nat.reduceLT, Nat.reduceBEq, Nat.reduceLeDiff, Nat.reduceAdd, Nat.reduceMul, Nat.reduceSub, Nat.reduceEqDiff, Int.reduceNeg, Int.reduceToNat, Int.reduceAdd, Int.reduceSub]; exact rfl) (by simp only [go_sem, Nat.reduceLT, Nat.reduceBEq, Nat.reduceLeDiff, Nat.reduceAdd, Nat.reduceMul, Nat.reduceSub, Nat.reduceEqDiff, Int.reduceNeg, Int.reduceToNat, Int.reduceAdd, Int.reduceSub]; exact rfl) (by simp only [go_sem, Nat.reduceLT, Nat.reduceBEq, Nat.reduceLeDiff, Nat.reduceAdd, Nat.reduceMul, Nat.reduceSub, Nat.reduceEqDiff, Int.reduceNeg, Int.reduceToNat, Int.reduceAdd, Int.reduceSub]; try exact rfl) (by simp [go_sem]) (by simp only [go_sem, Nat.reduceLT, Nat.reduceBEq, Nat.reduceLeDiff, Nat.reduceAdd, Nat.reduceMul, Nat.reduceSub, Nat.reduceEqDiff, Int.reduceNeg, Int.reduceToNat, Int.reduceAdd, Int.reduceSub]; exact rfl) ?_
            refine seg_skip .any (by simp only [go_sem, Nat.reduceLT, Nat.reduceBEq, Nat.reduceLeDiff, Nat.reduceAdd, Nat.reduceMul, Nat.reduceSub, Nat.reduceEqDiff, Int.reduceNeg, Int.reduceToNat, Int.reduceAdd, Int.reduceSub]; try exact rfl) (by simp only [go_sem, Nat.reduceLT, Nat.reduceBEq, Nat.reduceLeDiff, Nat.reduceAdd, Nat.reduceMul, Nat.reduceSub, Nat.reduceEqDiff, Int.reduceNeg, Int.reduceToNat, Int.reduceAdd, Int.reduceSub]; exact rfl) (by simp only [go_sem, Nat.reduceLT, Nat.reduceBEq, Nat.reduceLeDiff, Nat.reduceAdd, Nat.reduceMul, Nat.reduceSub, Nat.reduceEqDiff, Int.reduceNeg, Int.reduceToNat, Int.reduceAdd, Int.reduceSub]; exact rfl) ?_
            refine seg_skip .any (by simp only [go_sem, Nat.reduceLT, Nat.reduceBEq, Nat.reduceLeDiff, Nat.reduceAdd, Nat.reduceMul, Nat.reduceSub, Nat.reduceEqDiff, Int.reduceNeg, Int.reduceToNat, Int.reduceAdd, Int.reduceSub]; try exact rfl) (by simp only [go_sem, Nat.reduceLT, Nat.reduceBEq, Nat.reduceLeDiff, Nat.reduceAdd, Nat.reduceMul, Nat.reduceSub, Nat.reduceEqDiff, Int.reduceNeg, Int.reduceToNat, Int.reduceAdd, Int.reduceSub]; exact rfl) (by simp only [go_sem, Nat.reduceLT, Nat.reduceBEq, Nat.reduceLeDiff, Nat.reduceAdd, Nat.reduceMul, Nat.reduceSub, Nat.reduceEqDiff, Int.reduceNeg, Int.reduceToNat, Int.reduceAdd, Int.reduceSub]; exact rfl) ?_
            refine seg_skip .any (by simp only [go_sem, Nat.reduceLT, Nat.reduceBEq, Nat.reduceLeDiff, Nat.reduceAdd, Nat.reduceMul, Nat.reduceSub, Nat.reduceEqDiff, Int.reduceNeg, Int.reduceToNat, Int.reduceAdd, Int.reduceSub]; try exact rfl) (by simp only [go_sem, Nat.reduceLT, Nat.reduceBEq, Nat.reduceLeDiff, Nat.reduceAdd, Nat.reduceMul, Nat.reduceSub, Nat.reduceEqDiff, Int.reduceNeg, Int.reduceToNat, Int.reduceAdd, Int.reduceSub]; exact rfl) (by simp only [go_sem, Nat.reduceLT, Nat.reduceBEq, Nat.reduceLeDiff, Nat.reduceAdd, Nat.reduceMul, Nat.reduceSub, Nat.reduceEqDiff, Int.reduceNeg, Int.reduceToNat, Int.reduceAdd, Int.reduceSub]; exact rfl) ?_
            refine seg_skip .any (by simp only [go_sem, Nat.reduceLT, Nat.reduceBEq, Nat.reduceLeDiff, Nat.reduceAdd, Nat.reduceMul, Nat.reduceSub, Nat.reduceEqDiff, Int.reduceNeg, Int.reduceToNat, Int.reduceAdd, Int.reduceSub]; try exact rfl) (by simp only [go_sem, Nat.reduceLT, Nat.reduceBEq, Nat.reduceLeDiff, Nat.reduceAdd, Nat.reduceMul, Nat.reduceSub, Nat.reduceEqDiff, Int.reduceNeg, Int.reduceToNat, Int.reduceAdd, Int.reduceSub]; exact rfl) (by simp only [go_sem, Nat.reduceLT, Nat.reduceBEq, Nat.reduceLeDiff, Nat.reduceAdd, Nat.reduceMul, Nat.reduceSub, Nat.reduceEqDiff, Int.reduceNeg, Int.reduceToNat, Int.reduceAdd, Int.reduceSub]; exact rfl) ?_
            refine seg_skip .any (by simp only [go_sem, Nat.reduceLT, Nat.reduceBEq, Nat.reduceLeDiff, Nat.reduceAdd, Nat.reduceMul, Nat.reduceSub, Nat.reduceEqDiff, Int.reduceNeg, Int.reduceToNat, Int.reduceAdd, Int.reduceSub]; try exact rfl) (by simp only [go_sem, Nat.reduceLT, Nat.reduceBEq, Nat.reduceLeDiff, Nat.reduceAdd, Nat.reduceMul, Nat.reduceSub, Nat.reduceEqDiff, Int.reduceNeg, Int.reduceToNat, Int.reduceAdd, Int.reduceSub]; exact rfl) (by simp only [go_sem, Nat.reduceLT, Nat.reduceBEq, Nat.reduceLeDiff, Nat.reduceAdd, Nat.reduceMul, Nat.reduceSub, Nat.reduceEqDiff, Int.reduceNeg, Int.reduceToNat, Int.reduceAdd, Int.reduceSub]; exact rfl) ?_
            refine seg_skip .any (by simp only [go_sem, Nat.reduceLT, Nat.reduceBEq, Nat.reduceLeDiff, Nat.reduceAdd, Nat.reduceMul, Nat.reduceSub, Nat.reduceEqDiff, Int.reduceNeg, Int.reduceToNat, Int.reduceAdd, Int.reduceSub]; try exact rfl) (by simp only [go_sem, Nat.reduceLT, Nat.reduceBEq, Nat.reduceLeDiff, Nat.reduceAdd, Nat.reduceMul, Nat.reduceSub, Nat.reduceEqDiff, Int.reduceNeg, Int.reduceToNat, Int.reduceAdd, Int.reduceSub]; exact rfl) (by simp only [go_sem, Nat.reduceLT, Nat.reduceBEq, Nat.reduceLeDiff, Nat.reduceAdd, Nat.reduceMul, Nat.reduceSub, Nat.reduceEqDiff, Int.reduceNeg, Int.reduceToNat, Int.reduceAdd, Int.reduceSub]; exact rfl) ?_
            refine seg_skip .any (by simp only [go_sem, Nat.reduceLT, Nat.reduceBEq, Nat.reduceLeDiff, Nat.reduceAdd, Nat.reduceMul, Nat.reduceSub, Nat.reduceEqDiff, Int.reduceNeg, Int.reduceToNat, Int.reduceAdd, Int.reduceSub]; try exact rfl) (by simp only [go_sem, Nat.reduceLT, Nat.reduceBEq, Nat.reduceLeDiff, Nat.reduceAdd, Nat.reduceMul, Nat.reduceSub, Nat.reduceEqDiff, Int.reduceNeg, Int.reduceToNat, Int.reduceAdd, Int.reduceSub]; exact rfl) (by simp only [go_sem, Nat.reduceLT, Nat.reduceBEq, Nat.reduceLeDiff, Nat.reduceAdd, Nat.reduceMul, Nat.reduceSub, Nat.reduceEqDiff, Int.reduceNeg, Int.reduceToNat, Int.reduceAdd, Int.reduceSub]; exact rfl) ?_
            refine seg_skip .any (by simp only [go_sem, Nat.reduceLT, Nat.reduceBEq, Nat.reduceLeDiff, Nat.reduceAdd, Nat.reduceMul, Nat.reduceSub, Nat.reduceEqDiff, Int.reduceNeg, Int.reduceToNat, Int.reduceAdd, Int.reduceSub]; try exact rfl) (by simp only [go_sem, Nat.reduceLT, Nat.reduceBEq, Nat.reduceLeDiff, Nat.reduceAdd, Nat.reduceMul, Nat.reduceSub, Nat.reduceEqDiff, Int.reduceNeg, Int.reduceToNat, Int.reduceAdd, Int.reduceSub]; exact rfl) (by simp only [go_sem, Nat.reduceLT, Nat.reduceBEq, Nat.reduceLeDiff, Nat.reduceAdd, Nat.reduceMul, Nat.reduceSub, Nat.reduceEqDiff, Int.reduceNeg, Int.reduceToNat, Int.reduceAdd, Int.reduceSub]; exact rfl) ?_
            refine seg_skip .any (by simp only [go_sem, Nat.reduceLT, Nat.reduceBEq, Nat.reduceLeDiff, Nat.reduceAdd, Nat.reduceMul, Nat.reduceSub, Nat.reduceEqDiff, Int.reduceNeg, Int.reduceToNat, Int.reduceAdd, Int.reduceSub]; try exact rfl) (by simp only [go_sem, Nat.reduceLT, Nat.reduceBEq, Nat.reduceLeDiff, Nat.reduceAdd, Nat.reduceMul, Nat.reduceSub, Nat.reduceEqDiff, Int.reduceNeg, Int.reduceToNat, Int.reduceAdd, Int.reduceSub]; exact rfl) (by simp only [go_sem, Nat.reduceLT, Nat.reduceBEq, Nat.reduceLeDiff, Nat.reduceAdd, Nat.reduceMul, Nat.reduceSub, Nat.reduceEqDiff, Int.reduceNeg, Int.reduceToNat, Int.reduceAdd, Int.reduceSub]; exact rfl) ?_
            refine seg_skip .any (by simp only [go_sem, Nat.reduceLT, Nat.reduceBEq, Nat.reduceLeDiff, Nat.reduceAdd, Nat.reduceMul, Nat.reduceSub, Nat.reduceEqDiff, Int.reduceNeg, Int.reduceToNat, Int.reduceAdd, Int.reduceSub]; try exact rfl) (by simp only [go_sem, Nat.reduceLT, Nat.reduceBEq, Nat.reduceLeDiff, Nat.reduceAdd, Nat.reduceMul, Nat.reduceSub, Nat.reduceEqDiff, Int.reduceNeg, Int.reduceToNat, Int.reduceAdd, Int.reduceSub]; exact rfl) (by simp only [go_sem, Nat.reduceLT, Nat.reduceBEq, Nat.reduceLeDiff, Nat.reduceAdd, Nat.reduceMul, Nat.reduceSub, Nat.reduceEqDiff, Int.reduceNeg, Int.reduceToNat, Int.reduceAdd, Int.reduceSub]; exact rfl) ?_
            refine seg_skip .any (by simp only [go_sem, Nat.reduceLT, Nat.reduceBEq, Nat.reduceLeDiff, Nat.reduceAdd, Nat.reduceMul, Nat.reduceSub, Nat.reduceEqDiff, Int.reduceNeg, Int.reduceToNat, Int.reduceAdd, Int.reduceSub]; try exact rfl) (by simp only [go_sem, Nat.reduceLT, Nat.reduceBEq, Nat.reduceLeDiff, Nat.reduceAdd, Nat.reduceMul, Nat.reduceSub, Nat.reduceEqDiff, Int.reduceNeg, Int.reduceToNat, Int.reduceAdd, Int.reduceSub]; exact rfl) (by simp only [go_sem, Nat.reduceLT, Nat.reduceBEq, Nat.reduceLeDiff, Nat.reduceAdd, Nat.reduceMul, Nat.reduceSub, Nat.reduceEqDiff, Int.reduceNeg, Int.reduceToNat, Int.reduceAdd, Int.reduceSub]; exact rfl) ?_
            refine seg_skip .any (by simp only [go_sem, Nat.reduceLT, Nat.reduceBEq, Nat.reduceLeDiff, Nat.reduceAdd, Nat.reduceMul, Nat.reduceSub, Nat.reduceEqDiff, Int.reduceNeg, Int.reduceToNat, Int.reduceAdd, Int.reduceSub]; try exact rfl) (by simp only [go_sem, Nat.reduceLT, Nat.reduceBEq, Nat.reduceLeDiff, Nat.reduceAdd, Nat.reduceMul, Nat.reduceSub, Nat.reduceEqDiff, Int.reduceNeg, Int.reduceToNat, Int.reduceAdd, Int.reduceSub]; exact rfl) (by simp only [go_sem, Nat.reduceLT, Nat.reduceBEq, Nat.reduceLeDiff, Nat.reduceAdd, Nat.reduceMul, Nat.reduceSub, Nat.reduceEqDiff, Int.reduceNeg, Int.reduceToNat, Int.reduceAdd, Int.reduceSub]; exact rfl) ?_
            refine seg_skip .any (by simp only [go_sem, Nat.reduceLT, Nat.reduceBEq, Nat.reduceLeDiff, Nat.reduceAdd, Nat.reduceMul, Nat.reduceSub, Nat.reduceEqDiff, Int.reduceNeg, Int.reduceToNat, Int.reduceAdd, Int.reduceSub]; try exact rfl) (by simp only [go_sem, Nat.reduceLT, Nat.reduceBEq, Nat.reduceLeDiff, Nat.reduceAdd, Nat.reduceMul, Nat.reduceSub, Nat.reduceEqDiff, Int.reduceNeg, Int.reduceToNat, Int.reduceAdd, Int.reduceSub]; exact rfl) (by simp only [go_sem, Nat.reduceLT, Nat.reduceBEq, Nat.reduceLeDiff, Nat.reduceAdd, Nat.reduceMul, Nat.reduceSub, Nat.reduceEqDiff, Int.reduceNeg, Int.reduceToNat, Int.reduceAdd, Int.reduceSub]; exact rfl) ?_
            refine seg_skip (.bool false) (by simp only [go_sem, Nat.reduceLT, Nat.reduceBEq, Nat.reduceLeDiff, Nat.reduceAdd, Nat.reduceMul, Nat.reduceSub, Nat.reduceEqDiff, Int.reduceNeg, Int.reduceToNat, Int.reduceAdd, Int.reduceSub]; try exact rfl) (by simp only [go_sem, Nat.reduceLT, Nat.reduceBEq, Nat.reduceLeDiff, Nat.reduceAdd, Nat.reduceMul, Nat.reduceSub, Nat.reduceEqDiff, Int.reduceNeg, Int.reduceToNat, Int.reduceAdd, Int.reduceSub]; exact rfl) (by simp only [go_sem, Nat.reduceLT, Nat.reduceBEq, Nat.reduceLeDiff, Nat.reduceAdd, Nat.reduceMul, Nat.reduceSub, Nat.reduceEqDiff, Int.reduceNeg, Int.reduceToNat, Int.reduceAdd, Int.reduceSub]; exact rfl) ?_
            refine seg_runN tabOK 1 (by simp only [go_sem, Nat.reduceLT, Nat.reduceBEq, Nat.reduceLeDiff, Nat.reduceAdd, Nat.reduceMul, Nat.reduceSub, Nat.reduceEqDiff, Int.reduceNeg, Int.reduceToNat, Int.reduceAdd, Int.reduceSub]; exact rfl) (by simp only [go_sem, Nat.reduceLT, Nat.reduceBEq, Nat.reduceLeDiff, Nat.reduceAdd, Nat.reduceMul, Nat.reduceSub, Nat.reduceEqDiff, Int.reduceNeg, Int.reduceToNat, Int.reduceAdd, Int.reduceSub]; exact rfl) (by simp only [go_sem, Nat.reduceLT, Nat.reduceBEq, Nat.reduceLeDiff, Nat.reduceAdd, Nat.reduceMul, Nat.reduceSub, Nat.reduceEqDiff, Int.reduceNeg, Int.reduceToNat, Int.reduceAdd, Int.reduceSub]; try exact rfl) (by simp [go_sem]) (by simp only [go_sem, Nat.reduceLT, Nat.reduceBEq, Nat.reduceLeDiff, Nat.reduceAdd, Nat.reduceMul, Nat.reduceSub, Nat.reduceEqDiff, Int.reduceNeg, Int.reduceToNat, Int.reduceAdd, Int.reduceSub]; exact rfl) ?_
            refine seg_end (by kernel_rfl) (by simp only [go_sem, Nat.reduceLT, Nat.reduceBEq, Nat.reduceLeDiff, Nat.reduceAdd, Nat.reduceMul, Nat.reduceSub, Nat.reduceEqDiff, Int.reduceNeg, Int.reduceToNat, Int.reduceAdd, Int.reduceSub]; exact rfl) ?_
            refine draw_close (by kernel_rfl) ?_
            refine cw_condF (by simp only [go_sem, Nat.reduceLT, Nat.reduceBEq, Nat.reduceLeDiff, Nat.reduceAdd, Nat.reduceMul, Nat.reduceSub, Nat.reduceEqDiff, Int.reduceNeg, Int.reduceToNat, Int.reduceAdd, Int.reduceSub]; try exact rfl) trivial (by simp) ?_
            refine cw_go tabOK 99 (by simp only [go_sem, Nat.reduceLT, Nat.reduceBEq, Nat.reduceLeDiff, Nat.reduceAdd, Nat.reduceMul, Nat.reduceSub, Nat.reduceEqDiff, Int.reduceNeg, Int.reduceToNat, Int.reduceAdd, Int.reduceSub, hwk]; try exact rfl) (by simp [go_sem, hwk]) ?_
            refine cw_back ⟨1, ⟨by omega, fun j hj => by rw [show j = 0 by omega]; exact he⟩, by omega, le_sub ?_ ?_ ?_⟩
            · simp [go_sem, hwk]
            · simp [go_sem]
            · simp [go_sem]
          · have hwm : IntKind.i64.wrap ((k : Int) - 1) = ((k - 1 : Nat) : Int) := by rw [Eng.wrap_small (by omega) (by omega)]; omega
            have hgm : (x.entries.map entryRow).getD (k - 1) [] = entryRow (x.entries.getD (k - 1) default) := Fam.getD (by omega)
            have heB : entB x.entries k = decide ((x.entries.getD (k - 1) default).name < (x.entries.getD k default).name) := by
              simp [entB, hk0]
            have hyes : entB x.entries k = true → ∀ j, j < k + 1 → entB x.entries j = true := fun h0 j hj => by
              rcases Nat.lt_succ_iff_lt_or_eq.1 hj with h1 | rfl
              · exact hks j h1
              · exact h0
            have hno : entB x.entries k = false → nodeB l i = false := fun h0 => by
              cases e : nodeB l i with
              | false => rfl
              | true =>
                unfold nodeB at e
                rw [hxd] at e
                rw [List.all_eq_true.1 (Bool.and_eq_true_iff.1 e).2 k (List.mem_range.2 hklt)] at h0
                cases h0
            generalize x.entries.getD k default = u at hgk heB
            generalize x.entries.getD (k - 1) default = v at hgm heB
            refine cw_draw mixed ?_
            refine seg_start rfl ?_
            refine seg_runN tabOK 2 (by simp only [go_sem, Nat.reduceLT, Nat.reduceBEq, Nat.reduceLeDiff, Nat.reduceAdd, Nat.reduceMul, Nat.reduceSub, Nat.reduceEqDiff, Int.reduceNeg, Int.reduceToNat, Int.reduceAdd, Int.reduceSub]; exact rfl) (by simp only [go_sem, Nat.reduceLT, Nat.reduceBEq, Nat.reduceLeDiff, Nat.reduceAdd, Nat.reduceMul, Nat.reduceSub, Nat.reduceEqDiff, Int.reduceNeg, Int.reduceToNat, Int.reduceAdd, Int.reduceSub]; exact rfl) (by simp only [go_sem, Nat.reduceLT, Nat.reduceBEq, Nat.reduceLeDiff, Nat.reduceAdd, Nat.reduceMul, Nat.reduceSub, Nat.reduceEqDiff, Int.reduceNeg, Int.reduceToNat, Int.reduceAdd, Int.reduceSub]; try exact rfl) (by simp [go_sem]) (by simp only [go_sem, Nat.reduceLT, Nat.reduceBEq, Nat.reduceLeDiff, Nat.reduceAdd, Nat.reduceMul, Nat.reduceSub, Nat.reduceEqDiff, Int.reduceNeg, Int.reduceToNat, Int.reduceAdd, Int.reduceSub]; exact rfl) ?_
            refine seg_name 33 (by simp only [go_sem, Nat.reduceLT, Nat.reduceBEq, Nat.reduceLeDiff, Nat.reduceAdd, Nat.reduceMul, Nat.reduceSub, Nat.reduceEqDiff, Int.reduceNeg, Int.reduceToNat, Int.reduceAdd, Int.reduceSub]; exact rfl) (fun c33 h33 => ?_)
            simp only [go_sem, Nat.reduceLT, Nat.reduceBEq, Nat.reduceLeDiff, Nat.reduceAdd, Nat.reduceMul, Nat.reduceSub, Nat.reduceEqDiff, Int.reduceNeg, Int.reduceToNat, Int.reduceAdd, Int.reduceSub]
            have hc : c33 = true := by rw [← h33]; simp; omega
            subst hc
            refine seg_runN tabOK 16 (by simp only [go_sem, Nat.reduceLT, Nat.reduceBEq, Nat.reduceLeDiff, Nat.reduceAdd, Nat.reduceMul, Nat.reduceSub, Nat.reduceEqDiff, Int.reduceNeg, Int.reduceToNat, Int.reduceAdd, Int.reduceSub]; exact rfl) (by simp only [go_sem, Nat.reduceLT, Nat.reduceBEq, Nat.reduceLeDiff, Nat.reduceAdd, Nat.reduceMul, Nat.reduceSub, Nat.reduceEqDiff, Int.reduceNeg, Int.reduceToNat, Int.reduceAdd, Int.reduceSub]; exact rfl) (by simp only [go_sem, Nat.reduceLT, Nat.reduceBEq, Nat.reduceLeDiff, Nat.reduceAdd, Nat.reduceMul, Nat.reduceSub, Nat.reduceEqDiff, Int.reduceNeg, Int.reduceToNat, Int.reduceAdd, Int.reduceSub, hwm, hgk, hgm, entryRow]; try exact rfl) ?_ (by simp only [go_sem, Nat.reduceLT, Nat.reduceBEq, Nat.reduceLeDiff, Nat.reduceAdd, Nat.reduceMul, Nat.reduceSub, Nat.reduceEqDiff, Int.reduceNeg, Int.reduceToNat, Int.reduceAdd, Int.reduceSub]; exact rfl) ?_
            · simp [hwm, hgk, hgm, entryRow]; omega
            refine seg_end (by kernel_rfl) (by simp only [go_sem, Nat.reduceLT, Nat.reduceBEq, Nat.reduceLeDiff, Nat.reduceAdd, Nat.reduceMul, Nat.reduceSub, Nat.reduceEqDiff, Int.reduceNeg, Int.reduceToNat, Int.reduceAdd, Int.reduceSub]; exact rfl) ?_
            refine draw_close (by kernel_rfl) ?_
            have hb : (!Op.bytesLess v.name u.name) = !entB x.entries k := by rw [less_iff, heB]
            simp only [go_sem, Nat.reduceLT, Nat.reduceBEq, Nat.reduceLeDiff, Nat.reduceAdd, Nat.reduceMul, Nat.reduceSub, Nat.reduceEqDiff, Int.reduceNeg, Int.reduceToNat, Int.reduceAdd, Int.reduceSub, hwm, hb]
            refine cw_cond (by simp only [go_sem, Nat.reduceLT, Nat.reduceBEq, Nat.reduceLeDiff, Nat.reduceAdd, Nat.reduceMul, Nat.reduceSub, Nat.reduceEqDiff, Int.reduceNeg, Int.reduceToNat, Int.reduceAdd, Int.reduceSub]; try exact rfl) trivial (fun h => ?_) (fun h => ?_)
            · have h0 : entB x.entries k = false := by simpa using h
              have := risesB_no hlt (hno h0)
              refine cw_go tabOK 99 (by simp only [go_sem, Nat.reduceLT, Nat.reduceBEq, Nat.reduceLeDiff, Nat.reduceAdd, Nat.reduceMul, Nat.reduceSub, Nat.reduceEqDiff, Int.reduceNeg, Int.reduceToNat, Int.reduceAdd, Int.reduceSub]; try exact rfl) (by simp [go_sem]) ?_
              refine cw_ret ⟨_, _, (by simp only [go_sem, Nat.reduceLT, Nat.reduceBEq, Nat.reduceLeDiff, Nat.reduceAdd, Nat.reduceMul, Nat.reduceSub, Nat.reduceEqDiff, Int.reduceNeg, Int.reduceToNat, Int.reduceAdd, Int.reduceSub]; try exact rfl), by simp [go_sem], _, .inr (.inl rfl), ?_⟩
              simp [this]
            · have h0 : entB x.entries k = true := by simpa using h
              refine cw_go tabOK 99 (by simp only [go_sem, Nat.reduceLT, Nat.reduceBEq, Nat.reduceLeDiff, Nat.reduceAdd, Nat.reduceMul, Nat.reduceSub, Nat.reduceEqDiff, Int.reduceNeg, Int.reduceToNat, Int.reduceAdd, Int.reduceSub, hwk]; try exact rfl) (by simp [go_sem, hwk]) ?_
              refine cw_back ⟨k + 1, ⟨by omega, hyes h0⟩, by omega, le_sub ?_ ?_ ?_⟩
              · simp [go_sem, hwk]
              · simp [go_sem]
              · simp [go_sem]
        · have e : k = x.entries.length := by simp at h; omega
          have hnB : nodeB l i = true := by
            unfold nodeB
            rw [hxd, hst, Bool.true_and]
            exact List.all_eq_true.2 fun j hj => hks j (by rw [e]; exact List.mem_range.1 hj)
          have hw : IntKind.i64.wrap (((i : Nat) : Int) + 1) = ((i + 1 : Nat) : Int) := by rw [Eng.wrap_small (by omega) (by omega)]; rfl
          refine cw_go tabOK 99 (by simp only [go_sem, Nat.reduceLT, Nat.reduceBEq, Nat.reduceLeDiff, Nat.reduceAdd, Nat.reduceMul, Nat.reduceSub, Nat.reduceEqDiff, Int.reduceNeg, Int.reduceToNat, Int.reduceAdd, Int.reduceSub, hw]; try exact rfl) (by simp [go_sem, hw]) ?_
          refine cw_back ⟨i + 1, ⟨by omega, fun j hj => ?_⟩, by omega, le_sub ?_ ?_ ?_⟩
          · rcases Nat.lt_succ_iff_lt_or_eq.1 hj with h1 | rfl
            · exact hs j h1
            · exact hnB
          · first | (simp [go_sem, hw]; done) | (simp [go_sem]; rfl)
          · simp [go_sem]
          · simp [go_sem]
  · have e : i = l.length := by simp at h; omega
    subst e
    have : risesB l = true := List.all_eq_true.2 fun j hj => hs j (List.mem_range.1 hj)
    refine cw_go tabOK 99 (by simp only [go_sem, Nat.reduceLT, Nat.reduceBEq, Nat.reduceLeDiff, Nat.reduceAdd, Nat.reduceMul, Nat.reduceSub, Nat.reduceEqDiff, Int.reduceNeg, Int.reduceToNat, Int.reduceAdd, Int.reduceSub]; try exact rfl) (by simp [go_sem]) ?_
    refine cw_ret ⟨_, _, (by simp only [go_sem, Nat.reduceLT, Nat.reduceBEq, Nat.reduceLeDiff, Nat.reduceAdd, Nat.reduceMul, Nat.reduceSub, Nat.reduceEqDiff, Int.reduceNeg, Int.reduceToNat, Int.reduceAdd, Int.reduceSub]; try exact rfl), by simp [go_sem], _, .inr (.inl rfl), ?_⟩
    simp [this]
end La

namespace La
open Go Go.Eng Go.Proofs
set_option maxRecDepth 10000
set_option linter.unusedSimpArgs false
set_option linter.unusedVariables false

def walkN (l : List Node) : Int → List (List UInt8) → Int × Int
  | k, [] => (k, 0)
  | k, s :: r => match findN l k with
    | none => (0, 12)
    | some n => if n.dir then (match entryN n s with
      | none => (0, 6)
      | some j => walkN l j r) else (0, 8)

set_option maxHeartbeats 1000000 in
theorem walk_ok (l : List Node) (q : List (List UInt8)) (hl : Small l) (hq : q.length ≤ 100000000) : FnOK Try.prog 83 [.sl (l.map nodeRow), .sl (q.map strRow)] [] (fun r _ => r = .tup [.int .i64 (walkN l 0 q).1, .int .i64 (walkN l 0 q).2]) := by
  refine fn_of_cwW tabOK (Go.Proofs.Try.func83) rfl (fun C => ?_)
  simp only [Go.Proofs.Try.ntmps83, Go.Proofs.Try.results83, go_sem, Nat.reduceLT, Nat.reduceBEq, Nat.reduceLeDiff, Nat.reduceAdd, Nat.reduceMul, Nat.reduceSub, Nat.reduceEqDiff, Int.reduceNeg, Int.reduceToNat, Int.reduceAdd, Int.reduceSub]
  refine cw_go tabOK 99 (by simp only [go_sem, Nat.reduceLT, Nat.reduceBEq, Nat.reduceLeDiff, Nat.reduceAdd, Nat.reduceMul, Nat.reduceSub, Nat.reduceEqDiff, Int.reduceNeg, Int.reduceToNat, Int.reduceAdd, Int.reduceSub]; try exact rfl) (by simp [go_sem]) ?_
  refine cw_loopS (fun s : Nat × Int => s.1 ≤ q.length ∧ walkN l s.2 (q.drop s.1) = walkN l 0 q) (fun s => q.length - s.1) (fun s => [(6, .int .i64 s.2), (8, .any), (9, .any), (10, .any), (13, .int .i64 s.1), (14, .any), (15, .any), (16, .any), (17, .any), (18, .any), (19, .any), (20, .any), (21, .any), (22, .any), (23, .any), (24, .any), (25, .any), (26, .any), (27, .any), (28, .any), (29, .any), (30, .any), (31, .any), (32, .any), (33, .any), (34, .any), (35, .any), (36, .any)]) (fun _ => []) (0, 0) ⟨by simp, rfl⟩ ?_ fun s hs => ?_
  · simp only [go_sem, Nat.reduceLT, Nat.reduceBEq, Nat.reduceLeDiff, Nat.reduceAdd, Nat.reduceMul, Nat.reduceSub, Nat.reduceEqDiff, Int.reduceNeg, Int.reduceToNat, Int.reduceAdd, Int.reduceSub]
    exact le_sub (by simp [go_sem]) (by simp [go_sem]) (by simp [go_sem])
  obtain ⟨i, k⟩ := s
  obtain ⟨hi, hw⟩ := hs
  simp only at hi hw
  simp only [go_sem, Nat.reduceLT, Nat.reduceBEq, Nat.reduceLeDiff, Nat.reduceAdd, Nat.reduceMul, Nat.reduceSub, Nat.reduceEqDiff, Int.reduceNeg, Int.reduceToNat, Int.reduceAdd, Int.reduceSub]
  refine cw_go tabOK 99 (by simp only [go_sem, Nat.reduceLT, Nat.reduceBEq, Nat.reduceLeDiff, Nat.reduceAdd, Nat.reduceMul, Nat.reduceSub, Nat.reduceEqDiff, Int.reduceNeg, Int.reduceToNat, Int.reduceAdd, Int.reduceSub]; try exact rfl) (by simp [go_sem]) ?_
  refine cw_cond (by simp only [go_sem, Nat.reduceLT, Nat.reduceBEq, Nat.reduceLeDiff, Nat.reduceAdd, Nat.reduceMul, Nat.reduceSub, Nat.reduceEqDiff, Int.reduceNeg, Int.reduceToNat, Int.reduceAdd, Int.reduceSub]; try exact rfl) trivial (fun h => ?_) (fun h => ?_)
  · have hlt : i < q.length := by simp at h; omega
    have hg : (q.map strRow).getD i [] = [.str (q.getD i default)] := Fam.getD hlt
    have hd : q.drop i = q.getD i default :: q.drop (i + 1) := drop_getD hlt
    have hwi : IntKind.i64.wrap ((i : Int) + 1) = ((i + 1 : Nat) : Int) := by rw [Eng.wrap_small (by omega) (by omega)]; rfl
    generalize q.getD i default = x at hg hd
    rw [hd] at hw
    simp only [walkN] at hw
    refine cw_go tabOK 99 (by simp only [go_sem, Nat.reduceLT, Nat.reduceBEq, Nat.reduceLeDiff, Nat.reduceAdd, Nat.reduceMul, Nat.reduceSub, Nat.reduceEqDiff, Int.reduceNeg, Int.reduceToNat, Int.reduceAdd, Int.reduceSub, hg]; try exact rfl) ?_ ?_
    · simp [hg, hlt]
    refine cw_call rfl rfl (by simp only [go_sem, Nat.reduceLT, Nat.reduceBEq, Nat.reduceLeDiff, Nat.reduceAdd, Nat.reduceMul, Nat.reduceSub, Nat.reduceEqDiff, Int.reduceNeg, Int.reduceToNat, Int.reduceAdd, Int.reduceSub]; try exact rfl) (by simp [go_sem]) ⟨_, Go.Proofs.Try.func33, by kernel_rfl, rfl⟩ (by simp [go_sem]) (find_ok l k hl) (by simp [go_sem]) (by simp only [go_sem, Nat.reduceLT, Nat.reduceBEq, Nat.reduceLeDiff, Nat.reduceAdd, Nat.reduceMul, Nat.reduceSub, Nat.reduceEqDiff, Int.reduceNeg, Int.reduceToNat, Int.reduceAdd, Int.reduceSub]; exact rfl) ?_
    have hsm := hl.find k
    simp only [go_sem, Nat.reduceLT, Nat.reduceBEq, Nat.reduceLeDiff, Nat.reduceAdd, Nat.reduceMul, Nat.reduceSub, Nat.reduceEqDiff, Int.reduceNeg, Int.reduceToNat, Int.reduceAdd, Int.reduceSub, findR]
    rw [isAt_eq]
    generalize hfd : findN l k = o at hw hsm
    cases o with
    | none =>
      simp only [Option.getD_none, Option.isSome_none] at hw ⊢
      refine cw_go tabOK 99 (by simp only [go_sem, Nat.reduceLT, Nat.reduceBEq, Nat.reduceLeDiff, Nat.reduceAdd, Nat.reduceMul, Nat.reduceSub, Nat.reduceEqDiff, Int.reduceNeg, Int.reduceToNat, Int.reduceAdd, Int.reduceSub, nodeRow, zeroN]; try exact rfl) ?_ ?_
      · simp [nodeRow]
      refine cw_cond (by simp only [go_sem, Nat.reduceLT, Nat.reduceBEq, Nat.reduceLeDiff, Nat.reduceAdd, Nat.reduceMul, Nat.reduceSub, Nat.reduceEqDiff, Int.reduceNeg, Int.reduceToNat, Int.reduceAdd, Int.reduceSub]; try exact rfl) trivial (fun h => ?_) (fun h => ?_)
      · refine cw_go tabOK 99 (by simp only [go_sem, Nat.reduceLT, Nat.reduceBEq, Nat.reduceLeDiff, Nat.reduceAdd, Nat.reduceMul, Nat.reduceSub, Nat.reduceEqDiff, Int.reduceNeg, Int.reduceToNat, Int.reduceAdd, Int.reduceSub]; try exact rfl) (by simp [go_sem]) ?_
        refine cw_ret ⟨_, _, (by simp only [go_sem, Nat.reduceLT, Nat.reduceBEq, Nat.reduceLeDiff, Nat.reduceAdd, Nat.reduceMul, Nat.reduceSub, Nat.reduceEqDiff, Int.reduceNeg, Int.reduceToNat, Int.reduceAdd, Int.reduceSub]; try exact rfl), by simp [go_sem], _, .inr (.inl rfl), ?_⟩
        simp [← hw]
      · cases h
    | some n =>
      simp only [Option.getD_some, Option.isSome_some] at hw hsm ⊢
      refine cw_go tabOK 99 (by simp only [go_sem, Nat.reduceLT, Nat.reduceBEq, Nat.reduceLeDiff, Nat.reduceAdd, Nat.reduceMul, Nat.reduceSub, Nat.reduceEqDiff, Int.reduceNeg, Int.reduceToNat, Int.reduceAdd, Int.reduceSub, nodeRow]; try exact rfl) ?_ ?_
      · simp [nodeRow]
      refine cw_cond (by simp only [go_sem, Nat.reduceLT, Nat.reduceBEq, Nat.reduceLeDiff, Nat.reduceAdd, Nat.reduceMul, Nat.reduceSub, Nat.reduceEqDiff, Int.reduceNeg, Int.reduceToNat, Int.reduceAdd, Int.reduceSub]; try exact rfl) trivial (fun h => ?_) (fun h => ?_)
      · cases h
      refine cw_go tabOK 99 (by simp only [go_sem, Nat.reduceLT, Nat.reduceBEq, Nat.reduceLeDiff, Nat.reduceAdd, Nat.reduceMul, Nat.reduceSub, Nat.reduceEqDiff, Int.reduceNeg, Int.reduceToNat, Int.reduceAdd, Int.reduceSub, nodeRow]; try exact rfl) ?_ ?_
      · simp [nodeRow]
      refine cw_cond (by simp only [go_sem, Nat.reduceLT, Nat.reduceBEq, Nat.reduceLeDiff, Nat.reduceAdd, Nat.reduceMul, Nat.reduceSub, Nat.reduceEqDiff, Int.reduceNeg, Int.reduceToNat, Int.reduceAdd, Int.reduceSub]; try exact rfl) trivial (fun h => ?_) (fun h => ?_)
      · have hdir : n.dir = false := by simpa using h
        rw [hdir] at hw
        refine cw_go tabOK 99 (by simp only [go_sem, Nat.reduceLT, Nat.reduceBEq, Nat.reduceLeDiff, Nat.reduceAdd, Nat.reduceMul, Nat.reduceSub, Nat.reduceEqDiff, Int.reduceNeg, Int.reduceToNat, Int.reduceAdd, Int.reduceSub]; try exact rfl) (by simp [go_sem]) ?_
        refine cw_ret ⟨_, _, (by simp only [go_sem, Nat.reduceLT, Nat.reduceBEq, Nat.reduceLeDiff, Nat.reduceAdd, Nat.reduceMul, Nat.reduceSub, Nat.reduceEqDiff, Int.reduceNeg, Int.reduceToNat, Int.reduceAdd, Int.reduceSub]; try exact rfl), by simp [go_sem], _, .inr (.inl rfl), ?_⟩
        simp [← hw]
      have hdir : n.dir = true := by simpa using h
      rw [if_pos hdir] at hw
      refine cw_go tabOK 99 (by simp only [go_sem, Nat.reduceLT, Nat.reduceBEq, Nat.reduceLeDiff, Nat.reduceAdd, Nat.reduceMul, Nat.reduceSub, Nat.reduceEqDiff, Int.reduceNeg, Int.reduceToNat, Int.reduceAdd, Int.reduceSub, nodeRow]; try exact rfl) ?_ ?_
      · simp [nodeRow]
      refine cw_call rfl rfl (by simp only [go_sem, Nat.reduceLT, Nat.reduceBEq, Nat.reduceLeDiff, Nat.reduceAdd, Nat.reduceMul, Nat.reduceSub, Nat.reduceEqDiff, Int.reduceNeg, Int.reduceToNat, Int.reduceAdd, Int.reduceSub]; try exact rfl) (by simp [go_sem]) ⟨_, Go.Proofs.Try.func36, by kernel_rfl, rfl⟩ (by simp [go_sem]) (entry_ok n x hsm) (by simp [go_sem]) (by simp only [go_sem, Nat.reduceLT, Nat.reduceBEq, Nat.reduceLeDiff, Nat.reduceAdd, Nat.reduceMul, Nat.reduceSub, Nat.reduceEqDiff, Int.reduceNeg, Int.reduceToNat, Int.reduceAdd, Int.reduceSub]; exact rfl) ?_
      cases he : entryN n x with
      | none =>
        rw [he] at hw
        simp only at hw
        simp only [go_sem, Nat.reduceLT, Nat.reduceBEq, Nat.reduceLeDiff, Nat.reduceAdd, Nat.reduceMul, Nat.reduceSub, Nat.reduceEqDiff, Int.reduceNeg, Int.reduceToNat, Int.reduceAdd, Int.reduceSub, optInt]
        refine cw_go tabOK 99 (by simp only [go_sem, Nat.reduceLT, Nat.reduceBEq, Nat.reduceLeDiff, Nat.reduceAdd, Nat.reduceMul, Nat.reduceSub, Nat.reduceEqDiff, Int.reduceNeg, Int.reduceToNat, Int.reduceAdd, Int.reduceSub]; try exact rfl) (by simp [go_sem]) ?_
        refine cw_cond (by simp only [go_sem, Nat.reduceLT, Nat.reduceBEq, Nat.reduceLeDiff, Nat.reduceAdd, Nat.reduceMul, Nat.reduceSub, Nat.reduceEqDiff, Int.reduceNeg, Int.reduceToNat, Int.reduceAdd, Int.reduceSub]; try exact rfl) trivial (fun h => ?_) (fun h => ?_)
        · refine cw_go tabOK 99 (by simp only [go_sem, Nat.reduceLT, Nat.reduceBEq, Nat.reduceLeDiff, Nat.reduceAdd, Nat.reduceMul, Nat.reduceSub, Nat.reduceEqDiff, Int.reduceNeg, Int.reduceToNat, Int.reduceAdd, Int.reduceSub]; try exact rfl) (by simp [go_sem]) ?_
          refine cw_ret ⟨_, _, (by simp only [go_sem, Nat.reduceLT, Nat.reduceBEq, Nat.reduceLeDiff, Nat.reduceAdd, Nat.reduceMul, Nat.reduceSub, Nat.reduceEqDiff, Int.reduceNeg, Int.reduceToNat, Int.reduceAdd, Int.reduceSub]; try exact rfl), by simp [go_sem], _, .inr (.inl rfl), ?_⟩
          simp [← hw]
        · cases h
      | some j =>
        rw [he] at hw
        simp only at hw
        simp only [go_sem, Nat.reduceLT, Nat.reduceBEq, Nat.reduceLeDiff, Nat.reduceAdd, Nat.reduceMul, Nat.reduceSub, Nat.reduceEqDiff, Int.reduceNeg, Int.reduceToNat, Int.reduceAdd, Int.reduceSub, optInt]
        refine cw_go tabOK 99 (by simp only [go_sem, Nat.reduceLT, Nat.reduceBEq, Nat.reduceLeDiff, Nat.reduceAdd, Nat.reduceMul, Nat.reduceSub, Nat.reduceEqDiff, Int.reduceNeg, Int.reduceToNat, Int.reduceAdd, Int.reduceSub]; try exact rfl) (by simp [go_sem]) ?_
        refine cw_cond (by simp only [go_sem, Nat.reduceLT, Nat.reduceBEq, Nat.reduceLeDiff, Nat.reduceAdd, Nat.reduceMul, Nat.reduceSub, Nat.reduceEqDiff, Int.reduceNeg, Int.reduceToNat, Int.reduceAdd, Int.reduceSub]; try exact rfl) trivial (fun h => ?_) (fun h => ?_)
        · cases h
        refine cw_go tabOK 99 (by simp only [go_sem, Nat.reduceLT, Nat.reduceBEq, Nat.reduceLeDiff, Nat.reduceAdd, Nat.reduceMul, Nat.reduceSub, Nat.reduceEqDiff, Int.reduceNeg, Int.reduceToNat, Int.reduceAdd, Int.reduceSub, hwi]; try exact rfl) (by simp [go_sem, hwi]) ?_
        refine cw_back ⟨(i + 1, j), ⟨by omega, hw⟩, by simp only; omega, le_sub ?_ ?_ ?_⟩
        · simp [go_sem, hwi]
        · simp [go_sem]
        · simp [go_sem]
  · have e : i = q.length := by simp at h; omega
    rw [e, List.drop_length] at hw
    simp only [walkN] at hw
    refine cw_go tabOK 99 (by simp only [go_sem, Nat.reduceLT, Nat.reduceBEq, Nat.reduceLeDiff, Nat.reduceAdd, Nat.reduceMul, Nat.reduceSub, Nat.reduceEqDiff, Int.reduceNeg, Int.reduceToNat, Int.reduceAdd, Int.reduceSub]; try exact rfl) (by simp [go_sem]) ?_
    refine cw_ret ⟨_, _, (by simp only [go_sem, Nat.reduceLT, Nat.reduceBEq, Nat.reduceLeDiff, Nat.reduceAdd, Nat.reduceMul, Nat.reduceSub, Nat.reduceEqDiff, Int.reduceNeg, Int.reduceToNat, Int.reduceAdd, Int.reduceSub]; try exact rfl), by simp [go_sem], _, .inr (.inl rfl), ?_⟩
    simp [← hw]
end La

namespace La
open Go Go.Eng Go.Proofs
set_option maxRecDepth 10000
set_option linter.unusedSimpArgs false
set_option linter.unusedVariables false

/-- whether 'fid' is 'k', or in it; none: the search is too deep -/
def withinF (l : List Node) (fid : Int) : Nat → Int → Option Bool
  | 0, _ => none
  | f + 1, k => if fid = k then some true else match findN l k with
    | none => some false
    | some n => if n.entries.all (fun e => decide (e.fid = k) || (withinF l fid f e.fid).isSome) then some (n.entries.any fun e => !(decide (e.fid = k)) && (withinF l fid f e.fid).getD false) else none

set_option maxHeartbeats 1000000 in
theorem withinIs_ok (l : List Node) (fid k : Int) (e : Entry) (b : Bool) (h : e.fid ≠ k → FnOK Try.prog 84 [.sl (l.map nodeRow), .int .i64 fid, .int .i64 e.fid] [] (fun r _ => r = .bool b)) :
    FnOK Try.prog 130 [.agg (entryRow e), .rp [.int .i64 k] 0, .rp [.sl (l.map nodeRow)] 0, .rp [.int .i64 fid] 0] [] (fun r _ => r = .bool (!(decide (e.fid = k)) && b)) := by
  unfold entryRow
  refine fn_of_cwW tabOK (Go.Proofs.Try.func130) rfl (fun C => ?_)
  simp only [Go.Proofs.Try.ntmps130, Go.Proofs.Try.results130, go_sem, Nat.reduceLT, Nat.reduceBEq, Nat.reduceLeDiff, Nat.reduceAdd, Nat.reduceMul, Nat.reduceSub, Nat.reduceEqDiff, Int.reduceNeg, Int.reduceToNat, Int.reduceAdd, Int.reduceSub]
  refine cw_goR 99 (by simp only [go_sem, Nat.reduceLT, Nat.reduceBEq, Nat.reduceLeDiff, Nat.reduceAdd, Nat.reduceMul, Nat.reduceSub, Nat.reduceEqDiff, Int.reduceNeg, Int.reduceToNat, Int.reduceAdd, Int.reduceSub]; try exact rfl) ?_
  refine cw_runN tabOK 2 (by simp only [go_sem, Nat.reduceLT, Nat.reduceBEq, Nat.reduceLeDiff, Nat.reduceAdd, Nat.reduceMul, Nat.reduceSub, Nat.reduceEqDiff, Int.reduceNeg, Int.reduceToNat, Int.reduceAdd, Int.reduceSub]; exact rfl) (by simp only [go_sem, Nat.reduceLT, Nat.reduceBEq, Nat.reduceLeDiff, Nat.reduceAdd, Nat.reduceMul, Nat.reduceSub, Nat.reduceEqDiff, Int.reduceNeg, Int.reduceToNat, Int.reduceAdd, Int.reduceSub]; exact rfl) (by simp only [go_sem, Nat.reduceLT, Nat.reduceBEq, Nat.reduceLeDiff, Nat.reduceAdd, Nat.reduceMul, Nat.reduceSub, Nat.reduceEqDiff, Int.reduceNeg, Int.reduceToNat, Int.reduceAdd, Int.reduceSub]; try exact rfl) (by simp [go_sem]) ?_
  refine cw_goR 99 (by simp only [go_sem, Nat.reduceLT, Nat.reduceBEq, Nat.reduceLeDiff, Nat.reduceAdd, Nat.reduceMul, Nat.reduceSub, Nat.reduceEqDiff, Int.reduceNeg, Int.reduceToNat, Int.reduceAdd, Int.reduceSub]; try exact rfl) ?_
  refine cw_freeze 4 rfl (rfl) ?_
  simp only [go_sem, Nat.reduceLT, Nat.reduceBEq, Nat.reduceLeDiff, Nat.reduceAdd, Nat.reduceMul, Nat.reduceSub, Nat.reduceEqDiff, Int.reduceNeg, Int.reduceToNat, Int.reduceAdd, Int.reduceSub]
  refine cw_runN tabOK 4 (by simp only [go_sem, Nat.reduceLT, Nat.reduceBEq, Nat.reduceLeDiff, Nat.reduceAdd, Nat.reduceMul, Nat.reduceSub, Nat.reduceEqDiff, Int.reduceNeg, Int.reduceToNat, Int.reduceAdd, Int.reduceSub]; exact rfl) (by simp only [go_sem, Nat.reduceLT, Nat.reduceBEq, Nat.reduceLeDiff, Nat.reduceAdd, Nat.reduceMul, Nat.reduceSub, Nat.reduceEqDiff, Int.reduceNeg, Int.reduceToNat, Int.reduceAdd, Int.reduceSub]; exact rfl) (by simp only [go_sem, Nat.reduceLT, Nat.reduceBEq, Nat.reduceLeDiff, Nat.reduceAdd, Nat.reduceMul, Nat.reduceSub, Nat.reduceEqDiff, Int.reduceNeg, Int.reduceToNat, Int.reduceAdd, Int.reduceSub]; try exact rfl) (by simp [go_sem]) ?_
  refine cw_name 9 (by simp only [go_sem, Nat.reduceLT, Nat.reduceBEq, Nat.reduceLeDiff, Nat.reduceAdd, Nat.reduceMul, Nat.reduceSub, Nat.reduceEqDiff, Int.reduceNeg, Int.reduceToNat, Int.reduceAdd, Int.reduceSub]; exact rfl) (fun c9 h9 => ?_)
  simp only [go_sem, Nat.reduceLT, Nat.reduceBEq, Nat.reduceLeDiff, Nat.reduceAdd, Nat.reduceMul, Nat.reduceSub, Nat.reduceEqDiff, Int.reduceNeg, Int.reduceToNat, Int.reduceAdd, Int.reduceSub]
  cases c9 with
  | true =>
    have hne : e.fid ≠ k := by simpa using h9
    refine cw_go tabOK 99 (by simp only [go_sem, Nat.reduceLT, Nat.reduceBEq, Nat.reduceLeDiff, Nat.reduceAdd, Nat.reduceMul, Nat.reduceSub, Nat.reduceEqDiff, Int.reduceNeg, Int.reduceToNat, Int.reduceAdd, Int.reduceSub]; try exact rfl) (by simp [go_sem]) ?_
    refine cw_callC rfl (by simp only [go_sem, Nat.reduceLT, Nat.reduceBEq, Nat.reduceLeDiff, Nat.reduceAdd, Nat.reduceMul, Nat.reduceSub, Nat.reduceEqDiff, Int.reduceNeg, Int.reduceToNat, Int.reduceAdd, Int.reduceSub]; try exact rfl) (by simp only [go_sem, Nat.reduceLT, Nat.reduceBEq, Nat.reduceLeDiff, Nat.reduceAdd, Nat.reduceMul, Nat.reduceSub, Nat.reduceEqDiff, Int.reduceNeg, Int.reduceToNat, Int.reduceAdd, Int.reduceSub]; try exact rfl) (by simp [go_sem]) ⟨_, Go.Proofs.Try.func84, by kernel_rfl, rfl⟩ (by simp [go_sem]) (fun hb => (h hne)) (by simp [go_sem]) (by simp only [go_sem, Nat.reduceLT, Nat.reduceBEq, Nat.reduceLeDiff, Nat.reduceAdd, Nat.reduceMul, Nat.reduceSub, Nat.reduceEqDiff, Int.reduceNeg, Int.reduceToNat, Int.reduceAdd, Int.reduceSub]; exact rfl) ?_
    refine cw_go tabOK 99 (by simp only [go_sem, Nat.reduceLT, Nat.reduceBEq, Nat.reduceLeDiff, Nat.reduceAdd, Nat.reduceMul, Nat.reduceSub, Nat.reduceEqDiff, Int.reduceNeg, Int.reduceToNat, Int.reduceAdd, Int.reduceSub]; try exact rfl) (by simp [go_sem]) ?_
    refine cw_ret ⟨_, _, (by simp only [go_sem, Nat.reduceLT, Nat.reduceBEq, Nat.reduceLeDiff, Nat.reduceAdd, Nat.reduceMul, Nat.reduceSub, Nat.reduceEqDiff, Int.reduceNeg, Int.reduceToNat, Int.reduceAdd, Int.reduceSub]; try exact rfl), by simp [go_sem], _, .inr (.inl rfl), ?_⟩
    simp [hne]
  | false =>
    have hne : e.fid = k := by simpa using h9
    refine cw_go tabOK 99 (by simp only [go_sem, Nat.reduceLT, Nat.reduceBEq, Nat.reduceLeDiff, Nat.reduceAdd, Nat.reduceMul, Nat.reduceSub, Nat.reduceEqDiff, Int.reduceNeg, Int.reduceToNat, Int.reduceAdd, Int.reduceSub]; try exact rfl) (by simp [go_sem]) ?_
    refine cw_pass (.bool false) rfl ?_
    simp only [go_sem, Nat.reduceLT, Nat.reduceBEq, Nat.reduceLeDiff, Nat.reduceAdd, Nat.reduceMul, Nat.reduceSub, Nat.reduceEqDiff, Int.reduceNeg, Int.reduceToNat, Int.reduceAdd, Int.reduceSub]
    refine cw_go tabOK 99 (by simp only [go_sem, Nat.reduceLT, Nat.reduceBEq, Nat.reduceLeDiff, Nat.reduceAdd, Nat.reduceMul, Nat.reduceSub, Nat.reduceEqDiff, Int.reduceNeg, Int.reduceToNat, Int.reduceAdd, Int.reduceSub]; try exact rfl) (by simp [go_sem]) ?_
    refine cw_ret ⟨_, _, (by simp only [go_sem, Nat.reduceLT, Nat.reduceBEq, Nat.reduceLeDiff, Nat.reduceAdd, Nat.reduceMul, Nat.reduceSub, Nat.reduceEqDiff, Int.reduceNeg, Int.reduceToNat, Int.reduceAdd, Int.reduceSub]; try exact rfl), by simp [go_sem], _, .inr (.inl rfl), ?_⟩
    simp [hne]

set_option maxHeartbeats 1000000 in
theorem within_step (l : List Node) (hl : Small l) (fid : Int) (f : Nat) (ih : ∀ (k : Int) (b : Bool), withinF l fid f k = some b → FnOK Try.prog 84 [.sl (l.map nodeRow), .int .i64 fid, .int .i64 k] [] (fun r _ => r = .bool b)) (k : Int) (b : Bool) (hb : withinF l fid (f + 1) k = some b) :
    FnOK Try.prog 84 [.sl (l.map nodeRow), .int .i64 fid, .int .i64 k] [] (fun r _ => r = .bool b) := by
  unfold withinF at hb
  refine fn_of_cwW tabOK (Go.Proofs.Try.func84) rfl (fun C => ?_)
  simp only [Go.Proofs.Try.ntmps84, Go.Proofs.Try.results84, go_sem, Nat.reduceLT, Nat.reduceBEq, Nat.reduceLeDiff, Nat.reduceAdd, Nat.reduceMul, Nat.reduceSub, Nat.reduceEqDiff, Int.reduceNeg, Int.reduceToNat, Int.reduceAdd, Int.reduceSub]
  refine cw_go tabOK 99 (by simp only [go_sem, Nat.reduceLT, Nat.reduceBEq, Nat.reduceLeDiff, Nat.reduceAdd, Nat.reduceMul, Nat.reduceSub, Nat.reduceEqDiff, Int.reduceNeg, Int.reduceToNat, Int.reduceAdd, Int.reduceSub]; try exact rfl) (by simp [go_sem]) ?_
  refine cw_cond (by simp only [go_sem, Nat.reduceLT, Nat.reduceBEq, Nat.reduceLeDiff, Nat.reduceAdd, Nat.reduceMul, Nat.reduceSub, Nat.reduceEqDiff, Int.reduceNeg, Int.reduceToNat, Int.reduceAdd, Int.reduceSub]; try exact rfl) trivial (fun h => ?_) (fun h => ?_)
  · have e : fid = k := by simpa using h
    rw [if_pos e] at hb
    refine cw_go tabOK 99 (by simp only [go_sem, Nat.reduceLT, Nat.reduceBEq, Nat.reduceLeDiff, Nat.reduceAdd, Nat.reduceMul, Nat.reduceSub, Nat.reduceEqDiff, Int.reduceNeg, Int.reduceToNat, Int.reduceAdd, Int.reduceSub]; try exact rfl) (by simp [go_sem]) ?_
    refine cw_ret ⟨_, _, (by simp only [go_sem, Nat.reduceLT, Nat.reduceBEq, Nat.reduceLeDiff, Nat.reduceAdd, Nat.reduceMul, Nat.reduceSub, Nat.reduceEqDiff, Int.reduceNeg, Int.reduceToNat, Int.reduceAdd, Int.reduceSub]; try exact rfl), by simp [go_sem], _, .inr (.inl rfl), ?_⟩
    simpa using hb
  have e : ¬ fid = k := by simpa using h
  rw [if_neg e] at hb
  refine cw_freeze 3 rfl (rfl) ?_
  refine cw_freeze 4 rfl (rfl) ?_
  refine cw_freeze 5 rfl (rfl) ?_
  simp only [go_sem, Nat.reduceLT, Nat.reduceBEq, Nat.reduceLeDiff, Nat.reduceAdd, Nat.reduceMul, Nat.reduceSub, Nat.reduceEqDiff, Int.reduceNeg, Int.reduceToNat, Int.reduceAdd, Int.reduceSub]
  refine cw_go tabOK 99 (by simp only [go_sem, Nat.reduceLT, Nat.reduceBEq, Nat.reduceLeDiff, Nat.reduceAdd, Nat.reduceMul, Nat.reduceSub, Nat.reduceEqDiff, Int.reduceNeg, Int.reduceToNat, Int.reduceAdd, Int.reduceSub]; try exact rfl) (by simp [go_sem]) ?_
  refine cw_call rfl rfl (by simp only [go_sem, Nat.reduceLT, Nat.reduceBEq, Nat.reduceLeDiff, Nat.reduceAdd, Nat.reduceMul, Nat.reduceSub, Nat.reduceEqDiff, Int.reduceNeg, Int.reduceToNat, Int.reduceAdd, Int.reduceSub]; try exact rfl) (by simp [go_sem]) ⟨_, Go.Proofs.Try.func33, by kernel_rfl, rfl⟩ (by simp [go_sem]) (find_ok l k hl) (by simp [go_sem]) (by simp only [go_sem, Nat.reduceLT, Nat.reduceBEq, Nat.reduceLeDiff, Nat.reduceAdd, Nat.reduceMul, Nat.reduceSub, Nat.reduceEqDiff, Int.reduceNeg, Int.reduceToNat, Int.reduceAdd, Int.reduceSub]; exact rfl) ?_
  have hsm := hl.find k
  simp only [go_sem, Nat.reduceLT, Nat.reduceBEq, Nat.reduceLeDiff, Nat.reduceAdd, Nat.reduceMul, Nat.reduceSub, Nat.reduceEqDiff, Int.reduceNeg, Int.reduceToNat, Int.reduceAdd, Int.reduceSub, findR]
  rw [isAt_eq]
  generalize hfd : findN l k = o at hb hsm
  cases o with
  | none =>
    simp only [Option.getD_none, Option.isSome_none] at hb ⊢
    refine cw_go tabOK 99 (by simp only [go_sem, Nat.reduceLT, Nat.reduceBEq, Nat.reduceLeDiff, Nat.reduceAdd, Nat.reduceMul, Nat.reduceSub, Nat.reduceEqDiff, Int.reduceNeg, Int.reduceToNat, Int.reduceAdd, Int.reduceSub, nodeRow, zeroN]; try exact rfl) ?_ ?_
    · simp [nodeRow]
    refine cw_cond (by simp only [go_sem, Nat.reduceLT, Nat.reduceBEq, Nat.reduceLeDiff, Nat.reduceAdd, Nat.reduceMul, Nat.reduceSub, Nat.reduceEqDiff, Int.reduceNeg, Int.reduceToNat, Int.reduceAdd, Int.reduceSub]; try exact rfl) trivial (fun h => ?_) (fun h => ?_)
    · refine cw_go tabOK 99 (by simp only [go_sem, Nat.reduceLT, Nat.reduceBEq, Nat.reduceLeDiff, Nat.reduceAdd, Nat.reduceMul, Nat.reduceSub, Nat.reduceEqDiff, Int.reduceNeg, Int.reduceToNat, Int.reduceAdd, Int.reduceSub]; try exact rfl) (by simp [go_sem]) ?_
      refine cw_ret ⟨_, _, (by simp only [go_sem, Nat.reduceLT, Nat.reduceBEq, Nat.reduceLeDiff, Nat.reduceAdd, Nat.reduceMul, Nat.reduceSub, Nat.reduceEqDiff, Int.reduceNeg, Int.reduceToNat, Int.reduceAdd, Int.reduceSub]; try exact rfl), by simp [go_sem], _, .inr (.inl rfl), ?_⟩
      simpa using hb
    · cases h
  | some n =>
    simp only [Option.getD_some, Option.isSome_some] at hb hsm ⊢
    split at hb
    · rename_i hall
      injection hb with hb
      have hcl := entry_containsFunc n.entries hsm.entries (f := 130) (caps := [.rp [.int .i64 k] 0, .rp [.sl (l.map nodeRow)] 0, .rp [.int .i64 fid] 0]) (p := fun e => !(decide (e.fid = k)) && (withinF l fid f e.fid).getD false) ⟨_, Go.Proofs.Try.func130, by kernel_rfl, rfl⟩ rfl (fun x hx => withinIs_ok l fid k x ((withinF l fid f x.fid).getD false) (fun hne => by
        have h1 := List.all_eq_true.1 hall x hx
        simp only [hne, decide_false, Bool.false_or] at h1
        cases h2 : withinF l fid f x.fid with
        | none => rw [h2] at h1; cases h1
        | some c => exact ih x.fid c h2))
      refine cw_go tabOK 99 (by simp only [go_sem, Nat.reduceLT, Nat.reduceBEq, Nat.reduceLeDiff, Nat.reduceAdd, Nat.reduceMul, Nat.reduceSub, Nat.reduceEqDiff, Int.reduceNeg, Int.reduceToNat, Int.reduceAdd, Int.reduceSub, nodeRow]; try exact rfl) ?_ ?_
      · simp [nodeRow]
      refine cw_cond (by simp only [go_sem, Nat.reduceLT, Nat.reduceBEq, Nat.reduceLeDiff, Nat.reduceAdd, Nat.reduceMul, Nat.reduceSub, Nat.reduceEqDiff, Int.reduceNeg, Int.reduceToNat, Int.reduceAdd, Int.reduceSub]; try exact rfl) trivial (fun h => ?_) (fun h => ?_)
      · cases h
      refine cw_go tabOK 99 (by simp only [go_sem, Nat.reduceLT, Nat.reduceBEq, Nat.reduceLeDiff, Nat.reduceAdd, Nat.reduceMul, Nat.reduceSub, Nat.reduceEqDiff, Int.reduceNeg, Int.reduceToNat, Int.reduceAdd, Int.reduceSub, nodeRow]; try exact rfl) ?_ ?_
      · simp [nodeRow]
      refine cw_call rfl rfl (by simp only [go_sem, Nat.reduceLT, Nat.reduceBEq, Nat.reduceLeDiff, Nat.reduceAdd, Nat.reduceMul, Nat.reduceSub, Nat.reduceEqDiff, Int.reduceNeg, Int.reduceToNat, Int.reduceAdd, Int.reduceSub]; try exact rfl) (by simp [go_sem]) ⟨_, Go.Proofs.Try.func129, by kernel_rfl, rfl⟩ (by simp [go_sem]) (hcl) (by simp [go_sem]) (by simp only [go_sem, Nat.reduceLT, Nat.reduceBEq, Nat.reduceLeDiff, Nat.reduceAdd, Nat.reduceMul, Nat.reduceSub, Nat.reduceEqDiff, Int.reduceNeg, Int.reduceToNat, Int.reduceAdd, Int.reduceSub]; exact rfl) ?_
      refine cw_go tabOK 99 (by simp only [go_sem, Nat.reduceLT, Nat.reduceBEq, Nat.reduceLeDiff, Nat.reduceAdd, Nat.reduceMul, Nat.reduceSub, Nat.reduceEqDiff, Int.reduceNeg, Int.reduceToNat, Int.reduceAdd, Int.reduceSub]; try exact rfl) (by simp [go_sem]) ?_
      refine cw_ret ⟨_, _, (by simp only [go_sem, Nat.reduceLT, Nat.reduceBEq, Nat.reduceLeDiff, Nat.reduceAdd, Nat.reduceMul, Nat.reduceSub, Nat.reduceEqDiff, Int.reduceNeg, Int.reduceToNat, Int.reduceAdd, Int.reduceSub]; try exact rfl), by simp [go_sem], _, .inr (.inl rfl), ?_⟩
      simpa using hb
    · cases hb

theorem within_ok (l : List Node) (hl : Small l) (fid : Int) : ∀ (f : Nat) (k : Int) (b : Bool), withinF l fid f k = some b → FnOK Try.prog 84 [.sl (l.map nodeRow), .int .i64 fid, .int .i64 k] [] (fun r _ => r = .bool b)
  | 0, _, _, h => by cases h
  | f + 1, k, b, h => within_step l hl fid f (within_ok l hl fid f) k b h

set_option maxHeartbeats 1000000 in
theorem sameIs_ok (a b : Node) (ha : a.Small) (hb : b.Small) : FnOK Try.prog 132 [.agg (nodeRow a), .agg (nodeRow b)] [] (fun r _ => r = .bool (sameN false a b)) := by
  have hla := ha.entries
  have hlb := hb.entries
  unfold nodeRow
  refine fn_of_cwW tabOK (Go.Proofs.Try.func132) rfl (fun C => ?_)
  simp only [Go.Proofs.Try.ntmps132, Go.Proofs.Try.results132, go_sem, Nat.reduceLT, Nat.reduceBEq, Nat.reduceLeDiff, Nat.reduceAdd, Nat.reduceMul, Nat.reduceSub, Nat.reduceEqDiff, Int.reduceNeg, Int.reduceToNat, Int.reduceAdd, Int.reduceSub]
  refine cw_goR 99 (by simp only [go_sem, Nat.reduceLT, Nat.reduceBEq, Nat.reduceLeDiff, Nat.reduceAdd, Nat.reduceMul, Nat.reduceSub, Nat.reduceEqDiff, Int.reduceNeg, Int.reduceToNat, Int.reduceAdd, Int.reduceSub]; try exact rfl) ?_
  refine cw_runN tabOK 3 (by simp only [go_sem, Nat.reduceLT, Nat.reduceBEq, Nat.reduceLeDiff, Nat.reduceAdd, Nat.reduceMul, Nat.reduceSub, Nat.reduceEqDiff, Int.reduceNeg, Int.reduceToNat, Int.reduceAdd, Int.reduceSub]; exact rfl) (by simp only [go_sem, Nat.reduceLT, Nat.reduceBEq, Nat.reduceLeDiff, Nat.reduceAdd, Nat.reduceMul, Nat.reduceSub, Nat.reduceEqDiff, Int.reduceNeg, Int.reduceToNat, Int.reduceAdd, Int.reduceSub]; exact rfl) (by simp only [go_sem, Nat.reduceLT, Nat.reduceBEq, Nat.reduceLeDiff, Nat.reduceAdd, Nat.reduceMul, Nat.reduceSub, Nat.reduceEqDiff, Int.reduceNeg, Int.reduceToNat, Int.reduceAdd, Int.reduceSub]; try exact rfl) (by simp [go_sem]) ?_
  refine cw_goR 99 (by simp only [go_sem, Nat.reduceLT, Nat.reduceBEq, Nat.reduceLeDiff, Nat.reduceAdd, Nat.reduceMul, Nat.reduceSub, Nat.reduceEqDiff, Int.reduceNeg, Int.reduceToNat, Int.reduceAdd, Int.reduceSub]; try exact rfl) ?_
  refine cw_freeze 2 rfl (rfl) ?_
  refine cw_freeze 3 rfl (rfl) ?_
  simp only [go_sem, Nat.reduceLT, Nat.reduceBEq, Nat.reduceLeDiff, Nat.reduceAdd, Nat.reduceMul, Nat.reduceSub, Nat.reduceEqDiff, Int.reduceNeg, Int.reduceToNat, Int.reduceAdd, Int.reduceSub]
  refine cw_runN tabOK 5 (by simp only [go_sem, Nat.reduceLT, Nat.reduceBEq, Nat.reduceLeDiff, Nat.reduceAdd, Nat.reduceMul, Nat.reduceSub, Nat.reduceEqDiff, Int.reduceNeg, Int.reduceToNat, Int.reduceAdd, Int.reduceSub]; exact rfl) (by simp only [go_sem, Nat.reduceLT, Nat.reduceBEq, Nat.reduceLeDiff, Nat.reduceAdd, Nat.reduceMul, Nat.reduceSub, Nat.reduceEqDiff, Int.reduceNeg, Int.reduceToNat, Int.reduceAdd, Int.reduceSub]; exact rfl) (by simp only [go_sem, Nat.reduceLT, Nat.reduceBEq, Nat.reduceLeDiff, Nat.reduceAdd, Nat.reduceMul, Nat.reduceSub, Nat.reduceEqDiff, Int.reduceNeg, Int.reduceToNat, Int.reduceAdd, Int.reduceSub]; try exact rfl) (by simp [go_sem]) ?_
  refine cw_name 9 (by simp only [go_sem, Nat.reduceLT, Nat.reduceBEq, Nat.reduceLeDiff, Nat.reduceAdd, Nat.reduceMul, Nat.reduceSub, Nat.reduceEqDiff, Int.reduceNeg, Int.reduceToNat, Int.reduceAdd, Int.reduceSub]; exact rfl) (fun c9 h9 => ?_)
  simp only [go_sem, Nat.reduceLT, Nat.reduceBEq, Nat.reduceLeDiff, Nat.reduceAdd, Nat.reduceMul, Nat.reduceSub, Nat.reduceEqDiff, Int.reduceNeg, Int.reduceToNat, Int.reduceAdd, Int.reduceSub]
  refine cw_runN tabOK 7 (by simp only [go_sem, Nat.reduceLT, Nat.reduceBEq, Nat.reduceLeDiff, Nat.reduceAdd, Nat.reduceMul, Nat.reduceSub, Nat.reduceEqDiff, Int.reduceNeg, Int.reduceToNat, Int.reduceAdd, Int.reduceSub]; exact rfl) (by simp only [go_sem, Nat.reduceLT, Nat.reduceBEq, Nat.reduceLeDiff, Nat.reduceAdd, Nat.reduceMul, Nat.reduceSub, Nat.reduceEqDiff, Int.reduceNeg, Int.reduceToNat, Int.reduceAdd, Int.reduceSub]; exact rfl) (by simp only [go_sem, Nat.reduceLT, Nat.reduceBEq, Nat.reduceLeDiff, Nat.reduceAdd, Nat.reduceMul, Nat.reduceSub, Nat.reduceEqDiff, Int.reduceNeg, Int.reduceToNat, Int.reduceAdd, Int.reduceSub]; try exact rfl) (by simp [go_sem]) ?_
  refine cw_name 16 (by simp only [go_sem, Nat.reduceLT, Nat.reduceBEq, Nat.reduceLeDiff, Nat.reduceAdd, Nat.reduceMul, Nat.reduceSub, Nat.reduceEqDiff, Int.reduceNeg, Int.reduceToNat, Int.reduceAdd, Int.reduceSub]; exact rfl) (fun c16 h16 => ?_)
  simp only [go_sem, Nat.reduceLT, Nat.reduceBEq, Nat.reduceLeDiff, Nat.reduceAdd, Nat.reduceMul, Nat.reduceSub, Nat.reduceEqDiff, Int.reduceNeg, Int.reduceToNat, Int.reduceAdd, Int.reduceSub]
  refine cw_runN tabOK 5 (by simp only [go_sem, Nat.reduceLT, Nat.reduceBEq, Nat.reduceLeDiff, Nat.reduceAdd, Nat.reduceMul, Nat.reduceSub, Nat.reduceEqDiff, Int.reduceNeg, Int.reduceToNat, Int.reduceAdd, Int.reduceSub]; exact rfl) (by simp only [go_sem, Nat.reduceLT, Nat.reduceBEq, Nat.reduceLeDiff, Nat.reduceAdd, Nat.reduceMul, Nat.reduceSub, Nat.reduceEqDiff, Int.reduceNeg, Int.reduceToNat, Int.reduceAdd, Int.reduceSub]; exact rfl) (by simp only [go_sem, Nat.reduceLT, Nat.reduceBEq, Nat.reduceLeDiff, Nat.reduceAdd, Nat.reduceMul, Nat.reduceSub, Nat.reduceEqDiff, Int.reduceNeg, Int.reduceToNat, Int.reduceAdd, Int.reduceSub]; try exact rfl) (by simp [go_sem]) ?_
  refine cw_callC rfl (by simp only [go_sem, Nat.reduceLT, Nat.reduceBEq, Nat.reduceLeDiff, Nat.reduceAdd, Nat.reduceMul, Nat.reduceSub, Nat.reduceEqDiff, Int.reduceNeg, Int.reduceToNat, Int.reduceAdd, Int.reduceSub]; try exact rfl) (by simp only [go_sem, Nat.reduceLT, Nat.reduceBEq, Nat.reduceLeDiff, Nat.reduceAdd, Nat.reduceMul, Nat.reduceSub, Nat.reduceEqDiff, Int.reduceNeg, Int.reduceToNat, Int.reduceAdd, Int.reduceSub]; try exact rfl) (by simp [go_sem]) ⟨_, Go.Proofs.Try.func133, by kernel_rfl, rfl⟩ (by simp [go_sem]) (fun hb => (bytesEqual_ok a.data b.data)) (by simp [go_sem]) (by simp only [go_sem, Nat.reduceLT, Nat.reduceBEq, Nat.reduceLeDiff, Nat.reduceAdd, Nat.reduceMul, Nat.reduceSub, Nat.reduceEqDiff, Int.reduceNeg, Int.reduceToNat, Int.reduceAdd, Int.reduceSub]; exact rfl) ?_
  refine cw_runN tabOK 1 (by simp only [go_sem, Nat.reduceLT, Nat.reduceBEq, Nat.reduceLeDiff, Nat.reduceAdd, Nat.reduceMul, Nat.reduceSub, Nat.reduceEqDiff, Int.reduceNeg, Int.reduceToNat, Int.reduceAdd, Int.reduceSub]; exact rfl) (by simp only [go_sem, Nat.reduceLT, Nat.reduceBEq, Nat.reduceLeDiff, Nat.reduceAdd, Nat.reduceMul, Nat.reduceSub, Nat.reduceEqDiff, Int.reduceNeg, Int.reduceToNat, Int.reduceAdd, Int.reduceSub]; exact rfl) (by simp only [go_sem, Nat.reduceLT, Nat.reduceBEq, Nat.reduceLeDiff, Nat.reduceAdd, Nat.reduceMul, Nat.reduceSub, Nat.reduceEqDiff, Int.reduceNeg, Int.reduceToNat, Int.reduceAdd, Int.reduceSub]; try exact rfl) (by simp [go_sem]) ?_
  refine cw_name 23 (by simp only [go_sem, Nat.reduceLT, Nat.reduceBEq, Nat.reduceLeDiff, Nat.reduceAdd, Nat.reduceMul, Nat.reduceSub, Nat.reduceEqDiff, Int.reduceNeg, Int.reduceToNat, Int.reduceAdd, Int.reduceSub]; exact rfl) (fun c23 h23 => ?_)
  simp only [go_sem, Nat.reduceLT, Nat.reduceBEq, Nat.reduceLeDiff, Nat.reduceAdd, Nat.reduceMul, Nat.reduceSub, Nat.reduceEqDiff, Int.reduceNeg, Int.reduceToNat, Int.reduceAdd, Int.reduceSub]
  refine cw_runN tabOK 5 (by simp only [go_sem, Nat.reduceLT, Nat.reduceBEq, Nat.reduceLeDiff, Nat.reduceAdd, Nat.reduceMul, Nat.reduceSub, Nat.reduceEqDiff, Int.reduceNeg, Int.reduceToNat, Int.reduceAdd, Int.reduceSub]; exact rfl) (by simp only [go_sem, Nat.reduceLT, Nat.reduceBEq, Nat.reduceLeDiff, Nat.reduceAdd, Nat.reduceMul, Nat.reduceSub, Nat.reduceEqDiff, Int.reduceNeg, Int.reduceToNat, Int.reduceAdd, Int.reduceSub]; exact rfl) (by simp only [go_sem, Nat.reduceLT, Nat.reduceBEq, Nat.reduceLeDiff, Nat.reduceAdd, Nat.reduceMul, Nat.reduceSub, Nat.reduceEqDiff, Int.reduceNeg, Int.reduceToNat, Int.reduceAdd, Int.reduceSub]; try exact rfl) (by simp [go_sem]) ?_
  refine cw_callC rfl (by simp only [go_sem, Nat.reduceLT, Nat.reduceBEq, Nat.reduceLeDiff, Nat.reduceAdd, Nat.reduceMul, Nat.reduceSub, Nat.reduceEqDiff, Int.reduceNeg, Int.reduceToNat, Int.reduceAdd, Int.reduceSub]; try exact rfl) (by simp only [go_sem, Nat.reduceLT, Nat.reduceBEq, Nat.reduceLeDiff, Nat.reduceAdd, Nat.reduceMul, Nat.reduceSub, Nat.reduceEqDiff, Int.reduceNeg, Int.reduceToNat, Int.reduceAdd, Int.reduceSub]; try exact rfl) (by simp [go_sem]) ⟨_, Go.Proofs.Try.func134, by kernel_rfl, rfl⟩ (by simp [go_sem]) (fun hb => (entriesEqual_ok a.entries b.entries hla hlb)) (by simp [go_sem]) (by simp only [go_sem, Nat.reduceLT, Nat.reduceBEq, Nat.reduceLeDiff, Nat.reduceAdd, Nat.reduceMul, Nat.reduceSub, Nat.reduceEqDiff, Int.reduceNeg, Int.reduceToNat, Int.reduceAdd, Int.reduceSub]; exact rfl) ?_
  refine cw_go tabOK 99 (by simp only [go_sem, Nat.reduceLT, Nat.reduceBEq, Nat.reduceLeDiff, Nat.reduceAdd, Nat.reduceMul, Nat.reduceSub, Nat.reduceEqDiff, Int.reduceNeg, Int.reduceToNat, Int.reduceAdd, Int.reduceSub]; try exact rfl) (by simp [go_sem]) ?_
  refine cw_ret ⟨_, _, (by simp only [go_sem, Nat.reduceLT, Nat.reduceBEq, Nat.reduceLeDiff, Nat.reduceAdd, Nat.reduceMul, Nat.reduceSub, Nat.reduceEqDiff, Int.reduceNeg, Int.reduceToNat, Int.reduceAdd, Int.reduceSub]; try exact rfl), by simp [go_sem], _, .inr (.inl rfl), ?_⟩
  subst h23 h16 h9
  unfold sameN
  cases (a.fid == b.fid) <;> cases (a.dir == b.dir) <;> cases (a.data == b.data) <;> cases decide (a.entries = b.entries) <;> rfl
end La

namespace La
open Go Go.Eng Go.Proofs
set_option maxRecDepth 10000
set_option linter.unusedSimpArgs false
set_option linter.unusedVariables false

set_option maxHeartbeats 1000000 in
theorem equalFunc_ok (a b : List Node) (ha : Small a) (hb : Small b) : FnOK Try.prog 131 [.sl (a.map nodeRow), .sl (b.map nodeRow), .fn 132 []] [] (fun r _ => r = .bool (sameT false a b)) := by
  have hla := ha.len
  have hlb := hb.len
  refine fn_of_cwW tabOK (Go.Proofs.Try.func131) rfl (fun C => ?_)
  simp only [Go.Proofs.Try.ntmps131, Go.Proofs.Try.results131, go_sem, Nat.reduceLT, Nat.reduceBEq, Nat.reduceLeDiff, Nat.reduceAdd, Nat.reduceMul, Nat.reduceSub, Nat.reduceEqDiff, Int.reduceNeg, Int.reduceToNat, Int.reduceAdd, Int.reduceSub]
  refine cw_go tabOK 99 (by simp only [go_sem, Nat.reduceLT, Nat.reduceBEq, Nat.reduceLeDiff, Nat.reduceAdd, Nat.reduceMul, Nat.reduceSub, Nat.reduceEqDiff, Int.reduceNeg, Int.reduceToNat, Int.reduceAdd, Int.reduceSub]; try exact rfl) (by simp [go_sem]) ?_
  refine cw_cond (by simp only [go_sem, Nat.reduceLT, Nat.reduceBEq, Nat.reduceLeDiff, Nat.reduceAdd, Nat.reduceMul, Nat.reduceSub, Nat.reduceEqDiff, Int.reduceNeg, Int.reduceToNat, Int.reduceAdd, Int.reduceSub]; try exact rfl) trivial (fun h => ?_) (fun h => ?_)
  · have hne : sameT false a b = false := by
      cases e : sameT false a b with
      | false => rfl
      | true => have := ((sameT_iff false a b).1 e).1; simp [this] at h
    refine cw_go tabOK 99 (by simp only [go_sem, Nat.reduceLT, Nat.reduceBEq, Nat.reduceLeDiff, Nat.reduceAdd, Nat.reduceMul, Nat.reduceSub, Nat.reduceEqDiff, Int.reduceNeg, Int.reduceToNat, Int.reduceAdd, Int.reduceSub]; try exact rfl) (by simp [go_sem]) ?_
    refine cw_ret ⟨_, _, (by simp only [go_sem, Nat.reduceLT, Nat.reduceBEq, Nat.reduceLeDiff, Nat.reduceAdd, Nat.reduceMul, Nat.reduceSub, Nat.reduceEqDiff, Int.reduceNeg, Int.reduceToNat, Int.reduceAdd, Int.reduceSub]; try exact rfl), by simp [go_sem], _, .inr (.inl rfl), ?_⟩
    simp [hne]
  have hl : a.length = b.length := by simp at h; omega
  refine cw_go tabOK 99 (by simp only [go_sem, Nat.reduceLT, Nat.reduceBEq, Nat.reduceLeDiff, Nat.reduceAdd, Nat.reduceMul, Nat.reduceSub, Nat.reduceEqDiff, Int.reduceNeg, Int.reduceToNat, Int.reduceAdd, Int.reduceSub]; try exact rfl) (by simp [go_sem]) ?_
  refine cw_loopS (fun i : Nat => i ≤ a.length ∧ ∀ j, j < i → sameN false (a.getD j default) (b.getD j default) = true) (fun i => a.length - i) (fun i => [(7, .any), (8, .any), (9, .any), (17, .int .i64 i), (18, .any), (19, .any), (20, .any), (21, .any), (22, .any), (23, .any), (24, .any), (25, .any), (26, .any), (27, .any), (28, .any), (29, .any), (30, .any), (31, .any)]) (fun _ => []) 0 ⟨by omega, by omega⟩ ?_ fun i hi => ?_
  · simp only [go_sem, Nat.reduceLT, Nat.reduceBEq, Nat.reduceLeDiff, Nat.reduceAdd, Nat.reduceMul, Nat.reduceSub, Nat.reduceEqDiff, Int.reduceNeg, Int.reduceToNat, Int.reduceAdd, Int.reduceSub]
    exact le_sub (by simp [go_sem]) (by simp [go_sem]) (by simp [go_sem])
  obtain ⟨hi, hs⟩ := hi
  simp only [go_sem, Nat.reduceLT, Nat.reduceBEq, Nat.reduceLeDiff, Nat.reduceAdd, Nat.reduceMul, Nat.reduceSub, Nat.reduceEqDiff, Int.reduceNeg, Int.reduceToNat, Int.reduceAdd, Int.reduceSub]
  refine cw_go tabOK 99 (by simp only [go_sem, Nat.reduceLT, Nat.reduceBEq, Nat.reduceLeDiff, Nat.reduceAdd, Nat.reduceMul, Nat.reduceSub, Nat.reduceEqDiff, Int.reduceNeg, Int.reduceToNat, Int.reduceAdd, Int.reduceSub]; try exact rfl) (by simp [go_sem]) ?_
  refine cw_cond (by simp only [go_sem, Nat.reduceLT, Nat.reduceBEq, Nat.reduceLeDiff, Nat.reduceAdd, Nat.reduceMul, Nat.reduceSub, Nat.reduceEqDiff, Int.reduceNeg, Int.reduceToNat, Int.reduceAdd, Int.reduceSub]; try exact rfl) trivial (fun h => ?_) (fun h => ?_)
  · have hlt : i < a.length := by simp at h; omega
    have hltb : i < b.length := by omega
    have hga : (a.map nodeRow).getD i [] = nodeRow (a.getD i default) := Fam.getD hlt
    have hgb : (b.map nodeRow).getD i [] = nodeRow (b.getD i default) := Fam.getD hltb
    have hsm := sameIs_ok _ _ (ha.each _ (getD_mem hlt)) (hb.each _ (getD_mem hltb))
    have hno : sameN false (a.getD i default) (b.getD i default) = false → sameT false a b = false := fun h0 => by
      cases e : sameT false a b with
      | false => rfl
      | true => rw [((sameT_iff false a b).1 e).2 i hlt] at h0; cases h0
    have hyes : sameN false (a.getD i default) (b.getD i default) = true → ∀ j, j < i + 1 → sameN false (a.getD j default) (b.getD j default) = true := fun h0 j hj => by
      rcases Nat.lt_succ_iff_lt_or_eq.1 hj with h1 | rfl
      · exact hs j h1
      · exact h0
    clear hs
    generalize a.getD i default = x at hga hsm hno hyes
    generalize b.getD i default = y at hgb hsm hno hyes
    refine cw_go tabOK 99 (by simp only [go_sem, Nat.reduceLT, Nat.reduceBEq, Nat.reduceLeDiff, Nat.reduceAdd, Nat.reduceMul, Nat.reduceSub, Nat.reduceEqDiff, Int.reduceNeg, Int.reduceToNat, Int.reduceAdd, Int.reduceSub, hga, hgb, nodeRow]; try exact rfl) ?_ ?_
    · simp [hga, hgb, nodeRow, hlt, hltb]
    refine cw_call rfl rfl (by simp only [go_sem, Nat.reduceLT, Nat.reduceBEq, Nat.reduceLeDiff, Nat.reduceAdd, Nat.reduceMul, Nat.reduceSub, Nat.reduceEqDiff, Int.reduceNeg, Int.reduceToNat, Int.reduceAdd, Int.reduceSub]; try exact rfl) (by simp [go_sem]) ⟨_, Go.Proofs.Try.func132, by kernel_rfl, rfl⟩ (by simp [go_sem]) (hsm) (by simp [go_sem]) (by simp only [go_sem, Nat.reduceLT, Nat.reduceBEq, Nat.reduceLeDiff, Nat.reduceAdd, Nat.reduceMul, Nat.reduceSub, Nat.reduceEqDiff, Int.reduceNeg, Int.reduceToNat, Int.reduceAdd, Int.reduceSub]; exact rfl) ?_
    refine cw_go tabOK 99 (by simp only [go_sem, Nat.reduceLT, Nat.reduceBEq, Nat.reduceLeDiff, Nat.reduceAdd, Nat.reduceMul, Nat.reduceSub, Nat.reduceEqDiff, Int.reduceNeg, Int.reduceToNat, Int.reduceAdd, Int.reduceSub]; try exact rfl) (by simp [go_sem]) ?_
    refine cw_cond (by simp only [go_sem, Nat.reduceLT, Nat.reduceBEq, Nat.reduceLeDiff, Nat.reduceAdd, Nat.reduceMul, Nat.reduceSub, Nat.reduceEqDiff, Int.reduceNeg, Int.reduceToNat, Int.reduceAdd, Int.reduceSub]; try exact rfl) trivial (fun h => ?_) (fun h => ?_)
    · have h0 : sameN false x y = false := by simpa using h
      have := hno h0
      refine cw_go tabOK 99 (by simp only [go_sem, Nat.reduceLT, Nat.reduceBEq, Nat.reduceLeDiff, Nat.reduceAdd, Nat.reduceMul, Nat.reduceSub, Nat.reduceEqDiff, Int.reduceNeg, Int.reduceToNat, Int.reduceAdd, Int.reduceSub]; try exact rfl) (by simp [go_sem]) ?_
      refine cw_ret ⟨_, _, (by simp only [go_sem, Nat.reduceLT, Nat.reduceBEq, Nat.reduceLeDiff, Nat.reduceAdd, Nat.reduceMul, Nat.reduceSub, Nat.reduceEqDiff, Int.reduceNeg, Int.reduceToNat, Int.reduceAdd, Int.reduceSub]; try exact rfl), by simp [go_sem], _, .inr (.inl rfl), ?_⟩
      simp [this]
    · have h0 : sameN false x y = true := by simpa using h
      have hw : IntKind.i64.wrap ((i : Int) + 1) = ((i + 1 : Nat) : Int) := by rw [Eng.wrap_small (by omega) (by omega)]; rfl
      refine cw_go tabOK 99 (by simp only [go_sem, Nat.reduceLT, Nat.reduceBEq, Nat.reduceLeDiff, Nat.reduceAdd, Nat.reduceMul, Nat.reduceSub, Nat.reduceEqDiff, Int.reduceNeg, Int.reduceToNat, Int.reduceAdd, Int.reduceSub, hw]; try exact rfl) (by simp [go_sem, hw]) ?_
      refine cw_back ⟨i + 1, ⟨by omega, hyes h0⟩, by omega, le_sub ?_ ?_ ?_⟩
      · simp [go_sem]
      · simp [go_sem]
      · simp [go_sem]
  · have e : i = a.length := by simp at h; omega
    subst e
    have hab : sameT false a b = true := (sameT_iff false a b).2 ⟨hl, hs⟩
    refine cw_go tabOK 99 (by simp only [go_sem, Nat.reduceLT, Nat.reduceBEq, Nat.reduceLeDiff, Nat.reduceAdd, Nat.reduceMul, Nat.reduceSub, Nat.reduceEqDiff, Int.reduceNeg, Int.reduceToNat, Int.reduceAdd, Int.reduceSub]; try exact rfl) (by simp [go_sem]) ?_
    refine cw_ret ⟨_, _, (by simp only [go_sem, Nat.reduceLT, Nat.reduceBEq, Nat.reduceLeDiff, Nat.reduceAdd, Nat.reduceMul, Nat.reduceSub, Nat.reduceEqDiff, Int.reduceNeg, Int.reduceToNat, Int.reduceAdd, Int.reduceSub]; try exact rfl), by simp [go_sem], _, .inr (.inl rfl), ?_⟩
    simp [hab]

theorem treeSame_ok (a b : List Node) (ha : Small a) (hb : Small b) : FnOK Try.prog 85 [.sl (a.map nodeRow), .sl (b.map nodeRow)] [] (fun r _ => r = .bool (sameT false a b)) := by
  refine fn_of_cwW tabOK (Go.Proofs.Try.func85) rfl (fun C => ?_)
  simp only [Go.Proofs.Try.ntmps85, Go.Proofs.Try.results85, go_sem, Nat.reduceLT, Nat.reduceBEq, Nat.reduceLeDiff, Nat.reduceAdd, Nat.reduceMul, Nat.reduceSub, Nat.reduceEqDiff, Int.reduceNeg, Int.reduceToNat, Int.reduceAdd, Int.reduceSub]
  refine cw_go tabOK 99 (by simp only [go_sem, Nat.reduceLT, Nat.reduceBEq, Nat.reduceLeDiff, Nat.reduceAdd, Nat.reduceMul, Nat.reduceSub, Nat.reduceEqDiff, Int.reduceNeg, Int.reduceToNat, Int.reduceAdd, Int.reduceSub]; try exact rfl) (by simp [go_sem]) ?_
  refine cw_call rfl rfl (by simp only [go_sem, Nat.reduceLT, Nat.reduceBEq, Nat.reduceLeDiff, Nat.reduceAdd, Nat.reduceMul, Nat.reduceSub, Nat.reduceEqDiff, Int.reduceNeg, Int.reduceToNat, Int.reduceAdd, Int.reduceSub]; try exact rfl) (by simp [go_sem]) ⟨_, Go.Proofs.Try.func131, by kernel_rfl, rfl⟩ (by simp [go_sem]) (equalFunc_ok a b ha hb) (by simp [go_sem]) (by simp only [go_sem, Nat.reduceLT, Nat.reduceBEq, Nat.reduceLeDiff, Nat.reduceAdd, Nat.reduceMul, Nat.reduceSub, Nat.reduceEqDiff, Int.reduceNeg, Int.reduceToNat, Int.reduceAdd, Int.reduceSub]; exact rfl) ?_
  refine cw_go tabOK 99 (by simp only [go_sem, Nat.reduceLT, Nat.reduceBEq, Nat.reduceLeDiff, Nat.reduceAdd, Nat.reduceMul, Nat.reduceSub, Nat.reduceEqDiff, Int.reduceNeg, Int.reduceToNat, Int.reduceAdd, Int.reduceSub]; try exact rfl) (by simp [go_sem]) ?_
  refine cw_ret ⟨_, _, (by simp only [go_sem, Nat.reduceLT, Nat.reduceBEq, Nat.reduceLeDiff, Nat.reduceAdd, Nat.reduceMul, Nat.reduceSub, Nat.reduceEqDiff, Int.reduceNeg, Int.reduceToNat, Int.reduceAdd, Int.reduceSub]; try exact rfl), by simp [go_sem], _, .inr (.inl rfl), ?_⟩
  rfl
end La

namespace Go.Eng
section
variable {P : Program} {T : Tab} {C : Ctx} {μ : Nat → Option Nat} {S : Nat → Prop} {σ σ' : St} {a : Act} {w w' : World} {Ret : St → Prop} {k : List It}

/-- what is read is the same -/
def SameRd (S : Nat → Prop) (w w' : World) : Prop := ∀ b, S b → (∀ off, w'.cell? ⟨b, off, none⟩ = w.cell? ⟨b, off, none⟩) ∧ ∀ es clk, w.heap[b]? = some (.map es clk) → w'.heap[b]? = some (.map es clk)

theorem RdP.read {v : Value} {x : AV} (h : RdP S w v x) (hw : SameRd S w w') : RdP S w' v x := by
  induction h with
  | int k n => exact .int k n
  | bool b => exact .bool b
  | str s l h => exact .str s l h
  | nilp => exact .nilp
  | nili => exact .nili
  | nils => exact .nils
  | nilm => exact .nilm
  | sl A len cap rows size g off vals hl hc hsz hA hcell hr ih =>
    refine .sl A len cap rows size g off vals hl hc hsz hA (fun i j hi hj => ?_) ih
    rw [(hw g (hA (by omega)).2).1]
    exact hcell i j hi hj
  | rp g o off cells vals hS hcell hr ih =>
    refine .rp g o off cells vals hS (fun j hj => ?_) ih
    rw [(hw g hS).1]
    exact hcell j hj
  | rm g es clk kvs vals hS hg hm hr ih => exact .rm g es clk kvs vals hS ((hw g hS).2 es clk hg) hm ih
  | fn f vals caps hl hr ih => exact .fn f vals caps hl ih
  | agg cs cells hl hr ih => exact .agg cs cells hl ih

theorem Rd.read {v : Value} {x : AV} (h : Rd μ S w v x) (hw : SameRd S w w') (hz : ∀ id g, μ id = some g → rowSize w' g = rowSize w g) : Rd μ S w' v x := by
  induction h with
  | any v => exact .any v
  | pure h => exact .pure (h.read hw)
  | agg cs cells hl hr ih => exact .agg cs cells hl ih
  | tup vs xs hl hr ih => exact .tup vs xs hl ih
  | fn f vals caps hl hr ih => exact .fn f vals caps hl ih
  | ptr id size row off g hg => exact .ptr id size row off g hg
  | osl id size off len cap A hc h =>
    refine .osl id size off len cap A hc ?_
    rcases h with h | ⟨g, e, n, h1, h2, h3, h4⟩
    · exact .inl h
    · exact .inr ⟨g, e, n, h1, h2, (hz _ _ h1).trans h3, h4⟩
  | mp id g hg => exact .mp id g hg
  | cndT v x h ih => exact .cndT v x ih
  | cndF x => exact .cndF x

theorem BlkOK.read {id : Nat} {b : Blk} (h : BlkOK μ S w id b) (hw : SameRd S w w') (hb : ∀ id g, μ id = some g → w'.heap[g]? = w.heap[g]?) : BlkOK μ S w' id b := by
  have hz : ∀ id g, μ id = some g → rowSize w' g = rowSize w g := fun id g h => rowSize_same (hb id g h)
  cases b with
  | cells e s rows =>
    rcases h with ⟨h1, h2⟩ | ⟨g, c, h1, h2, h3, h4, h5⟩
    · exact .inl ⟨h1, h2⟩
    · exact .inr ⟨g, c, h1, (hb _ _ h1).trans h2, h3, h4, fun i row hi j x hj => (h5 i row hi j x hj).read hw hz⟩
  | map kvs =>
    obtain ⟨g, es, clk, vals, h1, h2, h3, h4⟩ := h
    exact ⟨g, es, clk, vals, h1, (hb _ _ h1).trans h2, h3, fun p hi => (h4 p hi).read hw⟩
  | iter kvs seen =>
    obtain ⟨g, es, clk, vals, had, h1, h2, h4⟩ := h
    obtain ⟨m, k1, k2, k3⟩ := h2.lies
    exact ⟨g, es, clk, vals, had, h1, ⟨⟨m, (hb _ _ h1).trans k1, k2, (hw m k2).2 _ _ k3⟩, h2.map, h2.had⟩, fun p hi => (h4 p hi).read hw⟩
  | cap id' s N =>
    obtain ⟨h1, g, e, h2, h3⟩ := h
    exact ⟨h1, g, e, h2, (hz _ _ h2).trans h3⟩

/-- a block of ours that is read alone bears a mark -/
theorem Inv.mark (hi : Inv C μ S σ a w) {g : Nat} {c : Array Value} {e : TypeId} {f f' : Nat × Nat} (hA : C.A0 g ∨ C.w0.heap.size ≤ g) (hg : w.heap[g]? = some (.cells c e f)) (hno : ∀ id, μ id ≠ some g)
    (hos : w'.os = w.os) (htp : w'.tape = w.tape) (hout : w'.output = w.output) (hsz : w'.heap.size = w.heap.size) (hne : ∀ b, b ≠ g → w'.heap[b]? = w.heap[b]?) (hg' : w'.heap[g]? = some (.cells c e f')) : Inv C μ S σ a w' := by
  have hw : SameRd S w w' := fun b hb => by
    by_cases h : b = g
    · subst h
      refine ⟨fun off => ?_, fun es clk h => ?_⟩
      · rw [cell_of hg', cell_of hg]
      · rw [hg] at h; cases h
    · refine ⟨fun off => cell_same (hne b h), fun es clk h1 => ?_⟩
      rw [hne b h]; exact h1
  have hb : ∀ id q, μ id = some q → w'.heap[q]? = w.heap[q]? := fun id q h => hne q (by rintro rfl; exact hno id h)
  refine ⟨hi.size, hi.defers, fun t x hx => (hi.tm t x hx).read hw (fun id q h => rowSize_same (hb id q h)), fun id b h => (hi.hp id b h).read hw hb, fun id q h => ?_, hi.inj, ?_, fun b hb => ?_⟩
  · obtain ⟨h1, h2, h3, h4⟩ := hi.dom id q h
    exact ⟨h1, h2, h3, by omega⟩
  · exact hi.frm.step (fun b => b = g) ⟨hos, htp, hout, by omega, fun b _ h => hne b h⟩ (fun b h => by rw [h]; exact hA)
  · have := hi.sb b hb
    exact ⟨by omega, this.2⟩

/-- THE BYTES OF A CONSTANT TEXT: the block is written no more. -/
theorem trip_bytes (hT : TabOK P T) {o : Oper} {t e : TypeId} {x : Operand} (ho : o.op = .convert t t x) (ht : T.und t = .sl e) (he : T.und e = .int .u8) {id e' n : Nat} {rows : List (List AV)} (hx : evS σ x = (True, .osl id 1 0 n)) (hb : hget σ.hp id = some (.cells e' 1 rows)) (hn : 0 < n) (hl : rows.length = n)
    (hp : (rows.all fun row => row.all AV.pureB) = true) : Trip P C o σ (St.put ⟨σ.tm.map (frz id 1 rows), frzH id 1 rows σ.hp⟩ o.dst (.sl rows)) := by
  intro a w K Q ⟨μ, S, hi⟩ hK
  have hv := hi.evS x (by rw [hx]; trivial)
  rw [hx] at hv
  have hfz := inv_freeze hb hp hi
  have hA0 := hi.hp id _ hb
  obtain ⟨A, cap, hv', hc, hor⟩ := hv.inv_osl
  have hty : P.underlying t = some (.slice e) := by have := hT.und t; rw [ht] at this; exact this
  have hte : P.underlying e = some (.int .u8) := by have := hT.und e; rw [he] at this; exact this
  rcases hor with ⟨h1, _⟩ | ⟨g, e2, m, h1, rfl, h3, h4⟩
  · omega
  rcases hA0 with ⟨rfl, _⟩ | ⟨g', c, k1, k2, k3, k4, k5⟩
  · simp at hl; omega
  rw [h1] at k1; injection k1 with k1; subst k1
  have hdom := hi.dom id g h1
  have hsh : w.shape? g = some (e', c.size) := by unfold World.shape?; rw [k2]
  have hlt : g < w.heap.size := hdom.2.2.2
  obtain ⟨w1, hw1, q1, q2, q3, q4, q5, q6⟩ : ∃ w1, w.freeze ⟨g, c.size, none⟩ 1 = w1 ∧ w1.os = w.os ∧ w1.tape = w.tape ∧ w1.output = w.output ∧ w1.heap.size = w.heap.size ∧ (∀ b, b ≠ g → w1.heap[b]? = w.heap[b]?) ∧ w1.heap[g]? = some (.cells c e' (c.size, c.size + 1)) := by
    refine ⟨_, rfl, ?_⟩
    unfold World.freeze
    rw [if_neg (by decide)]
    refine ⟨rfl, rfl, rfl, by simp, fun b hb => ?_, ?_⟩
    · simp [Array.getElem?_modify, Ne.symm hb]
    · have hgl := k2
      simp only [Array.getElem?_modify, if_true, hgl]
      rfl
  have hrun : (convert t t (.slice (some ⟨g, 0, none⟩) n cap)).run P w = .ok (.slice (some ⟨g, 0, none⟩) n cap) w1 := by
    simp [convert, run_underlying hty, run_underlying hte, markStringish, hsh, hw1]
  have e1 : a.eval x = .slice (some ⟨g, 0, none⟩) n cap := by rw [hv']
  have hex : (execOp a.eval o).run P w = .ok (.value (.slice (some ⟨g, 0, none⟩) n cap)) w1 := by
    simp only [execOp, ho, e1, Sem.run_bind, hrun]
    rfl
  have hmk := hfz.mark (w' := w1) hdom.2.1 k2 (fun i h => by
    unfold upd at h
    split at h
    · cases h
    · rename_i hne; exact hne (hi.inj _ _ _ h h1)) q1 q2 q3 q4 q5 q6
  unfold Oper.wp
  rw [hex]
  refine hK _ _ ⟨_, _, hmk.put o.dst (.pure ?_)⟩
  refine .sl _ n cap rows 1 g 0 (fun i j => c.getD (i * 1 + j) undef) hl hc k4 (fun _ => ⟨rfl, .inr h1⟩) (fun i j hi' hj => ?_) (fun i row hi' j y hy => ?_)
  · have hj0 : j = 0 := by omega
    subst hj0
    rw [cell_of q6, Array.getD_eq_getD_getElem?, Array.getElem?_eq_getElem (by omega)]
    simp [Array.getElem?_eq_getElem (show i < c.size by omega)]
  · have hpy := List.all_eq_true.1 (List.all_eq_true.1 hp row (List.mem_of_getElem? hi')) y (List.mem_of_getElem? hy)
    have h0 := ((k5 i row hi' j y hy).toP hpy).mono (SameOn.refl _ _) (S' := fun b => S b ∨ μ id = some b) (fun _ h => .inl h)
    refine h0.read fun b hb => ?_
    by_cases hbg : b = g
    · subst hbg
      exact ⟨fun off => by rw [cell_of q6, cell_of k2], fun es clk h => by rw [k2] at h; cases h⟩
    · exact ⟨fun off => cell_same (q5 b hbg), fun es clk h => by rw [q5 b hbg]; exact h⟩
end
end Go.Eng

namespace La
open Go Go.Eng Go.Proofs
set_option maxRecDepth 10000
set_option linter.unusedSimpArgs false
set_option linter.unusedVariables false

def rootN : Node := ⟨0, true, [], [], 0⟩
def a2N : Node := ⟨3, false, [120], [], 0⟩
def a2R : Node := ⟨0, true, [], [⟨[97], 3⟩], 0⟩
theorem node_small (n : Node) (h1 : n.data.length ≤ 1000) (h2 : n.entries.length ≤ 1000) : n.Small := ⟨by omega, by omega⟩
theorem smallC_of (l : List Node) (h : l.length ≤ 1000) (h2 : ∀ n, n ∈ l → n.data.length ≤ 1000 ∧ n.entries.length ≤ 1000) : Small l := ⟨by omega, fun n hn => node_small n (h2 n hn).1 (h2 n hn).2⟩
theorem a2s0 : Small [rootN] := smallC_of _ (by decide) (by decide)
theorem a2s1 : Small [rootN, a2N] := smallC_of _ (by decide) (by decide)
theorem a2s2 : Small [a2R, a2N] := smallC_of _ (by decide) (by decide)
theorem a2p1 : FnOK Try.prog 32 [.sl ([rootN].map nodeRow), .agg (nodeRow a2N)] [] (fun r _ => r = .sl ([rootN, a2N].map nodeRow)) := put_ok [rootN] a2N a2s0 (a2s1.each _ (by simp))
theorem a2p2 : FnOK Try.prog 37 [.agg (nodeRow rootN), .str [97], .int .i64 3] [] (fun r _ => r = .agg (nodeRow a2R)) := enter_ok rootN [97] 3 (a2s0.each _ (by simp))
theorem a2p3 : FnOK Try.prog 32 [.sl ([rootN, a2N].map nodeRow), .agg (nodeRow a2R)] [] (fun r _ => r = .sl ([a2R, a2N].map nodeRow)) := put_ok [rootN, a2N] a2R a2s1 (a2s2.each _ (by simp))
theorem a2p4 : FnOK Try.prog 33 [.sl ([a2R, a2N].map nodeRow), .int .i64 3] [] (fun r _ => r = .tup [.agg (nodeRow a2N), .bool true]) := find_ok [a2R, a2N] 3 a2s2
theorem a2p5 : FnOK Try.prog 83 [.sl ([a2R, a2N].map nodeRow), .sl ([[97]].map strRow)] [] (fun r _ => r = .tup [.int .i64 3, .int .i64 0]) := walk_ok [a2R, a2N] [[97]] a2s2 (by decide)
theorem a2p6 : FnOK Try.prog 36 [.agg (nodeRow a2R), .str [97]] [] (fun r _ => r = .tup [.int .i64 3, .bool true]) := entry_ok a2R [97] (a2s2.each _ (by simp))
theorem a2p7 : FnOK Try.prog 84 [.sl ([a2R, a2N].map nodeRow), .int .i64 3, .int .i64 0] [] (fun r _ => r = .bool true) := within_ok [a2R, a2N] a2s2 3 2 0 true (by decide)
theorem a2p8 : FnOK Try.prog 84 [.sl ([a2R, a2N].map nodeRow), .int .i64 0, .int .i64 3] [] (fun r _ => r = .bool false) := within_ok [a2R, a2N] a2s2 0 2 3 false (by decide)
theorem a2p9 : FnOK Try.prog 35 [.sl ([a2R, a2N].map nodeRow), .int .i64 3] [] (fun r _ => r = .sl ([a2R].map nodeRow)) := drop_ok [a2R, a2N] 3 a2s2
theorem a2p10 : FnOK Try.prog 38 [.agg (nodeRow a2R), .str [97]] [] (fun r _ => r = .agg (nodeRow rootN)) := leave_ok a2R [97] (a2s2.each _ (by simp))
theorem a2p11 : FnOK Try.prog 86 [.sl ([a2R, a2N].map nodeRow)] [] (fun r _ => r = .sl ([a2R, a2N].map nodeRow)) := own_ok [a2R, a2N] a2s2
theorem a2p12 : FnOK Try.prog 85 [.sl ([a2R, a2N].map nodeRow), .sl ([a2R, a2N].map nodeRow)] [] (fun r _ => r = .bool true) := treeSame_ok [a2R, a2N] [a2R, a2N] a2s2 a2s2

set_option maxHeartbeats 2000000 in
theorem alive2 : FnOK Try.prog 31 [] [] (fun r _ => r = .bool true) := by
  refine fn_of_cwW tabOK (Go.Proofs.Try.func31) rfl (fun C => ?_)
  simp only [Go.Proofs.Try.ntmps31, Go.Proofs.Try.results31, go_sem, Nat.reduceLT, Nat.reduceBEq, Nat.reduceLeDiff, Nat.reduceAdd, Nat.reduceMul, Nat.reduceSub, Nat.reduceEqDiff, Int.reduceNeg, Int.reduceToNat, Int.reduceAdd, Int.reduceSub]
  refine cw_go tabOK 99 (by simp only [go_sem, Nat.reduceLT, Nat.reduceBEq, Nat.reduceLeDiff, Nat.reduceAdd, Nat.reduceMul, Nat.reduceSub, Nat.reduceEqDiff, Int.reduceNeg, Int.reduceToNat, Int.reduceAdd, Int.reduceSub]; try exact rfl) (by simp [go_sem]) ?_
  refine cw_call rfl rfl (by simp only [go_sem, Nat.reduceLT, Nat.reduceBEq, Nat.reduceLeDiff, Nat.reduceAdd, Nat.reduceMul, Nat.reduceSub, Nat.reduceEqDiff, Int.reduceNeg, Int.reduceToNat, Int.reduceAdd, Int.reduceSub]; try exact rfl) (by simp [go_sem]) ⟨_, Go.Proofs.Try.func82, by kernel_rfl, rfl⟩ (by simp [go_sem]) (new_ok) (by simp [go_sem]) (by simp only [go_sem, Nat.reduceLT, Nat.reduceBEq, Nat.reduceLeDiff, Nat.reduceAdd, Nat.reduceMul, Nat.reduceSub, Nat.reduceEqDiff, Int.reduceNeg, Int.reduceToNat, Int.reduceAdd, Int.reduceSub]; exact rfl) ?_
  refine cw_go tabOK 99 (by simp only [go_sem, Nat.reduceLT, Nat.reduceBEq, Nat.reduceLeDiff, Nat.reduceAdd, Nat.reduceMul, Nat.reduceSub, Nat.reduceEqDiff, Int.reduceNeg, Int.reduceToNat, Int.reduceAdd, Int.reduceSub]; try exact rfl) (by simp [go_sem]) ?_
  refine cw_step rfl (trip_bytes tabOK rfl rfl rfl (id := 9) (n := 1) (by simp only [go_sem, Nat.reduceLT, Nat.reduceBEq, Nat.reduceLeDiff, Nat.reduceAdd, Nat.reduceMul, Nat.reduceSub, Nat.reduceEqDiff, Int.reduceNeg, Int.reduceToNat, Int.reduceAdd, Int.reduceSub]; try exact rfl) (by simp only [go_sem, Nat.reduceLT, Nat.reduceBEq, Nat.reduceLeDiff, Nat.reduceAdd, Nat.reduceMul, Nat.reduceSub, Nat.reduceEqDiff, Int.reduceNeg, Int.reduceToNat, Int.reduceAdd, Int.reduceSub]; exact rfl) (by decide) rfl rfl) ?_
  simp only [go_sem, Nat.reduceLT, Nat.reduceBEq, Nat.reduceLeDiff, Nat.reduceAdd, Nat.reduceMul, Nat.reduceSub, Nat.reduceEqDiff, Int.reduceNeg, Int.reduceToNat, Int.reduceAdd, Int.reduceSub]
  refine cw_go tabOK 99 (by simp only [go_sem, Nat.reduceLT, Nat.reduceBEq, Nat.reduceLeDiff, Nat.reduceAdd, Nat.reduceMul, Nat.reduceSub, Nat.reduceEqDiff, Int.reduceNeg, Int.reduceToNat, Int.reduceAdd, Int.reduceSub]; try exact rfl) (by simp [go_sem]) ?_
  refine cw_call rfl rfl (by simp only [go_sem, Nat.reduceLT, Nat.reduceBEq, Nat.reduceLeDiff, Nat.reduceAdd, Nat.reduceMul, Nat.reduceSub, Nat.reduceEqDiff, Int.reduceNeg, Int.reduceToNat, Int.reduceAdd, Int.reduceSub]; try exact rfl) (by simp [go_sem]) ⟨_, Go.Proofs.Try.func32, by kernel_rfl, rfl⟩ (by simp [go_sem]) (by exact FnOK.nrm rfl (a2p1)) (by simp [go_sem]) (by simp only [go_sem, Nat.reduceLT, Nat.reduceBEq, Nat.reduceLeDiff, Nat.reduceAdd, Nat.reduceMul, Nat.reduceSub, Nat.reduceEqDiff, Int.reduceNeg, Int.reduceToNat, Int.reduceAdd, Int.reduceSub]; exact rfl) ?_
  refine cw_go tabOK 99 (by simp only [go_sem, Nat.reduceLT, Nat.reduceBEq, Nat.reduceLeDiff, Nat.reduceAdd, Nat.reduceMul, Nat.reduceSub, Nat.reduceEqDiff, Int.reduceNeg, Int.reduceToNat, Int.reduceAdd, Int.reduceSub]; try exact rfl) (by simp [go_sem]) ?_
  refine cw_condF (by simp only [go_sem, Nat.reduceLT, Nat.reduceBEq, Nat.reduceLeDiff, Nat.reduceAdd, Nat.reduceMul, Nat.reduceSub, Nat.reduceEqDiff, Int.reduceNeg, Int.reduceToNat, Int.reduceAdd, Int.reduceSub]; try exact rfl) trivial (by rfl) ?_
  refine cw_go tabOK 99 (by simp only [go_sem, Nat.reduceLT, Nat.reduceBEq, Nat.reduceLeDiff, Nat.reduceAdd, Nat.reduceMul, Nat.reduceSub, Nat.reduceEqDiff, Int.reduceNeg, Int.reduceToNat, Int.reduceAdd, Int.reduceSub, nodeRow, rootN, a2N]; try exact rfl) ?_ ?_
  · simp [nodeRow]
  refine cw_call rfl rfl (by simp only [go_sem, Nat.reduceLT, Nat.reduceBEq, Nat.reduceLeDiff, Nat.reduceAdd, Nat.reduceMul, Nat.reduceSub, Nat.reduceEqDiff, Int.reduceNeg, Int.reduceToNat, Int.reduceAdd, Int.reduceSub]; try exact rfl) (by simp [go_sem]) ⟨_, Go.Proofs.Try.func37, by kernel_rfl, rfl⟩ (by simp [go_sem]) (a2p2) (by simp [go_sem]) (by simp only [go_sem, Nat.reduceLT, Nat.reduceBEq, Nat.reduceLeDiff, Nat.reduceAdd, Nat.reduceMul, Nat.reduceSub, Nat.reduceEqDiff, Int.reduceNeg, Int.reduceToNat, Int.reduceAdd, Int.reduceSub]; exact rfl) ?_
  refine cw_go tabOK 99 (by simp only [go_sem, Nat.reduceLT, Nat.reduceBEq, Nat.reduceLeDiff, Nat.reduceAdd, Nat.reduceMul, Nat.reduceSub, Nat.reduceEqDiff, Int.reduceNeg, Int.reduceToNat, Int.reduceAdd, Int.reduceSub]; try exact rfl) (by simp [go_sem]) ?_
  refine cw_call rfl rfl (by simp only [go_sem, Nat.reduceLT, Nat.reduceBEq, Nat.reduceLeDiff, Nat.reduceAdd, Nat.reduceMul, Nat.reduceSub, Nat.reduceEqDiff, Int.reduceNeg, Int.reduceToNat, Int.reduceAdd, Int.reduceSub]; try exact rfl) (by simp [go_sem]) ⟨_, Go.Proofs.Try.func32, by kernel_rfl, rfl⟩ (by simp [go_sem]) (a2p3) (by simp [go_sem]) (by simp only [go_sem, Nat.reduceLT, Nat.reduceBEq, Nat.reduceLeDiff, Nat.reduceAdd, Nat.reduceMul, Nat.reduceSub, Nat.reduceEqDiff, Int.reduceNeg, Int.reduceToNat, Int.reduceAdd, Int.reduceSub]; exact rfl) ?_
  refine cw_go tabOK 99 (by simp only [go_sem, Nat.reduceLT, Nat.reduceBEq, Nat.reduceLeDiff, Nat.reduceAdd, Nat.reduceMul, Nat.reduceSub, Nat.reduceEqDiff, Int.reduceNeg, Int.reduceToNat, Int.reduceAdd, Int.reduceSub]; try exact rfl) (by simp [go_sem]) ?_
  refine cw_call rfl rfl (by simp only [go_sem, Nat.reduceLT, Nat.reduceBEq, Nat.reduceLeDiff, Nat.reduceAdd, Nat.reduceMul, Nat.reduceSub, Nat.reduceEqDiff, Int.reduceNeg, Int.reduceToNat, Int.reduceAdd, Int.reduceSub]; try exact rfl) (by simp [go_sem]) ⟨_, Go.Proofs.Try.func33, by kernel_rfl, rfl⟩ (by simp [go_sem]) (a2p4) (by simp [go_sem]) (by simp only [go_sem, Nat.reduceLT, Nat.reduceBEq, Nat.reduceLeDiff, Nat.reduceAdd, Nat.reduceMul, Nat.reduceSub, Nat.reduceEqDiff, Int.reduceNeg, Int.reduceToNat, Int.reduceAdd, Int.reduceSub]; exact rfl) ?_
  refine cw_go tabOK 99 (by simp only [go_sem, Nat.reduceLT, Nat.reduceBEq, Nat.reduceLeDiff, Nat.reduceAdd, Nat.reduceMul, Nat.reduceSub, Nat.reduceEqDiff, Int.reduceNeg, Int.reduceToNat, Int.reduceAdd, Int.reduceSub, nodeRow, a2N]; try exact rfl) ?_ ?_
  · simp [nodeRow]
  refine cw_freeze 29 rfl (rfl) ?_
  simp only [go_sem, Nat.reduceLT, Nat.reduceBEq, Nat.reduceLeDiff, Nat.reduceAdd, Nat.reduceMul, Nat.reduceSub, Nat.reduceEqDiff, Int.reduceNeg, Int.reduceToNat, Int.reduceAdd, Int.reduceSub]
  refine cw_call rfl rfl (by simp only [go_sem, Nat.reduceLT, Nat.reduceBEq, Nat.reduceLeDiff, Nat.reduceAdd, Nat.reduceMul, Nat.reduceSub, Nat.reduceEqDiff, Int.reduceNeg, Int.reduceToNat, Int.reduceAdd, Int.reduceSub]; try exact rfl) (by simp [go_sem]) ⟨_, Go.Proofs.Try.func83, by kernel_rfl, rfl⟩ (by simp [go_sem]) (a2p5) (by simp [go_sem]) (by simp only [go_sem, Nat.reduceLT, Nat.reduceBEq, Nat.reduceLeDiff, Nat.reduceAdd, Nat.reduceMul, Nat.reduceSub, Nat.reduceEqDiff, Int.reduceNeg, Int.reduceToNat, Int.reduceAdd, Int.reduceSub]; exact rfl) ?_
  refine cw_go tabOK 99 (by simp only [go_sem, Nat.reduceLT, Nat.reduceBEq, Nat.reduceLeDiff, Nat.reduceAdd, Nat.reduceMul, Nat.reduceSub, Nat.reduceEqDiff, Int.reduceNeg, Int.reduceToNat, Int.reduceAdd, Int.reduceSub, nodeRow, a2R]; try exact rfl) ?_ ?_
  · simp [nodeRow]
  refine cw_call rfl rfl (by simp only [go_sem, Nat.reduceLT, Nat.reduceBEq, Nat.reduceLeDiff, Nat.reduceAdd, Nat.reduceMul, Nat.reduceSub, Nat.reduceEqDiff, Int.reduceNeg, Int.reduceToNat, Int.reduceAdd, Int.reduceSub]; try exact rfl) (by simp [go_sem]) ⟨_, Go.Proofs.Try.func36, by kernel_rfl, rfl⟩ (by simp [go_sem]) (a2p6) (by simp [go_sem]) (by simp only [go_sem, Nat.reduceLT, Nat.reduceBEq, Nat.reduceLeDiff, Nat.reduceAdd, Nat.reduceMul, Nat.reduceSub, Nat.reduceEqDiff, Int.reduceNeg, Int.reduceToNat, Int.reduceAdd, Int.reduceSub]; exact rfl) ?_
  refine cw_go tabOK 99 (by simp only [go_sem, Nat.reduceLT, Nat.reduceBEq, Nat.reduceLeDiff, Nat.reduceAdd, Nat.reduceMul, Nat.reduceSub, Nat.reduceEqDiff, Int.reduceNeg, Int.reduceToNat, Int.reduceAdd, Int.reduceSub, nodeRow, a2N]; try exact rfl) ?_ ?_
  · simp [nodeRow]
  refine cw_callC rfl (by simp only [go_sem, Nat.reduceLT, Nat.reduceBEq, Nat.reduceLeDiff, Nat.reduceAdd, Nat.reduceMul, Nat.reduceSub, Nat.reduceEqDiff, Int.reduceNeg, Int.reduceToNat, Int.reduceAdd, Int.reduceSub]; try exact rfl) (by simp only [go_sem, Nat.reduceLT, Nat.reduceBEq, Nat.reduceLeDiff, Nat.reduceAdd, Nat.reduceMul, Nat.reduceSub, Nat.reduceEqDiff, Int.reduceNeg, Int.reduceToNat, Int.reduceAdd, Int.reduceSub]; try exact rfl) (by simp [go_sem]) ⟨_, Go.Proofs.Try.func84, by kernel_rfl, rfl⟩ (by simp [go_sem]) (fun hb => (a2p7)) (by simp [go_sem]) (by simp only [go_sem, Nat.reduceLT, Nat.reduceBEq, Nat.reduceLeDiff, Nat.reduceAdd, Nat.reduceMul, Nat.reduceSub, Nat.reduceEqDiff, Int.reduceNeg, Int.reduceToNat, Int.reduceAdd, Int.reduceSub]; exact rfl) ?_
  refine cw_go tabOK 99 (by simp only [go_sem, Nat.reduceLT, Nat.reduceBEq, Nat.reduceLeDiff, Nat.reduceAdd, Nat.reduceMul, Nat.reduceSub, Nat.reduceEqDiff, Int.reduceNeg, Int.reduceToNat, Int.reduceAdd, Int.reduceSub]; try exact rfl) (by simp [go_sem]) ?_
  refine cw_callC rfl (by simp only [go_sem, Nat.reduceLT, Nat.reduceBEq, Nat.reduceLeDiff, Nat.reduceAdd, Nat.reduceMul, Nat.reduceSub, Nat.reduceEqDiff, Int.reduceNeg, Int.reduceToNat, Int.reduceAdd, Int.reduceSub]; try exact rfl) (by simp only [go_sem, Nat.reduceLT, Nat.reduceBEq, Nat.reduceLeDiff, Nat.reduceAdd, Nat.reduceMul, Nat.reduceSub, Nat.reduceEqDiff, Int.reduceNeg, Int.reduceToNat, Int.reduceAdd, Int.reduceSub]; try exact rfl) (by simp [go_sem]) ⟨_, Go.Proofs.Try.func84, by kernel_rfl, rfl⟩ (by simp [go_sem]) (fun hb => (a2p8)) (by simp [go_sem]) (by simp only [go_sem, Nat.reduceLT, Nat.reduceBEq, Nat.reduceLeDiff, Nat.reduceAdd, Nat.reduceMul, Nat.reduceSub, Nat.reduceEqDiff, Int.reduceNeg, Int.reduceToNat, Int.reduceAdd, Int.reduceSub]; exact rfl) ?_
  refine cw_go tabOK 99 (by simp only [go_sem, Nat.reduceLT, Nat.reduceBEq, Nat.reduceLeDiff, Nat.reduceAdd, Nat.reduceMul, Nat.reduceSub, Nat.reduceEqDiff, Int.reduceNeg, Int.reduceToNat, Int.reduceAdd, Int.reduceSub]; try exact rfl) (by simp [go_sem]) ?_
  refine cw_callC rfl (by simp only [go_sem, Nat.reduceLT, Nat.reduceBEq, Nat.reduceLeDiff, Nat.reduceAdd, Nat.reduceMul, Nat.reduceSub, Nat.reduceEqDiff, Int.reduceNeg, Int.reduceToNat, Int.reduceAdd, Int.reduceSub]; try exact rfl) (by simp only [go_sem, Nat.reduceLT, Nat.reduceBEq, Nat.reduceLeDiff, Nat.reduceAdd, Nat.reduceMul, Nat.reduceSub, Nat.reduceEqDiff, Int.reduceNeg, Int.reduceToNat, Int.reduceAdd, Int.reduceSub]; try exact rfl) (by simp [go_sem]) ⟨_, Go.Proofs.Try.func35, by kernel_rfl, rfl⟩ (by simp [go_sem]) (fun hb => (a2p9)) (by simp [go_sem]) (by simp only [go_sem, Nat.reduceLT, Nat.reduceBEq, Nat.reduceLeDiff, Nat.reduceAdd, Nat.reduceMul, Nat.reduceSub, Nat.reduceEqDiff, Int.reduceNeg, Int.reduceToNat, Int.reduceAdd, Int.reduceSub]; exact rfl) ?_
  refine cw_go tabOK 99 (by simp only [go_sem, Nat.reduceLT, Nat.reduceBEq, Nat.reduceLeDiff, Nat.reduceAdd, Nat.reduceMul, Nat.reduceSub, Nat.reduceEqDiff, Int.reduceNeg, Int.reduceToNat, Int.reduceAdd, Int.reduceSub, nodeRow, a2R]; try exact rfl) ?_ ?_
  · simp [go_sem, nodeRow]
  refine cw_callC rfl (by simp only [go_sem, Nat.reduceLT, Nat.reduceBEq, Nat.reduceLeDiff, Nat.reduceAdd, Nat.reduceMul, Nat.reduceSub, Nat.reduceEqDiff, Int.reduceNeg, Int.reduceToNat, Int.reduceAdd, Int.reduceSub]; try exact rfl) (by simp only [go_sem, Nat.reduceLT, Nat.reduceBEq, Nat.reduceLeDiff, Nat.reduceAdd, Nat.reduceMul, Nat.reduceSub, Nat.reduceEqDiff, Int.reduceNeg, Int.reduceToNat, Int.reduceAdd, Int.reduceSub]; try exact rfl) (by simp [go_sem]) ⟨_, Go.Proofs.Try.func38, by kernel_rfl, rfl⟩ (by simp [go_sem]) (fun hb => (a2p10)) (by simp [go_sem]) (by simp only [go_sem, Nat.reduceLT, Nat.reduceBEq, Nat.reduceLeDiff, Nat.reduceAdd, Nat.reduceMul, Nat.reduceSub, Nat.reduceEqDiff, Int.reduceNeg, Int.reduceToNat, Int.reduceAdd, Int.reduceSub]; exact rfl) ?_
  refine cw_go tabOK 99 (by simp only [go_sem, Nat.reduceLT, Nat.reduceBEq, Nat.reduceLeDiff, Nat.reduceAdd, Nat.reduceMul, Nat.reduceSub, Nat.reduceEqDiff, Int.reduceNeg, Int.reduceToNat, Int.reduceAdd, Int.reduceSub, nodeRow, rootN]; try exact rfl) ?_ ?_
  · simp [go_sem, nodeRow]
  refine cw_callC rfl (by simp only [go_sem, Nat.reduceLT, Nat.reduceBEq, Nat.reduceLeDiff, Nat.reduceAdd, Nat.reduceMul, Nat.reduceSub, Nat.reduceEqDiff, Int.reduceNeg, Int.reduceToNat, Int.reduceAdd, Int.reduceSub]; try exact rfl) (by simp only [go_sem, Nat.reduceLT, Nat.reduceBEq, Nat.reduceLeDiff, Nat.reduceAdd, Nat.reduceMul, Nat.reduceSub, Nat.reduceEqDiff, Int.reduceNeg, Int.reduceToNat, Int.reduceAdd, Int.reduceSub]; try exact rfl) (by simp [go_sem]) ⟨_, Go.Proofs.Try.func86, by kernel_rfl, rfl⟩ (by simp [go_sem]) (fun hb => (a2p11)) (by simp [go_sem]) (by simp only [go_sem, Nat.reduceLT, Nat.reduceBEq, Nat.reduceLeDiff, Nat.reduceAdd, Nat.reduceMul, Nat.reduceSub, Nat.reduceEqDiff, Int.reduceNeg, Int.reduceToNat, Int.reduceAdd, Int.reduceSub]; exact rfl) ?_
  refine cw_go tabOK 99 (by simp only [go_sem, Nat.reduceLT, Nat.reduceBEq, Nat.reduceLeDiff, Nat.reduceAdd, Nat.reduceMul, Nat.reduceSub, Nat.reduceEqDiff, Int.reduceNeg, Int.reduceToNat, Int.reduceAdd, Int.reduceSub]; try exact rfl) (by simp [go_sem]) ?_
  refine cw_callC rfl (by simp only [go_sem, Nat.reduceLT, Nat.reduceBEq, Nat.reduceLeDiff, Nat.reduceAdd, Nat.reduceMul, Nat.reduceSub, Nat.reduceEqDiff, Int.reduceNeg, Int.reduceToNat, Int.reduceAdd, Int.reduceSub]; try exact rfl) (by simp only [go_sem, Nat.reduceLT, Nat.reduceBEq, Nat.reduceLeDiff, Nat.reduceAdd, Nat.reduceMul, Nat.reduceSub, Nat.reduceEqDiff, Int.reduceNeg, Int.reduceToNat, Int.reduceAdd, Int.reduceSub]; try exact rfl) (by simp [go_sem]) ⟨_, Go.Proofs.Try.func85, by kernel_rfl, rfl⟩ (by simp [go_sem]) (fun hb => (a2p12)) (by simp [go_sem]) (by simp only [go_sem, Nat.reduceLT, Nat.reduceBEq, Nat.reduceLeDiff, Nat.reduceAdd, Nat.reduceMul, Nat.reduceSub, Nat.reduceEqDiff, Int.reduceNeg, Int.reduceToNat, Int.reduceAdd, Int.reduceSub]; exact rfl) ?_
  refine cw_go tabOK 99 (by simp only [go_sem, Nat.reduceLT, Nat.reduceBEq, Nat.reduceLeDiff, Nat.reduceAdd, Nat.reduceMul, Nat.reduceSub, Nat.reduceEqDiff, Int.reduceNeg, Int.reduceToNat, Int.reduceAdd, Int.reduceSub]; try exact rfl) (by simp [go_sem]) ?_
  refine cw_ret ⟨_, _, (by simp only [go_sem, Nat.reduceLT, Nat.reduceBEq, Nat.reduceLeDiff, Nat.reduceAdd, Nat.reduceMul, Nat.reduceSub, Nat.reduceEqDiff, Int.reduceNeg, Int.reduceToNat, Int.reduceAdd, Int.reduceSub]; try exact rfl), by simp [go_sem], _, .inr (.inl rfl), ?_⟩
  rfl
end La

namespace La
open Go Go.Eng Go.Proofs
set_option maxRecDepth 10000
set_option linter.unusedSimpArgs false
set_option linter.unusedVariables false

theorem putN_small {l : List Node} (hl : Small l) {n : Node} (hn : n.Small) (hlen : l.length ≤ 99999999) : Small (putN l n) := by
  refine ⟨by have := putN_length l n; omega, fun x hx => ?_⟩
  unfold putN at hx
  split at hx
  · rcases List.mem_or_eq_of_mem_set hx with h | rfl
    · exact hl.each x h
    · exact hn
  · rcases List.mem_append.1 hx with h | h
    · exact hl.each x (List.mem_of_mem_take h)
    · rcases List.mem_cons.1 h with rfl | h
      · exact hn
      · exact hl.each x (List.mem_of_mem_drop h)
theorem dropN_small {l : List Node} (hl : Small l) (f : Int) : Small (dropN l f) :=
  ⟨by have := List.length_filter_le (fun n : Node => !(n.fid == f)) l; unfold dropN; have := hl.len; omega, fun x hx => hl.each x ((List.mem_filter.1 hx).1)⟩
theorem sameN_self (v : Bool) (n : Node) : sameN v n n = true := by unfold sameN; simp

set_option maxHeartbeats 2000000 in
theorem puts_ok (l : List Node) (n : Node) (o : Int) (hl : Small l) (hn : n.Small) (hlen : l.length ≤ 99999999) : FnOK Try.prog 6 [.sl (l.map nodeRow), .agg (nodeRow n), .int .i64 o] [] (fun r _ => r = .bool true) := by
  have hps := putN_small hl hn hlen
  have hds := dropN_small hps n.fid
  refine fn_of_cwW tabOK (Go.Proofs.Try.func6) rfl (fun C => ?_)
  simp only [Go.Proofs.Try.ntmps6, Go.Proofs.Try.results6, go_sem, Nat.reduceLT, Nat.reduceBEq, Nat.reduceLeDiff, Nat.reduceAdd, Nat.reduceMul, Nat.reduceSub, Nat.reduceEqDiff, Int.reduceNeg, Int.reduceToNat, Int.reduceAdd, Int.reduceSub]
  refine cw_go tabOK 99 (by simp only [go_sem, Nat.reduceLT, Nat.reduceBEq, Nat.reduceLeDiff, Nat.reduceAdd, Nat.reduceMul, Nat.reduceSub, Nat.reduceEqDiff, Int.reduceNeg, Int.reduceToNat, Int.reduceAdd, Int.reduceSub, nodeRow]; try exact rfl) ?_ ?_
  · simp
  refine cw_freeze 4 rfl (rfl) ?_
  simp only [go_sem, Nat.reduceLT, Nat.reduceBEq, Nat.reduceLeDiff, Nat.reduceAdd, Nat.reduceMul, Nat.reduceSub, Nat.reduceEqDiff, Int.reduceNeg, Int.reduceToNat, Int.reduceAdd, Int.reduceSub]
  refine cw_call rfl rfl (by simp only [go_sem, Nat.reduceLT, Nat.reduceBEq, Nat.reduceLeDiff, Nat.reduceAdd, Nat.reduceMul, Nat.reduceSub, Nat.reduceEqDiff, Int.reduceNeg, Int.reduceToNat, Int.reduceAdd, Int.reduceSub]; try exact rfl) (by simp [go_sem]) ⟨_, Go.Proofs.Try.func31, by kernel_rfl, rfl⟩ (by simp [go_sem]) (alive2) (by simp [go_sem]) (by simp only [go_sem, Nat.reduceLT, Nat.reduceBEq, Nat.reduceLeDiff, Nat.reduceAdd, Nat.reduceMul, Nat.reduceSub, Nat.reduceEqDiff, Int.reduceNeg, Int.reduceToNat, Int.reduceAdd, Int.reduceSub]; exact rfl) ?_
  refine cw_go tabOK 99 (by simp only [go_sem, Nat.reduceLT, Nat.reduceBEq, Nat.reduceLeDiff, Nat.reduceAdd, Nat.reduceMul, Nat.reduceSub, Nat.reduceEqDiff, Int.reduceNeg, Int.reduceToNat, Int.reduceAdd, Int.reduceSub]; try exact rfl) (by simp [go_sem]) ?_
  refine cw_condF (by simp only [go_sem, Nat.reduceLT, Nat.reduceBEq, Nat.reduceLeDiff, Nat.reduceAdd, Nat.reduceMul, Nat.reduceSub, Nat.reduceEqDiff, Int.reduceNeg, Int.reduceToNat, Int.reduceAdd, Int.reduceSub]; try exact rfl) trivial (by rfl) ?_
  refine cw_go tabOK 99 (by simp only [go_sem, Nat.reduceLT, Nat.reduceBEq, Nat.reduceLeDiff, Nat.reduceAdd, Nat.reduceMul, Nat.reduceSub, Nat.reduceEqDiff, Int.reduceNeg, Int.reduceToNat, Int.reduceAdd, Int.reduceSub]; try exact rfl) (by simp [go_sem]) ?_
  refine cw_call rfl rfl (by simp only [go_sem, Nat.reduceLT, Nat.reduceBEq, Nat.reduceLeDiff, Nat.reduceAdd, Nat.reduceMul, Nat.reduceSub, Nat.reduceEqDiff, Int.reduceNeg, Int.reduceToNat, Int.reduceAdd, Int.reduceSub]; try exact rfl) (by simp [go_sem]) ⟨_, Go.Proofs.Try.func27, by kernel_rfl, rfl⟩ (by simp [go_sem]) (rises_ok l hl) (by simp [go_sem]) (by simp only [go_sem, Nat.reduceLT, Nat.reduceBEq, Nat.reduceLeDiff, Nat.reduceAdd, Nat.reduceMul, Nat.reduceSub, Nat.reduceEqDiff, Int.reduceNeg, Int.reduceToNat, Int.reduceAdd, Int.reduceSub]; exact rfl) ?_
  refine cw_go tabOK 99 (by simp only [go_sem, Nat.reduceLT, Nat.reduceBEq, Nat.reduceLeDiff, Nat.reduceAdd, Nat.reduceMul, Nat.reduceSub, Nat.reduceEqDiff, Int.reduceNeg, Int.reduceToNat, Int.reduceAdd, Int.reduceSub]; try exact rfl) (by simp [go_sem]) ?_
  refine cw_cond (by simp only [go_sem, Nat.reduceLT, Nat.reduceBEq, Nat.reduceLeDiff, Nat.reduceAdd, Nat.reduceMul, Nat.reduceSub, Nat.reduceEqDiff, Int.reduceNeg, Int.reduceToNat, Int.reduceAdd, Int.reduceSub]; try exact rfl) trivial (fun h => ?_) (fun h => ?_)
  · refine cw_go tabOK 99 (by simp only [go_sem, Nat.reduceLT, Nat.reduceBEq, Nat.reduceLeDiff, Nat.reduceAdd, Nat.reduceMul, Nat.reduceSub, Nat.reduceEqDiff, Int.reduceNeg, Int.reduceToNat, Int.reduceAdd, Int.reduceSub]; try exact rfl) (by simp [go_sem]) ?_
    refine cw_ret ⟨_, _, (by simp only [go_sem, Nat.reduceLT, Nat.reduceBEq, Nat.reduceLeDiff, Nat.reduceAdd, Nat.reduceMul, Nat.reduceSub, Nat.reduceEqDiff, Int.reduceNeg, Int.reduceToNat, Int.reduceAdd, Int.reduceSub]; try exact rfl), by simp [go_sem], _, .inr (.inl rfl), ?_⟩
    rfl
  have hr : risesB l = true := by simpa using h
  have hup := ((risesB_iff l).1 hr).1
  have hf1 := puts_found hup n
  have hf2 := puts_dropped hup n
  have hf3 := fun ho => puts_other hup n (other := o) ho
  refine cw_go tabOK 99 (by simp only [go_sem, Nat.reduceLT, Nat.reduceBEq, Nat.reduceLeDiff, Nat.reduceAdd, Nat.reduceMul, Nat.reduceSub, Nat.reduceEqDiff, Int.reduceNeg, Int.reduceToNat, Int.reduceAdd, Int.reduceSub, nodeRow]; try exact rfl) ?_ ?_
  · simp [nodeRow]
  refine cw_call rfl rfl (by simp only [go_sem, Nat.reduceLT, Nat.reduceBEq, Nat.reduceLeDiff, Nat.reduceAdd, Nat.reduceMul, Nat.reduceSub, Nat.reduceEqDiff, Int.reduceNeg, Int.reduceToNat, Int.reduceAdd, Int.reduceSub]; try exact rfl) (by simp [go_sem]) ⟨_, Go.Proofs.Try.func32, by kernel_rfl, rfl⟩ (by simp [go_sem]) (put_ok l n hl hn) (by simp [go_sem]) (by simp only [go_sem, Nat.reduceLT, Nat.reduceBEq, Nat.reduceLeDiff, Nat.reduceAdd, Nat.reduceMul, Nat.reduceSub, Nat.reduceEqDiff, Int.reduceNeg, Int.reduceToNat, Int.reduceAdd, Int.reduceSub]; exact rfl) ?_
  refine cw_go tabOK 99 (by simp only [go_sem, Nat.reduceLT, Nat.reduceBEq, Nat.reduceLeDiff, Nat.reduceAdd, Nat.reduceMul, Nat.reduceSub, Nat.reduceEqDiff, Int.reduceNeg, Int.reduceToNat, Int.reduceAdd, Int.reduceSub]; try exact rfl) (by simp [go_sem]) ?_
  have c1 := find_ok (putN l n) n.fid hps
  have c2 := find_ok (dropN (putN l n) n.fid) n.fid hds
  have c3 := find_ok l o hl
  have c4 := find_ok (putN l n) o hps
  have c5 := drop_ok (putN l n) n.fid hps
  unfold findR at c1 c2 c3 c4
  rw [isAt_eq, hf1] at c1
  rw [isAt_eq, hf2] at c2
  rw [isAt_eq] at c3 c4
  simp only [Option.getD_some, Option.isSome_some, Option.getD_none, Option.isSome_none] at c1 c2
  refine cw_call rfl rfl (by simp only [go_sem, Nat.reduceLT, Nat.reduceBEq, Nat.reduceLeDiff, Nat.reduceAdd, Nat.reduceMul, Nat.reduceSub, Nat.reduceEqDiff, Int.reduceNeg, Int.reduceToNat, Int.reduceAdd, Int.reduceSub]; try exact rfl) (by simp [go_sem]) ⟨_, Go.Proofs.Try.func33, by kernel_rfl, rfl⟩ (by simp [go_sem]) (c1) (by simp [go_sem]) (by simp only [go_sem, Nat.reduceLT, Nat.reduceBEq, Nat.reduceLeDiff, Nat.reduceAdd, Nat.reduceMul, Nat.reduceSub, Nat.reduceEqDiff, Int.reduceNeg, Int.reduceToNat, Int.reduceAdd, Int.reduceSub]; exact rfl) ?_
  refine cw_go tabOK 99 (by simp only [go_sem, Nat.reduceLT, Nat.reduceBEq, Nat.reduceLeDiff, Nat.reduceAdd, Nat.reduceMul, Nat.reduceSub, Nat.reduceEqDiff, Int.reduceNeg, Int.reduceToNat, Int.reduceAdd, Int.reduceSub, nodeRow]; try exact rfl) ?_ ?_
  · simp [nodeRow]
  have sm := sameNode_ok n n true hn hn
  rw [sameN_self] at sm
  refine cw_callC rfl (by simp only [go_sem, Nat.reduceLT, Nat.reduceBEq, Nat.reduceLeDiff, Nat.reduceAdd, Nat.reduceMul, Nat.reduceSub, Nat.reduceEqDiff, Int.reduceNeg, Int.reduceToNat, Int.reduceAdd, Int.reduceSub]; try exact rfl) (by simp only [go_sem, Nat.reduceLT, Nat.reduceBEq, Nat.reduceLeDiff, Nat.reduceAdd, Nat.reduceMul, Nat.reduceSub, Nat.reduceEqDiff, Int.reduceNeg, Int.reduceToNat, Int.reduceAdd, Int.reduceSub]; try exact rfl) (by simp [go_sem]) ⟨_, Go.Proofs.Try.func34, by kernel_rfl, rfl⟩ (by simp [go_sem]) (fun hb => (sm)) (by simp [go_sem]) (by simp only [go_sem, Nat.reduceLT, Nat.reduceBEq, Nat.reduceLeDiff, Nat.reduceAdd, Nat.reduceMul, Nat.reduceSub, Nat.reduceEqDiff, Int.reduceNeg, Int.reduceToNat, Int.reduceAdd, Int.reduceSub]; exact rfl) ?_
  refine cw_go tabOK 99 (by simp only [go_sem, Nat.reduceLT, Nat.reduceBEq, Nat.reduceLeDiff, Nat.reduceAdd, Nat.reduceMul, Nat.reduceSub, Nat.reduceEqDiff, Int.reduceNeg, Int.reduceToNat, Int.reduceAdd, Int.reduceSub]; try exact rfl) (by simp [go_sem]) ?_
  refine cw_condF (by simp only [go_sem, Nat.reduceLT, Nat.reduceBEq, Nat.reduceLeDiff, Nat.reduceAdd, Nat.reduceMul, Nat.reduceSub, Nat.reduceEqDiff, Int.reduceNeg, Int.reduceToNat, Int.reduceAdd, Int.reduceSub]; try exact rfl) trivial (by rfl) ?_
  refine cw_go tabOK 99 (by simp only [go_sem, Nat.reduceLT, Nat.reduceBEq, Nat.reduceLeDiff, Nat.reduceAdd, Nat.reduceMul, Nat.reduceSub, Nat.reduceEqDiff, Int.reduceNeg, Int.reduceToNat, Int.reduceAdd, Int.reduceSub]; try exact rfl) (by simp [go_sem]) ?_
  refine cw_draw mixed ?_
  refine seg_start rfl ?_
  refine seg_run tabOK (by simp only [go_sem, Nat.reduceLT, Nat.reduceBEq, Nat.reduceLeDiff, Nat.reduceAdd, Nat.reduceMul, Nat.reduceSub, Nat.reduceEqDiff, Int.reduceNeg, Int.reduceToNat, Int.reduceAdd, Int.reduceSub]; try exact rfl) (by simp [go_sem]) (by simp only [go_sem, Nat.reduceLT, Nat.reduceBEq, Nat.reduceLeDiff, Nat.reduceAdd, Nat.reduceMul, Nat.reduceSub, Nat.reduceEqDiff, Int.reduceNeg, Int.reduceToNat, Int.reduceAdd, Int.reduceSub]; exact rfl) ?_
  refine seg_call rfl rfl (by simp only [go_sem, Nat.reduceLT, Nat.reduceBEq, Nat.reduceLeDiff, Nat.reduceAdd, Nat.reduceMul, Nat.reduceSub, Nat.reduceEqDiff, Int.reduceNeg, Int.reduceToNat, Int.reduceAdd, Int.reduceSub]; try exact rfl) (by simp [go_sem]) ⟨_, Go.Proofs.Try.func35, by kernel_rfl, rfl⟩ (by simp [go_sem]) (c5) (by simp [go_sem]) (by simp only [go_sem, Nat.reduceLT, Nat.reduceBEq, Nat.reduceLeDiff, Nat.reduceAdd, Nat.reduceMul, Nat.reduceSub, Nat.reduceEqDiff, Int.reduceNeg, Int.reduceToNat, Int.reduceAdd, Int.reduceSub]; exact rfl) (by simp only [go_sem, Nat.reduceLT, Nat.reduceBEq, Nat.reduceLeDiff, Nat.reduceAdd, Nat.reduceMul, Nat.reduceSub, Nat.reduceEqDiff, Int.reduceNeg, Int.reduceToNat, Int.reduceAdd, Int.reduceSub]; exact rfl) ?_
  refine seg_run tabOK (by simp only [go_sem, Nat.reduceLT, Nat.reduceBEq, Nat.reduceLeDiff, Nat.reduceAdd, Nat.reduceMul, Nat.reduceSub, Nat.reduceEqDiff, Int.reduceNeg, Int.reduceToNat, Int.reduceAdd, Int.reduceSub]; try exact rfl) (by simp [go_sem]) (by simp only [go_sem, Nat.reduceLT, Nat.reduceBEq, Nat.reduceLeDiff, Nat.reduceAdd, Nat.reduceMul, Nat.reduceSub, Nat.reduceEqDiff, Int.reduceNeg, Int.reduceToNat, Int.reduceAdd, Int.reduceSub]; exact rfl) ?_
  refine seg_call rfl rfl (by simp only [go_sem, Nat.reduceLT, Nat.reduceBEq, Nat.reduceLeDiff, Nat.reduceAdd, Nat.reduceMul, Nat.reduceSub, Nat.reduceEqDiff, Int.reduceNeg, Int.reduceToNat, Int.reduceAdd, Int.reduceSub]; try exact rfl) (by simp [go_sem]) ⟨_, Go.Proofs.Try.func33, by kernel_rfl, rfl⟩ (by simp [go_sem]) (c2) (by simp [go_sem]) (by simp only [go_sem, Nat.reduceLT, Nat.reduceBEq, Nat.reduceLeDiff, Nat.reduceAdd, Nat.reduceMul, Nat.reduceSub, Nat.reduceEqDiff, Int.reduceNeg, Int.reduceToNat, Int.reduceAdd, Int.reduceSub]; exact rfl) (by simp only [go_sem, Nat.reduceLT, Nat.reduceBEq, Nat.reduceLeDiff, Nat.reduceAdd, Nat.reduceMul, Nat.reduceSub, Nat.reduceEqDiff, Int.reduceNeg, Int.reduceToNat, Int.reduceAdd, Int.reduceSub]; exact rfl) ?_
  refine seg_run tabOK (by simp only [go_sem, Nat.reduceLT, Nat.reduceBEq, Nat.reduceLeDiff, Nat.reduceAdd, Nat.reduceMul, Nat.reduceSub, Nat.reduceEqDiff, Int.reduceNeg, Int.reduceToNat, Int.reduceAdd, Int.reduceSub]; try exact rfl) (by simp [go_sem]) (by simp only [go_sem, Nat.reduceLT, Nat.reduceBEq, Nat.reduceLeDiff, Nat.reduceAdd, Nat.reduceMul, Nat.reduceSub, Nat.reduceEqDiff, Int.reduceNeg, Int.reduceToNat, Int.reduceAdd, Int.reduceSub]; exact rfl) ?_
  refine seg_new tabOK rfl (by simp only [go_sem, Nat.reduceLT, Nat.reduceBEq, Nat.reduceLeDiff, Nat.reduceAdd, Nat.reduceMul, Nat.reduceSub, Nat.reduceEqDiff, Int.reduceNeg, Int.reduceToNat, Int.reduceAdd, Int.reduceSub]; try exact rfl) (by simp only [go_sem, Nat.reduceLT, Nat.reduceBEq, Nat.reduceLeDiff, Nat.reduceAdd, Nat.reduceMul, Nat.reduceSub, Nat.reduceEqDiff, Int.reduceNeg, Int.reduceToNat, Int.reduceAdd, Int.reduceSub]; try exact rfl) (by simp [go_sem]) (by simp only [go_sem, Nat.reduceLT, Nat.reduceBEq, Nat.reduceLeDiff, Nat.reduceAdd, Nat.reduceMul, Nat.reduceSub, Nat.reduceEqDiff, Int.reduceNeg, Int.reduceToNat, Int.reduceAdd, Int.reduceSub]; try exact rfl) (by simp only [go_sem, Nat.reduceLT, Nat.reduceBEq, Nat.reduceLeDiff, Nat.reduceAdd, Nat.reduceMul, Nat.reduceSub, Nat.reduceEqDiff, Int.reduceNeg, Int.reduceToNat, Int.reduceAdd, Int.reduceSub]; exact rfl) (by simp only [go_sem, Nat.reduceLT, Nat.reduceBEq, Nat.reduceLeDiff, Nat.reduceAdd, Nat.reduceMul, Nat.reduceSub, Nat.reduceEqDiff, Int.reduceNeg, Int.reduceToNat, Int.reduceAdd, Int.reduceSub]; exact rfl) ?_
  simp only [go_sem, Nat.reduceLT, Nat.reduceBEq, Nat.reduceLeDiff, Nat.reduceAdd, Nat.reduceMul, Nat.reduceSub, Nat.reduceEqDiff, Int.reduceNeg, Int.reduceToNat, Int.reduceAdd, Int.reduceSub, nodeRow, zeroN]
  refine seg_store tabOK rfl rfl (by simp only [go_sem, Nat.reduceLT, Nat.reduceBEq, Nat.reduceLeDiff, Nat.reduceAdd, Nat.reduceMul, Nat.reduceSub, Nat.reduceEqDiff, Int.reduceNeg, Int.reduceToNat, Int.reduceAdd, Int.reduceSub]; try exact rfl) (by simp only [go_sem, Nat.reduceLT, Nat.reduceBEq, Nat.reduceLeDiff, Nat.reduceAdd, Nat.reduceMul, Nat.reduceSub, Nat.reduceEqDiff, Int.reduceNeg, Int.reduceToNat, Int.reduceAdd, Int.reduceSub]; try exact rfl) (by simp only [go_sem, Nat.reduceLT, Nat.reduceBEq, Nat.reduceLeDiff, Nat.reduceAdd, Nat.reduceMul, Nat.reduceSub, Nat.reduceEqDiff, Int.reduceNeg, Int.reduceToNat, Int.reduceAdd, Int.reduceSub]; try exact rfl) (by first | trivial | simp [go_sem]) (by simp only [go_sem, Nat.reduceLT, Nat.reduceBEq, Nat.reduceLeDiff, Nat.reduceAdd, Nat.reduceMul, Nat.reduceSub, Nat.reduceEqDiff, Int.reduceNeg, Int.reduceToNat, Int.reduceAdd, Int.reduceSub]; exact rfl) (by simp [go_sem]) (by simp only [go_sem, Nat.reduceLT, Nat.reduceBEq, Nat.reduceLeDiff, Nat.reduceAdd, Nat.reduceMul, Nat.reduceSub, Nat.reduceEqDiff, Int.reduceNeg, Int.reduceToNat, Int.reduceAdd, Int.reduceSub]; exact rfl) (by simp only [go_sem, Nat.reduceLT, Nat.reduceBEq, Nat.reduceLeDiff, Nat.reduceAdd, Nat.reduceMul, Nat.reduceSub, Nat.reduceEqDiff, Int.reduceNeg, Int.reduceToNat, Int.reduceAdd, Int.reduceSub]; exact rfl) (by simp only [go_sem, Nat.reduceLT, Nat.reduceBEq, Nat.reduceLeDiff, Nat.reduceAdd, Nat.reduceMul, Nat.reduceSub, Nat.reduceEqDiff, Int.reduceNeg, Int.reduceToNat, Int.reduceAdd, Int.reduceSub]; exact rfl) ?_
  refine seg_end (by kernel_rfl) (by simp only [go_sem, Nat.reduceLT, Nat.reduceBEq, Nat.reduceLeDiff, Nat.reduceAdd, Nat.reduceMul, Nat.reduceSub, Nat.reduceEqDiff, Int.reduceNeg, Int.reduceToNat, Int.reduceAdd, Int.reduceSub]; exact rfl) ?_
  refine draw_step tabOK rfl (by kernel_rfl) rfl (by simp only [go_sem, Nat.reduceLT, Nat.reduceBEq, Nat.reduceLeDiff, Nat.reduceAdd, Nat.reduceMul, Nat.reduceSub, Nat.reduceEqDiff, Int.reduceNeg, Int.reduceToNat, Int.reduceAdd, Int.reduceSub]; try exact rfl) (by simp [go_sem]) rfl ?_
  refine draw_close (by kernel_rfl) ?_
  simp only [go_sem, Nat.reduceLT, Nat.reduceBEq, Nat.reduceLeDiff, Nat.reduceAdd, Nat.reduceMul, Nat.reduceSub, Nat.reduceEqDiff, Int.reduceNeg, Int.reduceToNat, Int.reduceAdd, Int.reduceSub, List.getElem_toArray, List.getElem_cons_succ, List.getElem_cons_zero]
  refine cw_go tabOK 99 (by simp only [go_sem, Nat.reduceLT, Nat.reduceBEq, Nat.reduceLeDiff, Nat.reduceAdd, Nat.reduceMul, Nat.reduceSub, Nat.reduceEqDiff, Int.reduceNeg, Int.reduceToNat, Int.reduceAdd, Int.reduceSub]; try exact rfl) (by simp [go_sem]) ?_
  refine cw_condF (by simp only [go_sem, Nat.reduceLT, Nat.reduceBEq, Nat.reduceLeDiff, Nat.reduceAdd, Nat.reduceMul, Nat.reduceSub, Nat.reduceEqDiff, Int.reduceNeg, Int.reduceToNat, Int.reduceAdd, Int.reduceSub]; try exact rfl) trivial (by rfl) ?_
  refine cw_go tabOK 99 (by simp only [go_sem, Nat.reduceLT, Nat.reduceBEq, Nat.reduceLeDiff, Nat.reduceAdd, Nat.reduceMul, Nat.reduceSub, Nat.reduceEqDiff, Int.reduceNeg, Int.reduceToNat, Int.reduceAdd, Int.reduceSub]; try exact rfl) (by simp [go_sem]) ?_
  refine cw_cond (by simp only [go_sem, Nat.reduceLT, Nat.reduceBEq, Nat.reduceLeDiff, Nat.reduceAdd, Nat.reduceMul, Nat.reduceSub, Nat.reduceEqDiff, Int.reduceNeg, Int.reduceToNat, Int.reduceAdd, Int.reduceSub]; try exact rfl) trivial (fun h => ?_) (fun h => ?_)
  · refine cw_go tabOK 99 (by simp only [go_sem, Nat.reduceLT, Nat.reduceBEq, Nat.reduceLeDiff, Nat.reduceAdd, Nat.reduceMul, Nat.reduceSub, Nat.reduceEqDiff, Int.reduceNeg, Int.reduceToNat, Int.reduceAdd, Int.reduceSub]; try exact rfl) (by simp [go_sem]) ?_
    refine cw_ret ⟨_, _, (by simp only [go_sem, Nat.reduceLT, Nat.reduceBEq, Nat.reduceLeDiff, Nat.reduceAdd, Nat.reduceMul, Nat.reduceSub, Nat.reduceEqDiff, Int.reduceNeg, Int.reduceToNat, Int.reduceAdd, Int.reduceSub]; try exact rfl), by simp [go_sem], _, .inr (.inl rfl), ?_⟩
    rfl
  have ho : o ≠ n.fid := by simpa using h
  rw [← hf3 ho] at c4
  have hsm : ((findN l o).getD zeroN).Small := hl.find o
  generalize hq : (findN l o).getD zeroN = x at c3 c4 hsm
  generalize hq2 : (findN l o).isSome = y at c3 c4
  refine cw_go tabOK 99 (by simp only [go_sem, Nat.reduceLT, Nat.reduceBEq, Nat.reduceLeDiff, Nat.reduceAdd, Nat.reduceMul, Nat.reduceSub, Nat.reduceEqDiff, Int.reduceNeg, Int.reduceToNat, Int.reduceAdd, Int.reduceSub]; try exact rfl) (by simp [go_sem]) ?_
  refine cw_call rfl rfl (by simp only [go_sem, Nat.reduceLT, Nat.reduceBEq, Nat.reduceLeDiff, Nat.reduceAdd, Nat.reduceMul, Nat.reduceSub, Nat.reduceEqDiff, Int.reduceNeg, Int.reduceToNat, Int.reduceAdd, Int.reduceSub]; try exact rfl) (by simp [go_sem]) ⟨_, Go.Proofs.Try.func33, by kernel_rfl, rfl⟩ (by simp [go_sem]) (c3) (by simp [go_sem]) (by simp only [go_sem, Nat.reduceLT, Nat.reduceBEq, Nat.reduceLeDiff, Nat.reduceAdd, Nat.reduceMul, Nat.reduceSub, Nat.reduceEqDiff, Int.reduceNeg, Int.reduceToNat, Int.reduceAdd, Int.reduceSub]; exact rfl) ?_
  refine cw_go tabOK 99 (by simp only [go_sem, Nat.reduceLT, Nat.reduceBEq, Nat.reduceLeDiff, Nat.reduceAdd, Nat.reduceMul, Nat.reduceSub, Nat.reduceEqDiff, Int.reduceNeg, Int.reduceToNat, Int.reduceAdd, Int.reduceSub, nodeRow]; try exact rfl) ?_ ?_
  · simp [nodeRow]
  refine cw_call rfl rfl (by simp only [go_sem, Nat.reduceLT, Nat.reduceBEq, Nat.reduceLeDiff, Nat.reduceAdd, Nat.reduceMul, Nat.reduceSub, Nat.reduceEqDiff, Int.reduceNeg, Int.reduceToNat, Int.reduceAdd, Int.reduceSub]; try exact rfl) (by simp [go_sem]) ⟨_, Go.Proofs.Try.func33, by kernel_rfl, rfl⟩ (by simp [go_sem]) (c4) (by simp [go_sem]) (by simp only [go_sem, Nat.reduceLT, Nat.reduceBEq, Nat.reduceLeDiff, Nat.reduceAdd, Nat.reduceMul, Nat.reduceSub, Nat.reduceEqDiff, Int.reduceNeg, Int.reduceToNat, Int.reduceAdd, Int.reduceSub]; exact rfl) ?_
  refine cw_go tabOK 99 (by simp only [go_sem, Nat.reduceLT, Nat.reduceBEq, Nat.reduceLeDiff, Nat.reduceAdd, Nat.reduceMul, Nat.reduceSub, Nat.reduceEqDiff, Int.reduceNeg, Int.reduceToNat, Int.reduceAdd, Int.reduceSub, nodeRow]; try exact rfl) ?_ ?_
  · simp [nodeRow]
  have sm2 := sameNode_ok x x true hsm hsm
  rw [sameN_self] at sm2
  refine cw_callC rfl (by simp only [go_sem, Nat.reduceLT, Nat.reduceBEq, Nat.reduceLeDiff, Nat.reduceAdd, Nat.reduceMul, Nat.reduceSub, Nat.reduceEqDiff, Int.reduceNeg, Int.reduceToNat, Int.reduceAdd, Int.reduceSub]; try exact rfl) (by simp only [go_sem, Nat.reduceLT, Nat.reduceBEq, Nat.reduceLeDiff, Nat.reduceAdd, Nat.reduceMul, Nat.reduceSub, Nat.reduceEqDiff, Int.reduceNeg, Int.reduceToNat, Int.reduceAdd, Int.reduceSub]; try exact rfl) (by simp [go_sem]) ⟨_, Go.Proofs.Try.func34, by kernel_rfl, rfl⟩ (by simp [go_sem]) (fun hb => (sm2)) (by simp [go_sem]) (by simp only [go_sem, Nat.reduceLT, Nat.reduceBEq, Nat.reduceLeDiff, Nat.reduceAdd, Nat.reduceMul, Nat.reduceSub, Nat.reduceEqDiff, Int.reduceNeg, Int.reduceToNat, Int.reduceAdd, Int.reduceSub]; exact rfl) ?_
  refine cw_go tabOK 99 (by simp only [go_sem, Nat.reduceLT, Nat.reduceBEq, Nat.reduceLeDiff, Nat.reduceAdd, Nat.reduceMul, Nat.reduceSub, Nat.reduceEqDiff, Int.reduceNeg, Int.reduceToNat, Int.reduceAdd, Int.reduceSub]; try exact rfl) (by simp [go_sem]) ?_
  refine cw_ret ⟨_, _, (by simp only [go_sem, Nat.reduceLT, Nat.reduceBEq, Nat.reduceLeDiff, Nat.reduceAdd, Nat.reduceMul, Nat.reduceSub, Nat.reduceEqDiff, Int.reduceNeg, Int.reduceToNat, Int.reduceAdd, Int.reduceSub]; try exact rfl), by simp [go_sem], _, .inr (.inl rfl), ?_⟩
  simp
end La

namespace La
open Go Go.Eng Go.Proofs
set_option maxRecDepth 10000
set_option linter.unusedSimpArgs false
set_option linter.unusedVariables false

theorem enterN_small {n : Node} (hn : n.Small) (s : List UInt8) (f : Int) (h : n.entries.length ≤ 99999999) : (enterN n s f).Small := by
  refine ⟨hn.data, ?_⟩
  show (enterE n.entries s f).length ≤ _
  unfold enterE
  split
  · simp; omega
  · have := eplace_le n.entries s
    simp; omega
theorem leaveN_small {n : Node} (hn : n.Small) (s : List UInt8) : (leaveN n s).Small :=
  ⟨hn.data, by
    have := List.length_filter_le (fun e : Entry => !(e.name == s)) n.entries
    have := hn.entries
    show (leaveE n.entries s).length ≤ _
    unfold leaveE; omega⟩

set_option maxHeartbeats 2000000 in
theorem enters_ok (n : Node) (s : List UInt8) (f : Int) (hn : n.Small) (hlen : n.entries.length ≤ 99999999) : FnOK Try.prog 7 [.agg (nodeRow n), .str s, .int .i64 f] [] (fun r _ => r = .bool true) := by
  have hes := enterN_small hn s f hlen
  have hls := leaveN_small hes s
  have hs1 : Small [n] := ⟨by simp, fun x hx => by rw [List.mem_singleton.1 hx]; exact hn⟩
  refine fn_of_cwW tabOK (Go.Proofs.Try.func7) rfl (fun C => ?_)
  simp only [Go.Proofs.Try.ntmps7, Go.Proofs.Try.results7, go_sem, Nat.reduceLT, Nat.reduceBEq, Nat.reduceLeDiff, Nat.reduceAdd, Nat.reduceMul, Nat.reduceSub, Nat.reduceEqDiff, Int.reduceNeg, Int.reduceToNat, Int.reduceAdd, Int.reduceSub]
  refine cw_go tabOK 99 (by simp only [go_sem, Nat.reduceLT, Nat.reduceBEq, Nat.reduceLeDiff, Nat.reduceAdd, Nat.reduceMul, Nat.reduceSub, Nat.reduceEqDiff, Int.reduceNeg, Int.reduceToNat, Int.reduceAdd, Int.reduceSub, nodeRow]; try exact rfl) ?_ ?_
  · simp
  refine cw_freeze 3 rfl (rfl) ?_
  simp only [go_sem, Nat.reduceLT, Nat.reduceBEq, Nat.reduceLeDiff, Nat.reduceAdd, Nat.reduceMul, Nat.reduceSub, Nat.reduceEqDiff, Int.reduceNeg, Int.reduceToNat, Int.reduceAdd, Int.reduceSub]
  refine cw_call rfl rfl (by simp only [go_sem, Nat.reduceLT, Nat.reduceBEq, Nat.reduceLeDiff, Nat.reduceAdd, Nat.reduceMul, Nat.reduceSub, Nat.reduceEqDiff, Int.reduceNeg, Int.reduceToNat, Int.reduceAdd, Int.reduceSub]; try exact rfl) (by simp [go_sem]) ⟨_, Go.Proofs.Try.func31, by kernel_rfl, rfl⟩ (by simp [go_sem]) (alive2) (by simp [go_sem]) (by simp only [go_sem, Nat.reduceLT, Nat.reduceBEq, Nat.reduceLeDiff, Nat.reduceAdd, Nat.reduceMul, Nat.reduceSub, Nat.reduceEqDiff, Int.reduceNeg, Int.reduceToNat, Int.reduceAdd, Int.reduceSub]; exact rfl) ?_
  refine cw_go tabOK 99 (by simp only [go_sem, Nat.reduceLT, Nat.reduceBEq, Nat.reduceLeDiff, Nat.reduceAdd, Nat.reduceMul, Nat.reduceSub, Nat.reduceEqDiff, Int.reduceNeg, Int.reduceToNat, Int.reduceAdd, Int.reduceSub]; try exact rfl) (by simp [go_sem]) ?_
  refine cw_condF (by simp only [go_sem, Nat.reduceLT, Nat.reduceBEq, Nat.reduceLeDiff, Nat.reduceAdd, Nat.reduceMul, Nat.reduceSub, Nat.reduceEqDiff, Int.reduceNeg, Int.reduceToNat, Int.reduceAdd, Int.reduceSub]; try exact rfl) trivial (by rfl) ?_
  refine cw_go tabOK 99 (by simp only [go_sem, Nat.reduceLT, Nat.reduceBEq, Nat.reduceLeDiff, Nat.reduceAdd, Nat.reduceMul, Nat.reduceSub, Nat.reduceEqDiff, Int.reduceNeg, Int.reduceToNat, Int.reduceAdd, Int.reduceSub, nodeRow]; try exact rfl) ?_ ?_
  · simp [nodeRow]
  refine cw_call rfl rfl (by simp only [go_sem, Nat.reduceLT, Nat.reduceBEq, Nat.reduceLeDiff, Nat.reduceAdd, Nat.reduceMul, Nat.reduceSub, Nat.reduceEqDiff, Int.reduceNeg, Int.reduceToNat, Int.reduceAdd, Int.reduceSub]; try exact rfl) (by simp [go_sem]) ⟨_, Go.Proofs.Try.func36, by kernel_rfl, rfl⟩ (by simp [go_sem]) (entry_ok n s hn) (by simp [go_sem]) (by simp only [go_sem, Nat.reduceLT, Nat.reduceBEq, Nat.reduceLeDiff, Nat.reduceAdd, Nat.reduceMul, Nat.reduceSub, Nat.reduceEqDiff, Int.reduceNeg, Int.reduceToNat, Int.reduceAdd, Int.reduceSub]; exact rfl) ?_
  cases he : isE n.entries s with
  | true =>
    have e1 : entryN n s = some (n.entries.getD (eplace n.entries s) default).fid := by unfold entryN; rw [if_pos he]
    rw [e1]
    simp only [optInt]
    refine cw_goR 99 (by simp only [go_sem, Nat.reduceLT, Nat.reduceBEq, Nat.reduceLeDiff, Nat.reduceAdd, Nat.reduceMul, Nat.reduceSub, Nat.reduceEqDiff, Int.reduceNeg, Int.reduceToNat, Int.reduceAdd, Int.reduceSub]; try exact rfl) ?_
    refine cw_go tabOK 99 (by simp only [go_sem, Nat.reduceLT, Nat.reduceBEq, Nat.reduceLeDiff, Nat.reduceAdd, Nat.reduceMul, Nat.reduceSub, Nat.reduceEqDiff, Int.reduceNeg, Int.reduceToNat, Int.reduceAdd, Int.reduceSub]; try exact rfl) (by simp [go_sem]) ?_
    refine cw_pass (.bool false) rfl ?_
    simp only [go_sem, Nat.reduceLT, Nat.reduceBEq, Nat.reduceLeDiff, Nat.reduceAdd, Nat.reduceMul, Nat.reduceSub, Nat.reduceEqDiff, Int.reduceNeg, Int.reduceToNat, Int.reduceAdd, Int.reduceSub]
    refine cw_go tabOK 99 (by simp only [go_sem, Nat.reduceLT, Nat.reduceBEq, Nat.reduceLeDiff, Nat.reduceAdd, Nat.reduceMul, Nat.reduceSub, Nat.reduceEqDiff, Int.reduceNeg, Int.reduceToNat, Int.reduceAdd, Int.reduceSub]; try exact rfl) (by simp [go_sem]) ?_
    refine cw_cond (by simp only [go_sem, Nat.reduceLT, Nat.reduceBEq, Nat.reduceLeDiff, Nat.reduceAdd, Nat.reduceMul, Nat.reduceSub, Nat.reduceEqDiff, Int.reduceNeg, Int.reduceToNat, Int.reduceAdd, Int.reduceSub]; try exact rfl) trivial (fun h => ?_) (fun h => ?_)
    · refine cw_go tabOK 99 (by simp only [go_sem, Nat.reduceLT, Nat.reduceBEq, Nat.reduceLeDiff, Nat.reduceAdd, Nat.reduceMul, Nat.reduceSub, Nat.reduceEqDiff, Int.reduceNeg, Int.reduceToNat, Int.reduceAdd, Int.reduceSub]; try exact rfl) (by simp [go_sem]) ?_
      refine cw_ret ⟨_, _, (by simp only [go_sem, Nat.reduceLT, Nat.reduceBEq, Nat.reduceLeDiff, Nat.reduceAdd, Nat.reduceMul, Nat.reduceSub, Nat.reduceEqDiff, Int.reduceNeg, Int.reduceToNat, Int.reduceAdd, Int.reduceSub]; try exact rfl), by simp [go_sem], _, .inr (.inl rfl), ?_⟩
      rfl
    · cases h
  | false =>
    have e1 : entryN n s = none := by unfold entryN; rw [if_neg (by simp [he])]
    rw [e1]
    simp only [optInt]
    refine cw_go tabOK 99 (by simp only [go_sem, Nat.reduceLT, Nat.reduceBEq, Nat.reduceLeDiff, Nat.reduceAdd, Nat.reduceMul, Nat.reduceSub, Nat.reduceEqDiff, Int.reduceNeg, Int.reduceToNat, Int.reduceAdd, Int.reduceSub, nodeRow]; try exact rfl) ?_ ?_
    · simp [go_sem, nodeRow]
    refine cw_freeze 23 rfl (rfl) ?_
    simp only [go_sem, Nat.reduceLT, Nat.reduceBEq, Nat.reduceLeDiff, Nat.reduceAdd, Nat.reduceMul, Nat.reduceSub, Nat.reduceEqDiff, Int.reduceNeg, Int.reduceToNat, Int.reduceAdd, Int.reduceSub]
    refine cw_callC rfl (by simp only [go_sem, Nat.reduceLT, Nat.reduceBEq, Nat.reduceLeDiff, Nat.reduceAdd, Nat.reduceMul, Nat.reduceSub, Nat.reduceEqDiff, Int.reduceNeg, Int.reduceToNat, Int.reduceAdd, Int.reduceSub]; try exact rfl) (by simp only [go_sem, Nat.reduceLT, Nat.reduceBEq, Nat.reduceLeDiff, Nat.reduceAdd, Nat.reduceMul, Nat.reduceSub, Nat.reduceEqDiff, Int.reduceNeg, Int.reduceToNat, Int.reduceAdd, Int.reduceSub]; try exact rfl) (by simp [go_sem]) ⟨_, Go.Proofs.Try.func27, by kernel_rfl, rfl⟩ (by simp [go_sem]) (fun hb => (rises_ok [n] hs1)) (by simp [go_sem]) (by simp only [go_sem, Nat.reduceLT, Nat.reduceBEq, Nat.reduceLeDiff, Nat.reduceAdd, Nat.reduceMul, Nat.reduceSub, Nat.reduceEqDiff, Int.reduceNeg, Int.reduceToNat, Int.reduceAdd, Int.reduceSub]; exact rfl) ?_
    refine cw_go tabOK 99 (by simp only [go_sem, Nat.reduceLT, Nat.reduceBEq, Nat.reduceLeDiff, Nat.reduceAdd, Nat.reduceMul, Nat.reduceSub, Nat.reduceEqDiff, Int.reduceNeg, Int.reduceToNat, Int.reduceAdd, Int.reduceSub]; try exact rfl) (by simp [go_sem]) ?_
    refine cw_cond (by simp only [go_sem, Nat.reduceLT, Nat.reduceBEq, Nat.reduceLeDiff, Nat.reduceAdd, Nat.reduceMul, Nat.reduceSub, Nat.reduceEqDiff, Int.reduceNeg, Int.reduceToNat, Int.reduceAdd, Int.reduceSub]; try exact rfl) trivial (fun h => ?_) (fun h => ?_)
    · refine cw_go tabOK 99 (by simp only [go_sem, Nat.reduceLT, Nat.reduceBEq, Nat.reduceLeDiff, Nat.reduceAdd, Nat.reduceMul, Nat.reduceSub, Nat.reduceEqDiff, Int.reduceNeg, Int.reduceToNat, Int.reduceAdd, Int.reduceSub]; try exact rfl) (by simp [go_sem]) ?_
      refine cw_ret ⟨_, _, (by simp only [go_sem, Nat.reduceLT, Nat.reduceBEq, Nat.reduceLeDiff, Nat.reduceAdd, Nat.reduceMul, Nat.reduceSub, Nat.reduceEqDiff, Int.reduceNeg, Int.reduceToNat, Int.reduceAdd, Int.reduceSub]; try exact rfl), by simp [go_sem], _, .inr (.inl rfl), ?_⟩
      rfl
    have hr : risesB [n] = true := by
      revert h
      cases risesB [n] <;> simp
    have hup : EUp n.entries := ((risesB_iff [n]).1 hr).2 n (by simp)
    have hf1 := enters_leads hup he f
    have hf2 := enters_leaves hup he f
    have c1 := entry_ok (enterN n s f) s hes
    have c2 := leave_ok (enterN n s f) s hes
    rw [hf1] at c1
    rw [hf2] at c2
    simp only [optInt] at c1
    have c0 := enter_ok n s f hn
    generalize enterN n s f = m at c0 c1 c2 hes
    refine cw_go tabOK 99 (by simp only [go_sem, Nat.reduceLT, Nat.reduceBEq, Nat.reduceLeDiff, Nat.reduceAdd, Nat.reduceMul, Nat.reduceSub, Nat.reduceEqDiff, Int.reduceNeg, Int.reduceToNat, Int.reduceAdd, Int.reduceSub, nodeRow]; try exact rfl) ?_ ?_
    · simp [nodeRow]
    refine cw_call rfl rfl (by simp only [go_sem, Nat.reduceLT, Nat.reduceBEq, Nat.reduceLeDiff, Nat.reduceAdd, Nat.reduceMul, Nat.reduceSub, Nat.reduceEqDiff, Int.reduceNeg, Int.reduceToNat, Int.reduceAdd, Int.reduceSub]; try exact rfl) (by simp [go_sem]) ⟨_, Go.Proofs.Try.func37, by kernel_rfl, rfl⟩ (by simp [go_sem]) (c0) (by simp [go_sem]) (by simp only [go_sem, Nat.reduceLT, Nat.reduceBEq, Nat.reduceLeDiff, Nat.reduceAdd, Nat.reduceMul, Nat.reduceSub, Nat.reduceEqDiff, Int.reduceNeg, Int.reduceToNat, Int.reduceAdd, Int.reduceSub]; exact rfl) ?_
    refine cw_go tabOK 99 (by simp only [go_sem, Nat.reduceLT, Nat.reduceBEq, Nat.reduceLeDiff, Nat.reduceAdd, Nat.reduceMul, Nat.reduceSub, Nat.reduceEqDiff, Int.reduceNeg, Int.reduceToNat, Int.reduceAdd, Int.reduceSub, nodeRow]; try exact rfl) ?_ ?_
    · simp [nodeRow]
    refine cw_call rfl rfl (by simp only [go_sem, Nat.reduceLT, Nat.reduceBEq, Nat.reduceLeDiff, Nat.reduceAdd, Nat.reduceMul, Nat.reduceSub, Nat.reduceEqDiff, Int.reduceNeg, Int.reduceToNat, Int.reduceAdd, Int.reduceSub]; try exact rfl) (by simp [go_sem]) ⟨_, Go.Proofs.Try.func36, by kernel_rfl, rfl⟩ (by simp [go_sem]) (c1) (by simp [go_sem]) (by simp only [go_sem, Nat.reduceLT, Nat.reduceBEq, Nat.reduceLeDiff, Nat.reduceAdd, Nat.reduceMul, Nat.reduceSub, Nat.reduceEqDiff, Int.reduceNeg, Int.reduceToNat, Int.reduceAdd, Int.reduceSub]; exact rfl) ?_
    refine cw_go tabOK 99 (by simp only [go_sem, Nat.reduceLT, Nat.reduceBEq, Nat.reduceLeDiff, Nat.reduceAdd, Nat.reduceMul, Nat.reduceSub, Nat.reduceEqDiff, Int.reduceNeg, Int.reduceToNat, Int.reduceAdd, Int.reduceSub]; try exact rfl) (by simp [go_sem]) ?_
    have sm := sameNode_ok n n true hn hn
    rw [sameN_self] at sm
    refine cw_draw mixed ?_
    refine seg_start rfl ?_
    refine seg_runN tabOK 6 (by simp only [go_sem, Nat.reduceLT, Nat.reduceBEq, Nat.reduceLeDiff, Nat.reduceAdd, Nat.reduceMul, Nat.reduceSub, Nat.reduceEqDiff, Int.reduceNeg, Int.reduceToNat, Int.reduceAdd, Int.reduceSub]; exact rfl) (by simp only [go_sem, Nat.reduceLT, Nat.reduceBEq, Nat.reduceLeDiff, Nat.reduceAdd, Nat.reduceMul, Nat.reduceSub, Nat.reduceEqDiff, Int.reduceNeg, Int.reduceToNat, Int.reduceAdd, Int.reduceSub]; exact rfl) (by simp only [go_sem, Nat.reduceLT, Nat.reduceBEq, Nat.reduceLeDiff, Nat.reduceAdd, Nat.reduceMul, Nat.reduceSub, Nat.reduceEqDiff, Int.reduceNeg, Int.reduceToNat, Int.reduceAdd, Int.reduceSub]; try exact rfl) (by simp [go_sem]) (by simp only [go_sem, Nat.reduceLT, Nat.reduceBEq, Nat.reduceLeDiff, Nat.reduceAdd, Nat.reduceMul, Nat.reduceSub, Nat.reduceEqDiff, Int.reduceNeg, Int.reduceToNat, Int.reduceAdd, Int.reduceSub]; exact rfl) ?_
    refine seg_name 42 (by simp only [go_sem, Nat.reduceLT, Nat.reduceBEq, Nat.reduceLeDiff, Nat.reduceAdd, Nat.reduceMul, Nat.reduceSub, Nat.reduceEqDiff, Int.reduceNeg, Int.reduceToNat, Int.reduceAdd, Int.reduceSub]; exact rfl) (fun c42 h42 => ?_)
    simp only [go_sem, Nat.reduceLT, Nat.reduceBEq, Nat.reduceLeDiff, Nat.reduceAdd, Nat.reduceMul, Nat.reduceSub, Nat.reduceEqDiff, Int.reduceNeg, Int.reduceToNat, Int.reduceAdd, Int.reduceSub]
    have hc : c42 = true := by rw [← h42]; simp
    subst hc
    refine seg_runN tabOK 3 (by simp only [go_sem, Nat.reduceLT, Nat.reduceBEq, Nat.reduceLeDiff, Nat.reduceAdd, Nat.reduceMul, Nat.reduceSub, Nat.reduceEqDiff, Int.reduceNeg, Int.reduceToNat, Int.reduceAdd, Int.reduceSub]; exact rfl) (by simp only [go_sem, Nat.reduceLT, Nat.reduceBEq, Nat.reduceLeDiff, Nat.reduceAdd, Nat.reduceMul, Nat.reduceSub, Nat.reduceEqDiff, Int.reduceNeg, Int.reduceToNat, Int.reduceAdd, Int.reduceSub]; exact rfl) (by simp only [go_sem, Nat.reduceLT, Nat.reduceBEq, Nat.reduceLeDiff, Nat.reduceAdd, Nat.reduceMul, Nat.reduceSub, Nat.reduceEqDiff, Int.reduceNeg, Int.reduceToNat, Int.reduceAdd, Int.reduceSub, nodeRow]; try exact rfl) (by simp [go_sem, nodeRow]) (by simp only [go_sem, Nat.reduceLT, Nat.reduceBEq, Nat.reduceLeDiff, Nat.reduceAdd, Nat.reduceMul, Nat.reduceSub, Nat.reduceEqDiff, Int.reduceNeg, Int.reduceToNat, Int.reduceAdd, Int.reduceSub]; exact rfl) ?_
    refine seg_callC rfl (by simp only [go_sem, Nat.reduceLT, Nat.reduceBEq, Nat.reduceLeDiff, Nat.reduceAdd, Nat.reduceMul, Nat.reduceSub, Nat.reduceEqDiff, Int.reduceNeg, Int.reduceToNat, Int.reduceAdd, Int.reduceSub]; try exact rfl) (by simp only [go_sem, Nat.reduceLT, Nat.reduceBEq, Nat.reduceLeDiff, Nat.reduceAdd, Nat.reduceMul, Nat.reduceSub, Nat.reduceEqDiff, Int.reduceNeg, Int.reduceToNat, Int.reduceAdd, Int.reduceSub]; try exact rfl) (by simp [go_sem]) ⟨_, Go.Proofs.Try.func38, by kernel_rfl, rfl⟩ (by simp [go_sem]) (fun hb => (c2)) (by simp [go_sem]) (by simp only [go_sem, Nat.reduceLT, Nat.reduceBEq, Nat.reduceLeDiff, Nat.reduceAdd, Nat.reduceMul, Nat.reduceSub, Nat.reduceEqDiff, Int.reduceNeg, Int.reduceToNat, Int.reduceAdd, Int.reduceSub]; exact rfl) (by simp only [go_sem, Nat.reduceLT, Nat.reduceBEq, Nat.reduceLeDiff, Nat.reduceAdd, Nat.reduceMul, Nat.reduceSub, Nat.reduceEqDiff, Int.reduceNeg, Int.reduceToNat, Int.reduceAdd, Int.reduceSub]; exact rfl) ?_
    refine seg_runN tabOK 1 (by simp only [go_sem, Nat.reduceLT, Nat.reduceBEq, Nat.reduceLeDiff, Nat.reduceAdd, Nat.reduceMul, Nat.reduceSub, Nat.reduceEqDiff, Int.reduceNeg, Int.reduceToNat, Int.reduceAdd, Int.reduceSub]; exact rfl) (by simp only [go_sem, Nat.reduceLT, Nat.reduceBEq, Nat.reduceLeDiff, Nat.reduceAdd, Nat.reduceMul, Nat.reduceSub, Nat.reduceEqDiff, Int.reduceNeg, Int.reduceToNat, Int.reduceAdd, Int.reduceSub]; exact rfl) (by simp only [go_sem, Nat.reduceLT, Nat.reduceBEq, Nat.reduceLeDiff, Nat.reduceAdd, Nat.reduceMul, Nat.reduceSub, Nat.reduceEqDiff, Int.reduceNeg, Int.reduceToNat, Int.reduceAdd, Int.reduceSub]; try exact rfl) (by simp [go_sem]) (by simp only [go_sem, Nat.reduceLT, Nat.reduceBEq, Nat.reduceLeDiff, Nat.reduceAdd, Nat.reduceMul, Nat.reduceSub, Nat.reduceEqDiff, Int.reduceNeg, Int.reduceToNat, Int.reduceAdd, Int.reduceSub]; exact rfl) ?_
    refine seg_callC rfl (by simp only [go_sem, Nat.reduceLT, Nat.reduceBEq, Nat.reduceLeDiff, Nat.reduceAdd, Nat.reduceMul, Nat.reduceSub, Nat.reduceEqDiff, Int.reduceNeg, Int.reduceToNat, Int.reduceAdd, Int.reduceSub]; try exact rfl) (by simp only [go_sem, Nat.reduceLT, Nat.reduceBEq, Nat.reduceLeDiff, Nat.reduceAdd, Nat.reduceMul, Nat.reduceSub, Nat.reduceEqDiff, Int.reduceNeg, Int.reduceToNat, Int.reduceAdd, Int.reduceSub]; try exact rfl) (by simp [go_sem]) ⟨_, Go.Proofs.Try.func34, by kernel_rfl, rfl⟩ (by simp [go_sem]) (fun hb => (sm)) (by simp [go_sem]) (by simp only [go_sem, Nat.reduceLT, Nat.reduceBEq, Nat.reduceLeDiff, Nat.reduceAdd, Nat.reduceMul, Nat.reduceSub, Nat.reduceEqDiff, Int.reduceNeg, Int.reduceToNat, Int.reduceAdd, Int.reduceSub]; exact rfl) (by simp only [go_sem, Nat.reduceLT, Nat.reduceBEq, Nat.reduceLeDiff, Nat.reduceAdd, Nat.reduceMul, Nat.reduceSub, Nat.reduceEqDiff, Int.reduceNeg, Int.reduceToNat, Int.reduceAdd, Int.reduceSub]; exact rfl) ?_
    refine seg_run tabOK (by simp only [go_sem, Nat.reduceLT, Nat.reduceBEq, Nat.reduceLeDiff, Nat.reduceAdd, Nat.reduceMul, Nat.reduceSub, Nat.reduceEqDiff, Int.reduceNeg, Int.reduceToNat, Int.reduceAdd, Int.reduceSub]; try exact rfl) (by simp [go_sem]) (by simp only [go_sem, Nat.reduceLT, Nat.reduceBEq, Nat.reduceLeDiff, Nat.reduceAdd, Nat.reduceMul, Nat.reduceSub, Nat.reduceEqDiff, Int.reduceNeg, Int.reduceToNat, Int.reduceAdd, Int.reduceSub]; exact rfl) ?_
    refine seg_end (by kernel_rfl) (by simp only [go_sem, Nat.reduceLT, Nat.reduceBEq, Nat.reduceLeDiff, Nat.reduceAdd, Nat.reduceMul, Nat.reduceSub, Nat.reduceEqDiff, Int.reduceNeg, Int.reduceToNat, Int.reduceAdd, Int.reduceSub]; exact rfl) ?_
    refine draw_close (by kernel_rfl) ?_
    refine cw_go tabOK 99 (by simp only [go_sem, Nat.reduceLT, Nat.reduceBEq, Nat.reduceLeDiff, Nat.reduceAdd, Nat.reduceMul, Nat.reduceSub, Nat.reduceEqDiff, Int.reduceNeg, Int.reduceToNat, Int.reduceAdd, Int.reduceSub]; try exact rfl) (by simp [go_sem]) ?_
    refine cw_ret ⟨_, _, (by simp only [go_sem, Nat.reduceLT, Nat.reduceBEq, Nat.reduceLeDiff, Nat.reduceAdd, Nat.reduceMul, Nat.reduceSub, Nat.reduceEqDiff, Int.reduceNeg, Int.reduceToNat, Int.reduceAdd, Int.reduceSub]; try exact rfl), by simp [go_sem], _, .inr (.inl rfl), ?_⟩
    simp
end La

namespace La
open Go Go.Eng Go.Proofs
set_option maxRecDepth 10000
set_option linter.unusedSimpArgs false

def Act.Small (a : Act) : Prop := a.data.length ≤ 100000000
structure SmallL (l : List Rec) : Prop where
  len : l.length ≤ 100000000
  each : ∀ r, r ∈ l → r.act.Small

theorem acts_own (a : Act) (ha : a.Small) : FnOK Try.prog 72 [.agg (actRow a)] [] (fun r _ => r = .agg (actRow a)) := by
  unfold actRow
  refine fn_of_cwW tabOK (Go.Proofs.Try.func72) rfl (fun C => ?_)
  simp only [Go.Proofs.Try.ntmps72, Go.Proofs.Try.results72, go_sem, Nat.reduceLT, Nat.reduceBEq, Nat.reduceLeDiff, Nat.reduceAdd, Nat.reduceMul, Nat.reduceSub, Nat.reduceEqDiff, Int.reduceNeg, Int.reduceToNat, Int.reduceAdd, Int.reduceSub]
  refine cw_go tabOK 99 (by simp only [go_sem, Nat.reduceLT, Nat.reduceBEq, Nat.reduceLeDiff, Nat.reduceAdd, Nat.reduceMul, Nat.reduceSub, Nat.reduceEqDiff, Int.reduceNeg, Int.reduceToNat, Int.reduceAdd, Int.reduceSub]; try exact rfl) (by simp [go_sem]) ?_
  refine cw_call rfl rfl (by simp only [go_sem, Nat.reduceLT, Nat.reduceBEq, Nat.reduceLeDiff, Nat.reduceAdd, Nat.reduceMul, Nat.reduceSub, Nat.reduceEqDiff, Int.reduceNeg, Int.reduceToNat, Int.reduceAdd, Int.reduceSub]; try exact rfl) (by simp [go_sem]) ⟨_, Go.Proofs.Try.func128, by kernel_rfl, rfl⟩ (by simp [go_sem]) (clone_bytes _ ha) (by simp [go_sem]) (by simp only [go_sem, Nat.reduceLT, Nat.reduceBEq, Nat.reduceLeDiff, Nat.reduceAdd, Nat.reduceMul, Nat.reduceSub, Nat.reduceEqDiff, Int.reduceNeg, Int.reduceToNat, Int.reduceAdd, Int.reduceSub]; exact rfl) ?_
  refine cw_go tabOK 99 (by simp only [go_sem, Nat.reduceLT, Nat.reduceBEq, Nat.reduceLeDiff, Nat.reduceAdd, Nat.reduceMul, Nat.reduceSub, Nat.reduceEqDiff, Int.reduceNeg, Int.reduceToNat, Int.reduceAdd, Int.reduceSub]; try exact rfl) (by simp [go_sem]) ?_
  refine cw_ret ⟨_, _, (by simp only [go_sem, Nat.reduceLT, Nat.reduceBEq, Nat.reduceLeDiff, Nat.reduceAdd, Nat.reduceMul, Nat.reduceSub, Nat.reduceEqDiff, Int.reduceNeg, Int.reduceToNat, Int.reduceAdd, Int.reduceSub]; try exact rfl), by simp [go_sem], _, .inr (.inl rfl), ?_⟩
  rfl

theorem logs_ownH (l : List Rec) (hl : SmallL l) : FnOK Try.prog 19 [.sl (l.map recRow)] [] (fun r H => r = .osl 19 9 0 (l.map recRow).length ∧ ∀ i b, hget [(19, .cells 27 9 (l.map recRow))] i = some b → hget H i = some b) := by
  have hlen := hl.len
  refine fn_of_cwW tabOK (Go.Proofs.Try.func19) rfl (fun C => ?_)
  simp only [Go.Proofs.Try.ntmps19, Go.Proofs.Try.results19, go_sem, Nat.reduceLT, Nat.reduceBEq, Nat.reduceLeDiff, Nat.reduceAdd, Nat.reduceMul, Nat.reduceSub, Nat.reduceEqDiff, Int.reduceNeg, Int.reduceToNat, Int.reduceAdd, Int.reduceSub]
  refine cw_go tabOK 99 (by simp only [go_sem, Nat.reduceLT, Nat.reduceBEq, Nat.reduceLeDiff, Nat.reduceAdd, Nat.reduceMul, Nat.reduceSub, Nat.reduceEqDiff, Int.reduceNeg, Int.reduceToNat, Int.reduceAdd, Int.reduceSub]; try exact rfl) (by simp [go_sem]) ?_
  refine cw_loopS (fun i : Nat => i ≤ l.length) (fun i => l.length - i) (fun i => [(3, .osl 19 9 0 i), (5, .any), (8, .int .i64 i), (9, .any), (10, .any), (11, .any), (12, .any), (13, .any), (14, .any), (15, .any), (16, .any), (17, .any), (18, .any), (19, .any), (20, .any)])
    (fun i => [(19, .cells 27 9 ((l.take i).map recRow))]) 0 (by omega) ?_ fun i hi => ?_
  · simp only [go_sem, Nat.reduceLT, Nat.reduceBEq, Nat.reduceLeDiff, Nat.reduceAdd, Nat.reduceMul, Nat.reduceSub, Nat.reduceEqDiff, Int.reduceNeg, Int.reduceToNat, Int.reduceAdd, Int.reduceSub]
    exact le_sub (by simp [go_sem]) (by simp [go_sem]) (by simp only [go_sem, Nat.reduceLT, Nat.reduceBEq, Nat.reduceLeDiff, Nat.reduceAdd, Nat.reduceMul, Nat.reduceSub, Nat.reduceEqDiff, Int.reduceNeg, Int.reduceToNat, Int.reduceAdd, Int.reduceSub])
  simp only [go_sem, Nat.reduceLT, Nat.reduceBEq, Nat.reduceLeDiff, Nat.reduceAdd, Nat.reduceMul, Nat.reduceSub, Nat.reduceEqDiff, Int.reduceNeg, Int.reduceToNat, Int.reduceAdd, Int.reduceSub]
  refine cw_go tabOK 99 (by simp only [go_sem, Nat.reduceLT, Nat.reduceBEq, Nat.reduceLeDiff, Nat.reduceAdd, Nat.reduceMul, Nat.reduceSub, Nat.reduceEqDiff, Int.reduceNeg, Int.reduceToNat, Int.reduceAdd, Int.reduceSub]; try exact rfl) (by simp [go_sem]) ?_
  refine cw_cond (by simp only [go_sem, Nat.reduceLT, Nat.reduceBEq, Nat.reduceLeDiff, Nat.reduceAdd, Nat.reduceMul, Nat.reduceSub, Nat.reduceEqDiff, Int.reduceNeg, Int.reduceToNat, Int.reduceAdd, Int.reduceSub]; try exact rfl) trivial (fun h => ?_) (fun h => ?_)
  · have hlt : i < l.length := by simp at h; omega
    have hn := hl.each _ (getD_mem hlt)
    have hg : (l.map recRow).getD i [] = recRow (l.getD i default) := Fam.getD hlt
    have hs := take_succ_map recRow hlt
    generalize l.getD i default = n at hn hg hs
    refine cw_go tabOK 99 (by simp only [go_sem, Nat.reduceLT, Nat.reduceBEq, Nat.reduceLeDiff, Nat.reduceAdd, Nat.reduceMul, Nat.reduceSub, Nat.reduceEqDiff, Int.reduceNeg, Int.reduceToNat, Int.reduceAdd, Int.reduceSub, hg, recRow]; try exact rfl) ?_ ?_
    · simp [hlt, recRow]
    refine cw_call rfl rfl (by simp only [go_sem, Nat.reduceLT, Nat.reduceBEq, Nat.reduceLeDiff, Nat.reduceAdd, Nat.reduceMul, Nat.reduceSub, Nat.reduceEqDiff, Int.reduceNeg, Int.reduceToNat, Int.reduceAdd, Int.reduceSub]; try exact rfl) (by simp [go_sem]) ⟨_, Go.Proofs.Try.func72, by kernel_rfl, rfl⟩ (by simp [go_sem]) (acts_own n.act hn) (by simp [go_sem]) (by simp only [go_sem, Nat.reduceLT, Nat.reduceBEq, Nat.reduceLeDiff, Nat.reduceAdd, Nat.reduceMul, Nat.reduceSub, Nat.reduceEqDiff, Int.reduceNeg, Int.reduceToNat, Int.reduceAdd, Int.reduceSub]; exact rfl) ?_
    have ht : List.take i (List.map recRow (List.take i l)) = List.map recRow (List.take i l) := List.take_of_length_le (by simp; omega)
    have hw : IntKind.i64.wrap ((i : Int) + 1) = (i : Int) + 1 := wrap_small (by omega) (by omega)
    refine cw_go tabOK 99 (by simp only [go_sem, Nat.reduceLT, Nat.reduceBEq, Nat.reduceLeDiff, Nat.reduceAdd, Nat.reduceMul, Nat.reduceSub, Nat.reduceEqDiff, Int.reduceNeg, Int.reduceToNat, Int.reduceAdd, Int.reduceSub, ht, hw, actRow]; try exact rfl) ?_ ?_
    · simp [rowsOf]; omega
    refine cw_back ⟨i + 1, by omega, by omega, le_sub ?_ ?_ ?_⟩
    · simp [go_sem]
    · simp [go_sem, hs, recRow]
    · simp only [go_sem, Nat.reduceLT, Nat.reduceBEq, Nat.reduceLeDiff, Nat.reduceAdd, Nat.reduceMul, Nat.reduceSub, Nat.reduceEqDiff, Int.reduceNeg, Int.reduceToNat, Int.reduceAdd, Int.reduceSub]
  · have e : i = l.length := by simp at h; omega
    subst e
    refine cw_go tabOK 99 (by simp only [go_sem, Nat.reduceLT, Nat.reduceBEq, Nat.reduceLeDiff, Nat.reduceAdd, Nat.reduceMul, Nat.reduceSub, Nat.reduceEqDiff, Int.reduceNeg, Int.reduceToNat, Int.reduceAdd, Int.reduceSub]; try exact rfl) (by simp [go_sem]) ?_
    refine cw_ret ⟨_, _, (by simp only [go_sem, Nat.reduceLT, Nat.reduceBEq, Nat.reduceLeDiff, Nat.reduceAdd, Nat.reduceMul, Nat.reduceSub, Nat.reduceEqDiff, Int.reduceNeg, Int.reduceToNat, Int.reduceAdd, Int.reduceSub]; try exact rfl), by simp [go_sem], _, .inr (.inl rfl), ?_⟩
    simp [go_sem]

theorem logs_own (l : List Rec) (hl : SmallL l) : FnOK Try.prog 19 [.sl (l.map recRow)] [] (fun r _ => r = .sl (l.map recRow)) := FnOK.read (logs_ownH l hl) (recRow_pure _)

theorem logs_acts (l : List Rec) (hl : SmallL l) : FnOK Try.prog 20 [.sl (l.map recRow)] [] (fun r _ => r = .sl ((l.map Rec.act).map actRow)) := by
  have hlen := hl.len
  refine fn_of_cwW tabOK (Go.Proofs.Try.func20) rfl (fun C => ?_)
  simp only [Go.Proofs.Try.ntmps20, Go.Proofs.Try.results20, go_sem, Nat.reduceLT, Nat.reduceBEq, Nat.reduceLeDiff, Nat.reduceAdd, Nat.reduceMul, Nat.reduceSub, Nat.reduceEqDiff, Int.reduceNeg, Int.reduceToNat, Int.reduceAdd, Int.reduceSub]
  refine cw_go tabOK 99 (by simp only [go_sem, Nat.reduceLT, Nat.reduceBEq, Nat.reduceLeDiff, Nat.reduceAdd, Nat.reduceMul, Nat.reduceSub, Nat.reduceEqDiff, Int.reduceNeg, Int.reduceToNat, Int.reduceAdd, Int.reduceSub]; try exact rfl) (by simp [go_sem]) ?_
  refine cw_loopS (fun i : Nat => i ≤ l.length) (fun i => l.length - i) (fun i => [(3, .osl 17 7 0 i), (5, .any), (8, .int .i64 i), (9, .any), (10, .any), (11, .any), (12, .any), (13, .any), (14, .any), (15, .any), (16, .any), (17, .any), (18, .any)])
    (fun i => [(17, .cells 25 7 (((l.map Rec.act).take i).map actRow))]) 0 (by omega) ?_ fun i hi => ?_
  · simp only [go_sem, Nat.reduceLT, Nat.reduceBEq, Nat.reduceLeDiff, Nat.reduceAdd, Nat.reduceMul, Nat.reduceSub, Nat.reduceEqDiff, Int.reduceNeg, Int.reduceToNat, Int.reduceAdd, Int.reduceSub]
    exact le_sub (by simp [go_sem]) (by simp [go_sem]) (by simp only [go_sem, Nat.reduceLT, Nat.reduceBEq, Nat.reduceLeDiff, Nat.reduceAdd, Nat.reduceMul, Nat.reduceSub, Nat.reduceEqDiff, Int.reduceNeg, Int.reduceToNat, Int.reduceAdd, Int.reduceSub])
  simp only [go_sem, Nat.reduceLT, Nat.reduceBEq, Nat.reduceLeDiff, Nat.reduceAdd, Nat.reduceMul, Nat.reduceSub, Nat.reduceEqDiff, Int.reduceNeg, Int.reduceToNat, Int.reduceAdd, Int.reduceSub]
  refine cw_go tabOK 99 (by simp only [go_sem, Nat.reduceLT, Nat.reduceBEq, Nat.reduceLeDiff, Nat.reduceAdd, Nat.reduceMul, Nat.reduceSub, Nat.reduceEqDiff, Int.reduceNeg, Int.reduceToNat, Int.reduceAdd, Int.reduceSub]; try exact rfl) (by simp [go_sem]) ?_
  refine cw_cond (by simp only [go_sem, Nat.reduceLT, Nat.reduceBEq, Nat.reduceLeDiff, Nat.reduceAdd, Nat.reduceMul, Nat.reduceSub, Nat.reduceEqDiff, Int.reduceNeg, Int.reduceToNat, Int.reduceAdd, Int.reduceSub]; try exact rfl) trivial (fun h => ?_) (fun h => ?_)
  · have hlt : i < l.length := by simp at h; omega
    have hn := hl.each _ (getD_mem hlt)
    have hg : (l.map recRow).getD i [] = recRow (l.getD i default) := Fam.getD hlt
    have hs := take_succ_map actRow (l := l.map Rec.act) (i := i) (by simpa using hlt)
    have he : (l.map Rec.act).getD i default = (l.getD i default).act := by
      rw [List.getD_eq_getElem?_getD, List.getD_eq_getElem?_getD, List.getElem?_map, List.getElem?_eq_getElem hlt]; rfl
    rw [he] at hs
    generalize l.getD i default = n at hn hg hs
    refine cw_go tabOK 99 (by simp only [go_sem, Nat.reduceLT, Nat.reduceBEq, Nat.reduceLeDiff, Nat.reduceAdd, Nat.reduceMul, Nat.reduceSub, Nat.reduceEqDiff, Int.reduceNeg, Int.reduceToNat, Int.reduceAdd, Int.reduceSub, hg, recRow]; try exact rfl) ?_ ?_
    · simp [hlt, recRow]
    refine cw_call rfl rfl (by simp only [go_sem, Nat.reduceLT, Nat.reduceBEq, Nat.reduceLeDiff, Nat.reduceAdd, Nat.reduceMul, Nat.reduceSub, Nat.reduceEqDiff, Int.reduceNeg, Int.reduceToNat, Int.reduceAdd, Int.reduceSub]; try exact rfl) (by simp [go_sem]) ⟨_, Go.Proofs.Try.func72, by kernel_rfl, rfl⟩ (by simp [go_sem]) (acts_own n.act hn) (by simp [go_sem]) (by simp only [go_sem, Nat.reduceLT, Nat.reduceBEq, Nat.reduceLeDiff, Nat.reduceAdd, Nat.reduceMul, Nat.reduceSub, Nat.reduceEqDiff, Int.reduceNeg, Int.reduceToNat, Int.reduceAdd, Int.reduceSub]; exact rfl) ?_
    have ht : List.take i (List.map actRow (List.take i (l.map Rec.act))) = List.map actRow (List.take i (l.map Rec.act)) := List.take_of_length_le (by simp; omega)
    have hw : IntKind.i64.wrap ((i : Int) + 1) = (i : Int) + 1 := wrap_small (by omega) (by omega)
    refine cw_go tabOK 99 (by simp only [go_sem, Nat.reduceLT, Nat.reduceBEq, Nat.reduceLeDiff, Nat.reduceAdd, Nat.reduceMul, Nat.reduceSub, Nat.reduceEqDiff, Int.reduceNeg, Int.reduceToNat, Int.reduceAdd, Int.reduceSub, ht, hw, actRow]; try exact rfl) ?_ ?_
    · simp [rowsOf]; omega
    refine cw_back ⟨i + 1, by omega, by omega, le_sub ?_ ?_ ?_⟩
    · simp [go_sem]
    · simp [go_sem, hs, actRow]
    · simp only [go_sem, Nat.reduceLT, Nat.reduceBEq, Nat.reduceLeDiff, Nat.reduceAdd, Nat.reduceMul, Nat.reduceSub, Nat.reduceEqDiff, Int.reduceNeg, Int.reduceToNat, Int.reduceAdd, Int.reduceSub]
  · have e : i = l.length := by simp at h; omega
    subst e
    have e2 : List.take l.length (l.map Rec.act) = l.map Rec.act := List.take_of_length_le (by simp)
    rw [e2]
    refine cw_freeze 17 rfl (actRow_pure _) ?_
    simp only [go_sem, Nat.reduceLT, Nat.reduceBEq, Nat.reduceLeDiff, Nat.reduceAdd, Nat.reduceMul, Nat.reduceSub, Nat.reduceEqDiff, Int.reduceNeg, Int.reduceToNat, Int.reduceAdd, Int.reduceSub]
    refine cw_go tabOK 99 (by simp only [go_sem, Nat.reduceLT, Nat.reduceBEq, Nat.reduceLeDiff, Nat.reduceAdd, Nat.reduceMul, Nat.reduceSub, Nat.reduceEqDiff, Int.reduceNeg, Int.reduceToNat, Int.reduceAdd, Int.reduceSub]; try exact rfl) (by simp [go_sem]) ?_
    refine cw_ret ⟨_, _, (by simp only [go_sem, Nat.reduceLT, Nat.reduceBEq, Nat.reduceLeDiff, Nat.reduceAdd, Nat.reduceMul, Nat.reduceSub, Nat.reduceEqDiff, Int.reduceNeg, Int.reduceToNat, Int.reduceAdd, Int.reduceSub]; try exact rfl), by simp [go_sem], _, .inr (.inl rfl), ?_⟩
    simp
end La

namespace La
open Go Go.Eng Go.Proofs Go.Proofs.Ytldpfleilffanaa

/-- cells that read so, in blocks that are there -/
def RdC (w : World) (cs : List Value) (xs : List AV) : Prop := cs.length = xs.length ∧ ∀ (j : Nat) y, xs[j]? = some y → RdP (fun b => b < w.heap.size) w (cs.getD j undef) y

theorem rdc_nil {w : World} {cs : List Value} {off : Nat} (h : cs.length = off) : RdC w (cs.drop off) [] :=
  ⟨by simp; omega, fun j y hj => by simp at hj⟩

theorem rdc_cons {w : World} {cs : List Value} {xs ys : List AV} (off s : Nat) (h : RdC w ((cs.drop off).take s) xs) (hs : xs.length = s) (k : RdC w (cs.drop (off + s)) ys) : RdC w (cs.drop off) (xs ++ ys) := by
  obtain ⟨h1, h2⟩ := h
  obtain ⟨k1, k2⟩ := k
  have hl : (cs.drop off).length = s + (cs.drop (off + s)).length := by
    simp only [List.length_take, List.length_drop] at h1 k1 ⊢
    omega
  refine ⟨by rw [List.length_append, hl, hs, k1], fun j y hj => ?_⟩
  by_cases hjs : j < s
  · rw [List.getElem?_append_left (by omega)] at hj
    have := h2 j y hj
    rwa [List.getD_eq_getElem?_getD, List.getElem?_take, if_pos hjs, ← List.getD_eq_getElem?_getD] at this
  · rw [List.getElem?_append_right (by omega), hs] at hj
    have := k2 (j - s) y hj
    rw [List.getD_eq_getElem?_getD, List.getElem?_drop] at this
    rw [List.getD_eq_getElem?_getD, List.getElem?_drop]
    rwa [show off + s + (j - s) = off + j from by omega] at this

/-- A TYPE's VALUES, AS LEAN HAS THEM: the cells read as 'f x', 'q' holds of it, and it is no larger than what was read. -/
structure Rep (t : TypeId) {α : Type} (f : α → List AV) (q : α → Prop) (sz : α → Nat) : Prop where
  size : ∀ x, (f x).length = (Try.prog).cellsOf t
  opn : ∀ {H : Type} (enc : TypeId × Value → H) (w : World) (n : Nat) (cs : List Value) (y : DataW H × List MemPlace), DataW.trod enc Try.prog w 0 (fun _ => true) true n t cs = some y →
    ∃ x : α, q x ∧ sz x ≤ Rows.uptoBulk y.1 ∧ RdC w cs (f x)

theorem cells_tab {t : TypeId} {n : Nat} (h : tab.siz t = n) (h0 : n ≠ 0) : (Try.prog).cellsOf t = n := by
  obtain ⟨i, h1, h2, _⟩ := tabOK.siz t (by rw [h]; exact h0)
  unfold Program.cellsOf
  rw [h1]
  simp [h2, h]

theorem rep_int {t : TypeId} (ht : (Try.prog).underlying t = some (.int .i64)) (hs : (Try.prog).cellsOf t = 1) : Rep t (fun n : Int => [AV.int .i64 n]) (fun n => -9223372036854775808 ≤ n ∧ n ≤ 9223372036854775807) (fun _ => 1) where
  size := fun _ => by rw [hs]; rfl
  opn := fun enc w n cs y h => by
    obtain ⟨m, rfl, rfl, hw⟩ := DataW.trod_int ht h
    refine ⟨m, ?_, by simp [Rows.uptoBulk], rfl, fun j y hj => ?_⟩
    · simpa [Lit.wf, IntKind.min, IntKind.max, IntKind.bits, IntKind.signed] using hw
    · cases j with
      | zero => simp only [List.getElem?_cons_zero, Option.some.injEq] at hj; subst hj; exact .int _ _
      | succ j => simp at hj

theorem rep_bool {t : TypeId} (ht : (Try.prog).underlying t = some .bool) (hs : (Try.prog).cellsOf t = 1) : Rep t (fun b : Bool => [AV.bool b]) (fun _ => True) (fun _ => 1) where
  size := fun _ => by rw [hs]; rfl
  opn := fun enc w n cs y h => by
    obtain ⟨b, rfl, rfl⟩ := DataW.trod_bool ht h
    refine ⟨b, trivial, by simp [Rows.uptoBulk], rfl, fun j y hj => ?_⟩
    cases j with
    | zero => simp only [List.getElem?_cons_zero, Option.some.injEq] at hj; subst hj; exact .bool _
    | succ j => simp at hj

theorem rep_str {t : TypeId} (ht : (Try.prog).underlying t = some .string) (hs : (Try.prog).cellsOf t = 1) : Rep t (fun s : List UInt8 => [AV.str s]) (fun _ => True) (fun s => s.length + 1) where
  size := fun _ => by rw [hs]; rfl
  opn := fun enc w n cs y h => by
    obtain ⟨s, rfl, rfl, _⟩ := DataW.trod_string ht h
    refine ⟨s.data.toList, trivial, by simp [Rows.uptoBulk], rfl, fun j y hj => ?_⟩
    cases j with
    | zero => simp only [List.getElem?_cons_zero, Option.some.injEq] at hj; subst hj; exact .str _ _ rfl
    | succ j => simp at hj

theorem rep_byte {t : TypeId} (ht : (Try.prog).underlying t = some (.int .u8)) (hs : (Try.prog).cellsOf t = 1) : Rep t byteRow (fun _ => True) (fun _ => 1) where
  size := fun _ => by rw [hs]; rfl
  opn := fun enc w n cs y h => by
    obtain ⟨m, rfl, rfl, hw⟩ := DataW.trod_int ht h
    have hb : 0 ≤ m ∧ m ≤ 255 := by simpa [Lit.wf, IntKind.min, IntKind.max, IntKind.bits, IntKind.signed] using hw
    refine ⟨UInt8.ofNat m.toNat, trivial, by simp [Rows.uptoBulk], rfl, fun j y hj => ?_⟩
    cases j with
    | zero =>
      simp only [byteRow, List.getElem?_cons_zero, Option.some.injEq] at hj
      subst hj
      have : ((UInt8.ofNat m.toNat).toNat : Int) = m := by
        rw [UInt8.toNat_ofNat']
        omega
      rw [this]; exact .int _ _
    | succ j => simp [byteRow] at hj

/-- how much a list holds -/
def szL {α : Type} (sz : α → Nat) : List α → Nat
  | [] => 0
  | x :: r => sz x + szL sz r

theorem szL_mem {α : Type} {sz : α → Nat} {x : α} : ∀ {l : List α}, x ∈ l → sz x ≤ szL sz l
  | y :: r, h => by
    rcases List.mem_cons.1 h with rfl | h
    · simp only [szL]; omega
    · have := szL_mem (sz := sz) h; simp only [szL]; omega

theorem szL_len {α : Type} {sz : α → Nat} (h : ∀ x, 1 ≤ sz x) : ∀ (l : List α), l.length ≤ szL sz l
  | [] => Nat.le_refl _
  | x :: r => by have := szL_len h r; have := h x; simp only [szL, List.length_cons]; omega

theorem bulkAll_append {H : Type} : ∀ (a b : List (DataW H)), Rows.uptoBulkAll (a ++ b) = Rows.uptoBulkAll a + Rows.uptoBulkAll b
  | [], b => by simp [Rows.uptoBulkAll]
  | x :: a, b => by simp only [List.cons_append, Rows.uptoBulkAll, bulkAll_append a b]; omega

/-- what each element is, one by one -/
theorem pick_list {α H : Type} {q : α → Prop} {sz : α → Nat} {R : Nat → α → Prop} : ∀ (elems : List (DataW H × List MemPlace)) (i0 : Nat), (∀ (i : Nat) y, elems[i]? = some y → ∃ x, q x ∧ sz x ≤ Rows.uptoBulk y.1 ∧ R (i0 + i) x) →
    ∃ l : List α, l.length = elems.length ∧ (∀ x, x ∈ l → q x) ∧ szL sz l ≤ Rows.uptoBulkAll (elems.map (·.1)) ∧ ∀ (i : Nat) x, l[i]? = some x → R (i0 + i) x
  | [], _, _ => ⟨[], rfl, fun x h => by simp at h, by simp [szL], fun i x h => by simp at h⟩
  | y :: r, i0, h => by
    obtain ⟨x, h1, h2, h3⟩ := h 0 y rfl
    obtain ⟨l, k1, k2, k3, k4⟩ := pick_list (R := R) r (i0 + 1) (fun i z hz => by rw [show i0 + 1 + i = i0 + (i + 1) from by omega]; exact h (i + 1) z (by simpa using hz))
    refine ⟨x :: l, by simp [k1], fun z hz => ?_, ?_, fun i z hz => ?_⟩
    · rcases List.mem_cons.1 hz with rfl | hz
      · exact h1
      · exact k2 z hz
    · simp only [szL, List.map_cons, Rows.uptoBulkAll]; omega
    · cases i with
      | zero => simp only [List.getElem?_cons_zero, Option.some.injEq] at hz; subst hz; exact h3
      | succ i => rw [show i0 + (i + 1) = i0 + 1 + i from by omega]; exact k4 i z (by simpa using hz)

theorem cells_some {w : World} {a : Addr} {n : Nat} {cs : List Value} (h : w.cells? 0 a n = some cs) : cs.length = n ∧ ∀ i, i < n → w.cell? (a.add i) = cs[i]? := by
  unfold World.cells? at h
  rw [if_pos (Nat.zero_le _)] at h
  have hl := mapM_some_length h
  refine ⟨by simpa using hl, fun i hi => ?_⟩
  exact mapM_some_get h i i (by simp [hi])

theorem rep_slice {t e : TypeId} {α : Type} {f : α → List AV} {q : α → Prop} {sz : α → Nat} (ht : (Try.prog).underlying t = some (.slice e)) (hs : (Try.prog).cellsOf t = 1) (he : Rep e f q sz) (hsz : (Try.prog).cellsOf e ≠ 0) :
    Rep t (fun l : List α => [AV.sl (l.map f)]) (fun l => ∀ x, x ∈ l → q x) (fun l => szL sz l + 1) where
  size := fun _ => by rw [hs]; rfl
  opn := fun enc w n cs y h => by
    rcases DataW.trod_slice ht h with ⟨rfl, rfl⟩ | ⟨a, len, cap, elems, rest, m, rfl, rfl, rfl, h1, h2, h3, h4, h5, _⟩
    · refine ⟨[], fun x hx => by simp at hx, by simp [szL, Rows.uptoBulk], rfl, fun j y hj => ?_⟩
      cases j with
      | zero =>
        simp only [List.map_nil, List.getElem?_cons_zero, Option.some.injEq] at hj; subst hj
        exact .sl none 0 0 [] 0 0 0 (fun _ _ => undef) rfl (Nat.le_refl _) (fun row h => by simp at h) (fun h => by omega) (fun i j h => by omega) (fun i row h => by simp at h)
      | succ j => simp at hj
    · have key : ∀ (i : Nat) y, elems[i]? = some y → ∃ x, q x ∧ sz x ≤ Rows.uptoBulk y.1 ∧ (∃ cs, w.cells? 0 (a.add ((0 + i) * (Try.prog).cellsOf e)) ((Try.prog).cellsOf e) = some cs ∧ RdC w cs (f x)) := fun i y hy => by
        have hi : i < len := by rw [← h4]; exact (List.getElem?_eq_some_iff.1 hy).1
        have := h5 i hi
        rw [hy] at this
        obtain ⟨cs, k1, k2⟩ := Option.bind_eq_some_iff.1 this
        obtain ⟨x, q1, q2, q3⟩ := he.opn enc w m cs y k2
        exact ⟨x, q1, q2, cs, by rw [Nat.zero_add]; exact k1, q3⟩
      obtain ⟨l, l1, l2, l3, l4⟩ := pick_list (q := q) (sz := sz) (R := fun i x => ∃ cs, w.cells? 0 (a.add (i * (Try.prog).cellsOf e)) ((Try.prog).cellsOf e) = some cs ∧ RdC w cs (f x)) elems 0 key
      refine ⟨l, l2, by simp only [Rows.uptoBulk]; omega, rfl, fun j y hj => ?_⟩
      cases j with
      | succ j => simp at hj
      | zero =>
        simp only [List.getElem?_cons_zero, Option.some.injEq] at hj
        subst hj
        have hcell : ∀ i j, i < l.length → j < (Try.prog).cellsOf e → ∃ (b : a.spot = none ∨ True) (x : α) (cs : List Value), l[i]? = some x ∧ RdC w cs (f x) ∧ w.cell? (a.add (i * (Try.prog).cellsOf e) |>.add j) = cs[j]? ∧ j < cs.length := fun i j hi hj => by
          obtain ⟨cs, k1, k2⟩ := l4 i l[i] (List.getElem?_eq_getElem hi)
          obtain ⟨c1, c2⟩ := cells_some k1
          rw [Nat.zero_add] at c2
          exact ⟨.inr trivial, l[i], cs, List.getElem?_eq_getElem hi, k2, c2 j hj, by omega⟩
        by_cases h0 : l.length = 0
        · have : l = [] := List.eq_nil_of_length_eq_zero h0
          subst this
          simp only [List.map_nil]
          have e0 : len = 0 := by rw [← h4, ← l1]; rfl
          subst e0
          exact .sl (some a) 0 cap [] 0 0 0 (fun _ _ => undef) rfl (Nat.zero_le _) (fun row h => by simp at h) (fun h => by omega) (fun i j h => by omega) (fun i row h => by simp at h)
        · have hspot : a.spot = none ∧ a.block < w.heap.size := by
            obtain ⟨_, x, cs, _, _, c3, c4⟩ := hcell 0 0 (by omega) (by omega)
            rw [List.getElem?_eq_getElem c4] at c3
            have c3' : w.cell? a = some cs[0] := by simpa [Addr.add] using c3
            unfold World.cell? at c3'
            split at c3'
            · rename_i c e' f' hb
              split at c3'
              · cases c3'
              · rename_i hsp
                refine ⟨?_, ?_⟩
                · cases e : a.spot with
                  | none => rfl
                  | some k => rw [e] at hsp; simp at hsp
                · exact (Array.getElem?_eq_some_iff.1 hb).1
            · cases c3'
          obtain ⟨ab, ao, asp⟩ := a
          simp only at hspot
          obtain ⟨rfl, hlt⟩ := hspot
          have hadd : ∀ (i j : Nat), ((⟨ab, ao, none⟩ : Addr).add (i * (Try.prog).cellsOf e) |>.add j) = ⟨ab, ao + (i * (Try.prog).cellsOf e + j), none⟩ := fun i j => by
            rw [add_plain, add_plain, Nat.add_assoc]
          refine .sl (some ⟨ab, ao, none⟩) len cap (l.map f) ((Try.prog).cellsOf e) ab ao (fun i j => (w.cell? ⟨ab, ao + (i * (Try.prog).cellsOf e + j), none⟩).getD undef) (by simp [l1, h4]) h2 (fun row hr => ?_) (fun _ => ⟨rfl, hlt⟩) (fun i j hi hj => ?_) (fun i row hrow j x hx => ?_)
          · obtain ⟨x, _, rfl⟩ := List.mem_map.1 hr
            exact he.size x
          · obtain ⟨_, x, cs, _, _, c3, c4⟩ := hcell i j (by omega) hj
            rw [hadd, List.getElem?_eq_getElem c4] at c3
            rw [c3]; rfl
          · rw [List.getElem?_map] at hrow
            cases e1 : l[i]? with
            | none => rw [e1] at hrow; cases hrow
            | some x0 =>
              rw [e1] at hrow
              simp only [Option.map_some, Option.some.injEq] at hrow
              subst hrow
              have hi : i < l.length := (List.getElem?_eq_some_iff.1 e1).1
              have hj : j < (Try.prog).cellsOf e := by rw [← he.size x0]; exact (List.getElem?_eq_some_iff.1 hx).1
              obtain ⟨_, x1, cs, c1, c2, c3, c4⟩ := hcell i j hi hj
              rw [e1] at c1
              injection c1 with c1
              subst c1
              have := c2.2 j x hx
              rw [hadd, List.getElem?_eq_getElem c4] at c3
              simp only [c3, Option.getD_some]
              rwa [List.getD_eq_getElem?_getD, List.getElem?_eq_getElem c4] at this

/-! ### The program's types -/

theorem rep_i (t : TypeId) (ht : (Try.prog).underlying t = some (.int .i64)) (hs : tab.siz t = 1) : Rep t (fun n : Int => [AV.int .i64 n]) (fun n => -9223372036854775808 ≤ n ∧ n ≤ 9223372036854775807) (fun _ => 1) := rep_int ht (cells_tab hs (by decide))

theorem rep_bytes : Rep 23 (fun d : List UInt8 => [AV.sl (d.map byteRow)]) (fun l => ∀ x, x ∈ l → True) (fun l => szL (fun _ => 1) l + 1) :=
  rep_slice Try.underlying23 (cells_tab (t := 23) (n := 1) rfl (by decide)) (rep_byte Try.underlying5 (cells_tab (t := 5) (n := 1) rfl (by decide))) (by rw [cells_tab (t := 5) (n := 1) rfl (by decide)]; decide)

def i64 (n : Int) : Prop := -9223372036854775808 ≤ n ∧ n ≤ 9223372036854775807

structure Entry.Ok (e : Entry) : Prop where
  fid : i64 e.fid
structure Node.Ok (n : Node) : Prop where
  fid : i64 n.fid
  entries : ∀ e, e ∈ n.entries → e.Ok
  version : i64 n.version
structure Act.Ok (a : Act) : Prop where
  kind : i64 a.kind
  fid : i64 a.fid
  dir : i64 a.dir
  to : i64 a.to
structure Rec.Ok (r : Rec) : Prop where
  act : r.act.Ok
  version : i64 r.version
  id : i64 r.id
def Entry.sz (e : Entry) : Nat := e.name.length + 1
def Node.sz (n : Node) : Nat := n.data.length + szL Entry.sz n.entries + 1
def Act.sz (a : Act) : Nat := a.name.length + a.toName.length + a.data.length + 1
def Rec.sz (r : Rec) : Nat := r.act.sz + 1
theorem szL_ones {α : Type} : ∀ (l : List α), szL (fun _ => 1) l = l.length
  | [] => rfl
  | x :: r => by simp only [szL, szL_ones r, List.length_cons]; omega

theorem rep_entry : Rep 115 entryRow Entry.Ok Entry.sz where
  size := fun x => by rw [cells_tab (t := 115) (n := 2) rfl (by decide)]; rfl
  opn := fun enc w n cs y h => by
    obtain ⟨xs, m, rfl, rfl, hl, hxl, hf⟩ := DataW.trod_struct Try.underlying115 h
    obtain ⟨y0, y1, rfl⟩ : ∃ y0 y1, xs = [y0, y1] := by
      have hxl : xs.length = 2 := hxl
      match xs, hxl with
      | [a0, a1], _ => exact ⟨a0, a1, rfl⟩
    have e0 : DataW.trod enc Try.prog w 0 (fun _ => true) true m 9 ((cs.drop 0).take ((Try.prog).cellsOf 9)) = some y0 := hf 0 _ rfl
    obtain ⟨x0, q0, s0, r0⟩ := (rep_str Try.underlying9 (cells_tab (t := 9) (n := 1) rfl (by decide))).opn enc w m _ _ e0
    rw [cells_tab (t := 9) (n := 1) rfl (by decide)] at r0
    have e1 : DataW.trod enc Try.prog w 0 (fun _ => true) true m 3 ((cs.drop 1).take ((Try.prog).cellsOf 3)) = some y1 := hf 1 _ rfl
    obtain ⟨x1, q1, s1, r1⟩ := (rep_i 3 Try.underlying3 rfl).opn enc w m _ _ e1
    rw [cells_tab (t := 3) (n := 1) rfl (by decide)] at r1
    refine ⟨⟨x0, x1⟩, ⟨q1⟩, ?_, ?_⟩
    · simp only [Entry.sz, Rows.uptoBulk, Rows.uptoBulkAll, List.map_cons, List.map_nil]; omega
    · have hl : cs.length = 2 := by rw [hl, cells_tab (t := 115) (n := 2) rfl (by decide)]
      have := rdc_cons 0 1 r0 rfl (rdc_cons 1 1 r1 rfl (rdc_nil hl))
      rw [List.drop_zero] at this
      exact this

theorem rep_entries : Rep 44 (fun l : List Entry => [AV.sl (l.map entryRow)]) (fun l => ∀ x, x ∈ l → x.Ok) (fun l => szL Entry.sz l + 1) :=
  rep_slice Try.underlying44 (cells_tab (t := 44) (n := 1) rfl (by decide)) rep_entry (by rw [cells_tab (t := 115) (n := 2) rfl (by decide)]; decide)

theorem rep_node : Rep 46 nodeRow Node.Ok Node.sz where
  size := fun x => by rw [cells_tab (t := 46) (n := 5) rfl (by decide)]; rfl
  opn := fun enc w n cs y h => by
    obtain ⟨xs, m, rfl, rfl, hl, hxl, hf⟩ := DataW.trod_struct Try.underlying46 h
    obtain ⟨y0, y1, y2, y3, y4, rfl⟩ : ∃ y0 y1 y2 y3 y4, xs = [y0, y1, y2, y3, y4] := by
      have hxl : xs.length = 5 := hxl
      match xs, hxl with
      | [a0, a1, a2, a3, a4], _ => exact ⟨a0, a1, a2, a3, a4, rfl⟩
    have e0 : DataW.trod enc Try.prog w 0 (fun _ => true) true m 3 ((cs.drop 0).take ((Try.prog).cellsOf 3)) = some y0 := hf 0 _ rfl
    obtain ⟨x0, q0, s0, r0⟩ := (rep_i 3 Try.underlying3 rfl).opn enc w m _ _ e0
    rw [cells_tab (t := 3) (n := 1) rfl (by decide)] at r0
    have e1 : DataW.trod enc Try.prog w 0 (fun _ => true) true m 4 ((cs.drop 1).take ((Try.prog).cellsOf 4)) = some y1 := hf 1 _ rfl
    obtain ⟨x1, q1, s1, r1⟩ := (rep_bool Try.underlying4 (cells_tab (t := 4) (n := 1) rfl (by decide))).opn enc w m _ _ e1
    rw [cells_tab (t := 4) (n := 1) rfl (by decide)] at r1
    have e2 : DataW.trod enc Try.prog w 0 (fun _ => true) true m 23 ((cs.drop 2).take ((Try.prog).cellsOf 23)) = some y2 := hf 2 _ rfl
    obtain ⟨x2, q2, s2, r2⟩ := (rep_bytes).opn enc w m _ _ e2
    rw [cells_tab (t := 23) (n := 1) rfl (by decide)] at r2
    have e3 : DataW.trod enc Try.prog w 0 (fun _ => true) true m 44 ((cs.drop 3).take ((Try.prog).cellsOf 44)) = some y3 := hf 3 _ rfl
    obtain ⟨x3, q3, s3, r3⟩ := (rep_entries).opn enc w m _ _ e3
    rw [cells_tab (t := 44) (n := 1) rfl (by decide)] at r3
    have e4 : DataW.trod enc Try.prog w 0 (fun _ => true) true m 3 ((cs.drop 4).take ((Try.prog).cellsOf 3)) = some y4 := hf 4 _ rfl
    obtain ⟨x4, q4, s4, r4⟩ := (rep_i 3 Try.underlying3 rfl).opn enc w m _ _ e4
    rw [cells_tab (t := 3) (n := 1) rfl (by decide)] at r4
    refine ⟨⟨x0, x1, x2, x3, x4⟩, ⟨q0, q3, q4⟩, ?_, ?_⟩
    · simp only [szL_ones] at s2
      simp only [Node.sz, Rows.uptoBulk, Rows.uptoBulkAll, List.map_cons, List.map_nil]; omega
    · have hl : cs.length = 5 := by rw [hl, cells_tab (t := 46) (n := 5) rfl (by decide)]
      have := rdc_cons 0 1 r0 rfl (rdc_cons 1 1 r1 rfl (rdc_cons 2 1 r2 rfl (rdc_cons 3 1 r3 rfl (rdc_cons 4 1 r4 rfl (rdc_nil hl)))))
      rw [List.drop_zero] at this
      exact this

theorem rep_nodes : Rep 39 (fun l : List Node => [AV.sl (l.map nodeRow)]) (fun l => ∀ x, x ∈ l → x.Ok) (fun l => szL Node.sz l + 1) :=
  rep_slice Try.underlying39 (cells_tab (t := 39) (n := 1) rfl (by decide)) rep_node (by rw [cells_tab (t := 46) (n := 5) rfl (by decide)]; decide)

theorem rep_act : Rep 25 actRow Act.Ok Act.sz where
  size := fun x => by rw [cells_tab (t := 25) (n := 7) rfl (by decide)]; rfl
  opn := fun enc w n cs y h => by
    obtain ⟨xs, m, rfl, rfl, hl, hxl, hf⟩ := DataW.trod_struct Try.underlying25 h
    obtain ⟨y0, y1, y2, y3, y4, y5, y6, rfl⟩ : ∃ y0 y1 y2 y3 y4 y5 y6, xs = [y0, y1, y2, y3, y4, y5, y6] := by
      have hxl : xs.length = 7 := hxl
      match xs, hxl with
      | [a0, a1, a2, a3, a4, a5, a6], _ => exact ⟨a0, a1, a2, a3, a4, a5, a6, rfl⟩
    have e0 : DataW.trod enc Try.prog w 0 (fun _ => true) true m 3 ((cs.drop 0).take ((Try.prog).cellsOf 3)) = some y0 := hf 0 _ rfl
    obtain ⟨x0, q0, s0, r0⟩ := (rep_i 3 Try.underlying3 rfl).opn enc w m _ _ e0
    rw [cells_tab (t := 3) (n := 1) rfl (by decide)] at r0
    have e1 : DataW.trod enc Try.prog w 0 (fun _ => true) true m 3 ((cs.drop 1).take ((Try.prog).cellsOf 3)) = some y1 := hf 1 _ rfl
    obtain ⟨x1, q1, s1, r1⟩ := (rep_i 3 Try.underlying3 rfl).opn enc w m _ _ e1
    rw [cells_tab (t := 3) (n := 1) rfl (by decide)] at r1
    have e2 : DataW.trod enc Try.prog w 0 (fun _ => true) true m 3 ((cs.drop 2).take ((Try.prog).cellsOf 3)) = some y2 := hf 2 _ rfl
    obtain ⟨x2, q2, s2, r2⟩ := (rep_i 3 Try.underlying3 rfl).opn enc w m _ _ e2
    rw [cells_tab (t := 3) (n := 1) rfl (by decide)] at r2
    have e3 : DataW.trod enc Try.prog w 0 (fun _ => true) true m 9 ((cs.drop 3).take ((Try.prog).cellsOf 9)) = some y3 := hf 3 _ rfl
    obtain ⟨x3, q3, s3, r3⟩ := (rep_str Try.underlying9 (cells_tab (t := 9) (n := 1) rfl (by decide))).opn enc w m _ _ e3
    rw [cells_tab (t := 9) (n := 1) rfl (by decide)] at r3
    have e4 : DataW.trod enc Try.prog w 0 (fun _ => true) true m 3 ((cs.drop 4).take ((Try.prog).cellsOf 3)) = some y4 := hf 4 _ rfl
    obtain ⟨x4, q4, s4, r4⟩ := (rep_i 3 Try.underlying3 rfl).opn enc w m _ _ e4
    rw [cells_tab (t := 3) (n := 1) rfl (by decide)] at r4
    have e5 : DataW.trod enc Try.prog w 0 (fun _ => true) true m 9 ((cs.drop 5).take ((Try.prog).cellsOf 9)) = some y5 := hf 5 _ rfl
    obtain ⟨x5, q5, s5, r5⟩ := (rep_str Try.underlying9 (cells_tab (t := 9) (n := 1) rfl (by decide))).opn enc w m _ _ e5
    rw [cells_tab (t := 9) (n := 1) rfl (by decide)] at r5
    have e6 : DataW.trod enc Try.prog w 0 (fun _ => true) true m 23 ((cs.drop 6).take ((Try.prog).cellsOf 23)) = some y6 := hf 6 _ rfl
    obtain ⟨x6, q6, s6, r6⟩ := (rep_bytes).opn enc w m _ _ e6
    rw [cells_tab (t := 23) (n := 1) rfl (by decide)] at r6
    refine ⟨⟨x0, x1, x2, x3, x4, x5, x6⟩, ⟨q0, q1, q2, q4⟩, ?_, ?_⟩
    · simp only [szL_ones] at s6
      simp only [Act.sz, Rows.uptoBulk, Rows.uptoBulkAll, List.map_cons, List.map_nil]; omega
    · have hl : cs.length = 7 := by rw [hl, cells_tab (t := 25) (n := 7) rfl (by decide)]
      have := rdc_cons 0 1 r0 rfl (rdc_cons 1 1 r1 rfl (rdc_cons 2 1 r2 rfl (rdc_cons 3 1 r3 rfl (rdc_cons 4 1 r4 rfl (rdc_cons 5 1 r5 rfl (rdc_cons 6 1 r6 rfl (rdc_nil hl)))))))
      rw [List.drop_zero] at this
      exact this

theorem rep_acts : Rep 33 (fun l : List Act => [AV.sl (l.map actRow)]) (fun l => ∀ x, x ∈ l → x.Ok) (fun l => szL Act.sz l + 1) :=
  rep_slice Try.underlying33 (cells_tab (t := 33) (n := 1) rfl (by decide)) rep_act (by rw [cells_tab (t := 25) (n := 7) rfl (by decide)]; decide)

theorem rep_rec : Rep 27 recRow Rec.Ok Rec.sz where
  size := fun x => by rw [cells_tab (t := 27) (n := 9) rfl (by decide)]; rfl
  opn := fun enc w n cs y h => by
    obtain ⟨xs, m, rfl, rfl, hl, hxl, hf⟩ := DataW.trod_struct Try.underlying27 h
    obtain ⟨y0, y1, y2, rfl⟩ : ∃ y0 y1 y2, xs = [y0, y1, y2] := by
      have hxl : xs.length = 3 := hxl
      match xs, hxl with
      | [a0, a1, a2], _ => exact ⟨a0, a1, a2, rfl⟩
    have e0 : DataW.trod enc Try.prog w 0 (fun _ => true) true m 25 ((cs.drop 0).take ((Try.prog).cellsOf 25)) = some y0 := hf 0 _ rfl
    obtain ⟨x0, q0, s0, r0⟩ := (rep_act).opn enc w m _ _ e0
    rw [cells_tab (t := 25) (n := 7) rfl (by decide)] at r0
    have e1 : DataW.trod enc Try.prog w 0 (fun _ => true) true m 3 ((cs.drop 7).take ((Try.prog).cellsOf 3)) = some y1 := hf 1 _ rfl
    obtain ⟨x1, q1, s1, r1⟩ := (rep_i 3 Try.underlying3 rfl).opn enc w m _ _ e1
    rw [cells_tab (t := 3) (n := 1) rfl (by decide)] at r1
    have e2 : DataW.trod enc Try.prog w 0 (fun _ => true) true m 3 ((cs.drop 8).take ((Try.prog).cellsOf 3)) = some y2 := hf 2 _ rfl
    obtain ⟨x2, q2, s2, r2⟩ := (rep_i 3 Try.underlying3 rfl).opn enc w m _ _ e2
    rw [cells_tab (t := 3) (n := 1) rfl (by decide)] at r2
    refine ⟨⟨x0, x1, x2⟩, ⟨q0, q1, q2⟩, ?_, ?_⟩
    · simp only [Rec.sz, Rows.uptoBulk, Rows.uptoBulkAll, List.map_cons, List.map_nil]; omega
    · have hl : cs.length = 9 := by rw [hl, cells_tab (t := 27) (n := 9) rfl (by decide)]
      have := rdc_cons 0 7 r0 rfl (rdc_cons 7 1 r1 rfl (rdc_cons 8 1 r2 rfl (rdc_nil hl)))
      rw [List.drop_zero] at this
      exact this

theorem rep_recs : Rep 22 (fun l : List Rec => [AV.sl (l.map recRow)]) (fun l => ∀ x, x ∈ l → x.Ok) (fun l => szL Rec.sz l + 1) :=
  rep_slice Try.underlying22 (cells_tab (t := 22) (n := 1) rfl (by decide)) rep_rec (by rw [cells_tab (t := 27) (n := 9) rfl (by decide)]; decide)

/-! ### Arguments -/

/-- an argument, opened -/
theorem open_arg {t : TypeId} {α : Type} {f : α → List AV} {q : α → Prop} {sz : α → Nat} (h : Rep t f q sz) {H : Type} {enc : TypeId × Value → H} {w : World} {v : Value} {d : DataW H} {ps : List MemPlace}
    (hd : DataW.Trod enc Try.prog w 0 (fun _ => true) true t v d ps) : ∃ x, q x ∧ sz x ≤ Rows.uptoBulk d ∧ RdC w v.cells.toList (f x) := by
  obtain ⟨n, hn⟩ := hd
  exact h.opn enc w n _ _ hn

/-- of one cell -/
theorem rdc_one {w : World} {v : Value} {x : AV} (h : RdC w v.cells.toList [x]) (hv : ∀ cs, v ≠ .agg cs) : RdP (fun b => b < w.heap.size) w v x := by
  have := h.2 0 x rfl
  cases v with
  | agg cs => exact absurd rfl (hv cs)
  | _ => exact this

theorem rdc_agg {w : World} {cs : Array Value} {xs : List AV} (h : RdC w (Value.agg cs).cells.toList xs) : RdP (fun b => b < w.heap.size) w (.agg cs) (.agg xs) := by
  refine .agg cs xs (by have h1 : cs.toList.length = xs.length := h.1; simpa using h1) fun j y hj => ?_
  have := h.2 j y hj
  rwa [List.getD_eq_getElem?_getD, Array.getElem?_toList, ← Array.getD_eq_getD_getElem?] at this

/-! ### What is not large -/
theorem Act.sz_data (a : Act) : a.data.length ≤ a.sz := by unfold Act.sz; omega
theorem actSmall_of {a : Act} (h : a.sz ≤ 1048576) : a.Small := by unfold Act.Small; have := a.sz_data; omega
theorem recSmall_of {r : Rec} (h : r.sz ≤ 1048576) : r.act.Small := actSmall_of (by unfold Rec.sz at h; omega)
theorem smallL_of {l : List Rec} (h : szL Rec.sz l ≤ 1048576) : SmallL l :=
  ⟨by have := szL_len (sz := Rec.sz) (fun r => by unfold Rec.sz; omega) l; omega, fun r hr => recSmall_of (by have := szL_mem (sz := Rec.sz) hr; omega)⟩
theorem nodeSmall_of {n : Node} (h : n.sz ≤ 1048576) : n.Small := by
  have h1 := szL_len (sz := Entry.sz) (fun e => by unfold Entry.sz; omega) n.entries
  unfold Node.sz at h
  exact ⟨by omega, by omega⟩
theorem small_of {l : List Node} (h : szL Node.sz l ≤ 1048576) : Small l :=
  ⟨by have := szL_len (sz := Node.sz) (fun r => by unfold Node.sz; omega) l; omega, fun r hr => nodeSmall_of (by have := szL_mem (sz := Node.sz) hr; omega)⟩
theorem nodes_len {l : List Node} (h : szL Node.sz l ≤ 1048576) : l.length ≤ 99999999 := by
  have := szL_len (sz := Node.sz) (fun r => by unfold Node.sz; omega) l; omega
theorem entries_len {n : Node} (h : n.sz ≤ 1048576) : n.entries.length ≤ 99999999 := by
  have h1 := szL_len (sz := Entry.sz) (fun e => by unfold Entry.sz; omega) n.entries
  unfold Node.sz at h
  omega
end La

namespace Go.Proofs.Ytldpfleilffanaa.treeEnters
set_option maxRecDepth 100000
set_option linter.unusedSimpArgs false
open Go Go.ChangeShapes Go.WideShapes Go.ChangeAt Go.RowKit Go.Eng

theorem contract (H : Type) (enc : TypeId × Value → H) (W : World) (base : Nat) (args : Array Value) (ds gs : List (DataW H)) (before : List MemPlace)
    (hval : ∀ (j : Nat) t v, Try.f7.params[j]? = some t → args[j]? = some v → Value.okWide Try.prog W .any base t v)
    (hW : DataW.Whole enc Try.prog Try.f7.params.toList Rows.treeEntersSpec.vars false W args.toList ds gs before) (hk : Rows.uptoSmall H (ds ++ gs) = true) :
    Calls Try.prog 7 args W fun e W' => ∃ v, e = .returned v ∧ Rows.treeEntersSpec.post enc Try.prog Try.f7 false true false false W args v W' := by
  have hW' := hW
  obtain ⟨p, q, hA0, hV, rfl, hfz, hnd⟩ := hW
  have hA : DataW.TrodAll enc Try.prog W 0 (fun _ => true) true Try.f7.params.toList args.toList ds p := hA0
  rw [Try.params7] at hA hval
  obtain ⟨v0, vs0, d0, ds0, p0, q0, hargs, rfl, rfl, h0, r0⟩ := trodAll_cons hA
  obtain ⟨v1, vs1, d1, ds1, p1, q1, rfl, rfl, rfl, h1, r1⟩ := trodAll_cons r0
  obtain ⟨v2, vs2, d2, ds2, p2, q2, rfl, rfl, rfl, h2, r2⟩ := trodAll_cons r1
  obtain ⟨rfl, rfl, rfl⟩ := trodAll_nil r2
  obtain rfl : args = #[v0, v1, v2] := by cases args; simp_all
  obtain ⟨rfl, rfl⟩ := trodVars_none hV
  have hk2 : Rows.uptoBulkAll [d0, d1, d2] ≤ 1048576 := of_decide_eq_true hk
  simp only [Rows.uptoBulkAll] at hk2
  obtain ⟨x0, o0, s0, c0⟩ := La.open_arg (La.rep_node) h0
  obtain ⟨cs0, rfl, _⟩ := okWide_struct Try.underlying46 (hval 0 46 v0 rfl rfl)
  have R0 := La.rdc_agg c0
  obtain ⟨x1, o1, s1, c1⟩ := La.open_arg (La.rep_str Try.underlying9 (La.cells_tab (t := 9) (n := 1) rfl (by decide))) h1
  obtain ⟨b1, rfl⟩ := okWide_string Try.underlying9 (hval 1 9 v1 rfl rfl)
  have R1 := La.rdc_one c1 (fun _ h => nomatch h)
  obtain ⟨x2, o2, s2, c2⟩ := La.open_arg (La.rep_i 3 Try.underlying3 rfl) h2
  obtain ⟨b2, rfl⟩ := okWide_int Try.underlying3 (hval 2 3 v2 rfl rfl)
  have R2 := La.rdc_one c2 (fun _ h => nomatch h)
  refine (calls_of_fn (La.enters_ok x0 x1 x2 (La.nodeSmall_of (by omega)) (La.entries_len (by omega))) (w := W) (vs := [.agg cs0, .string b1, .int .i64 b2]) rfl (S := fun b => b < W.heap.size) (fun j x h => ?_) (fun _ h => h)).mono fun e W' ⟨v, μ, S', he, hv, hf⟩ => ?_
  · rcases j with _ | _ | _ | j
    · simp only [List.getElem?_cons_zero, List.getElem?_cons_succ, Option.some.injEq] at h; subst h; exact R0
    · simp only [List.getElem?_cons_zero, List.getElem?_cons_succ, Option.some.injEq] at h; subst h; exact R1
    · simp only [List.getElem?_cons_zero, List.getElem?_cons_succ, Option.some.injEq] at h; subst h; exact R2
    · simp at h
  subst he
  obtain rfl := hv.inv_bool
  exact ⟨_, rfl, post_true La.laid La.rowed La.full (by rw [Try.params7]; decide) rfl Try.underlying4 rfl hW' hf rfl rfl rfl⟩

theorem lifted (os : Os) (started : os.Started) (H : Type) (enc : TypeId × Value → H) (F : Stop.Interp) :
    ReturnsInHanded {} Try.checked os 7 .any ((Rows.OpenSpec.upto Rows.treeEntersSpec).pre6 enc Try.prog Try.f7 Rows.treeEntersUptoRow.domain false) (((Rows.OpenSpec.upto Rows.treeEntersSpec).at F).post enc Try.prog Try.f7 false true false false) := by
  refine returnsInHanded_of_cond (C := Try.checked) (s := Rows.OpenSpec.upto Rows.treeEntersSpec) (k := Rows.uptoSmall) rfl La.own started (by kernel_rfl) Try.func7
    (OpenSpec.witness (enc := enc) (C := Try.checked) (s := Rows.OpenSpec.upto Rows.treeEntersSpec) (k := Rows.uptoSmall) rfl false ⟨#[], #[.agg #[.int .i64 0, .bool false, .slice none 0 0, .slice none 0 0, .int .i64 0], .string ⟨#[]⟩, .int .i64 0], []⟩ 8 (by kernel_rfl) (by kernel_rfl) (by kernel_rfl)
      (x := ([.agg [.lit (.int .i64 0), .lit (.bool false), .nil, .nil, .lit (.int .i64 0)], .lit (.string []), .lit (.int .i64 0)], [], [])) (by kernel_rfl) rfl (by kernel_rfl)) ?_
  intro W base args ds gs before hval hW _ hk _
  exact contract H enc W base args ds gs before hval hW hk

theorem over : Rows.treeEntersUptoRow.holds Try.pinned (Rows.OpenSpec.upto Rows.treeEntersSpec) :=
  OpenClaim.holds_of_cond 7 Try.f7 rfl rfl rfl rfl rfl rfl rfl ⟨rfl, rfl, rfl, rfl, rfl⟩ rfl rfl rfl rfl rfl (by kernel_rfl) Try.func7 (by kernel_rfl)
    (of_decide_eq_true (by kernel_rfl)) (by unfold Func.isWrapper; first | (rw [if_pos (by decide +kernel)]; kernel_rfl) | (rw [if_neg (by decide +kernel)]; exact ⟨rfl, rfl⟩))
    (fun os started H enc _ F => lifted os started H enc F)

theorem proved : Rows.TreeEntersUptoSaid :=
  over
end Go.Proofs.Ytldpfleilffanaa.treeEnters
