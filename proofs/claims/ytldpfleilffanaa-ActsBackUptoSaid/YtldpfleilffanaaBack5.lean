/- The law ActsBack is true of the program: its statement ActsBackUptoSaid, in this seat's Rows. No condition. -/
import Derived.ChangeArms
import Derived.Test.YtldpfleilffanaaBack4
namespace La
open Go Go.Eng Go.Proofs
set_option maxRecDepth 10000
set_option linter.unusedSimpArgs false
set_option linter.unusedVariables false

/-- whether 'fid' is 'k', or in it; none: the search is too deep -/
def withinF (l : List Node) (fid : Int) : Nat → Int → Option Bool
  | 0, _ => none
  | f + 1, k => if fid = k then some true else match findN l k with
    | none => some false
    | some n => if n.entries.all (fun e => decide (e.fid = k) || (withinF l fid f e.fid).isSome) then some (n.entries.any fun e => !(decide (e.fid = k)) && (withinF l fid f e.fid).getD false) else none

set_option maxHeartbeats 1000000 in
theorem withinIs_ok (l : List Node) (fid k : Int) (e : Entry) (b : Bool) (h : e.fid ≠ k → FnOK Try.prog 84 [.sl (l.map nodeRow), .int .i64 fid, .int .i64 e.fid] [] (fun r _ => r = .bool b)) :
    FnOK Try.prog 130 [.agg (entryRow e), .rp [.int .i64 k] 0, .rp [.sl (l.map nodeRow)] 0, .rp [.int .i64 fid] 0] [] (fun r _ => r = .bool (!(decide (e.fid = k)) && b)) := by
  unfold entryRow
  refine fn_of_cwW tabOK (Go.Proofs.Try.func130) rfl (fun C => ?_)
  simp only [Go.Proofs.Try.ntmps130, Go.Proofs.Try.results130, go_sem, Nat.reduceLT, Nat.reduceBEq, Nat.reduceLeDiff, Nat.reduceAdd, Nat.reduceMul, Nat.reduceSub, Nat.reduceEqDiff, Int.reduceNeg, Int.reduceToNat, Int.reduceAdd, Int.reduceSub]
  refine cw_goR 99 (by simp only [go_sem, Nat.reduceLT, Nat.reduceBEq, Nat.reduceLeDiff, Nat.reduceAdd, Nat.reduceMul, Nat.reduceSub, Nat.reduceEqDiff, Int.reduceNeg, Int.reduceToNat, Int.reduceAdd, Int.reduceSub]; try exact rfl) ?_
  refine cw_runN tabOK 2 (by simp only [go_sem, Nat.reduceLT, Nat.reduceBEq, Nat.reduceLeDiff, Nat.reduceAdd, Nat.reduceMul, Nat.reduceSub, Nat.reduceEqDiff, Int.reduceNeg, Int.reduceToNat, Int.reduceAdd, Int.reduceSub]; exact rfl) (by simp only [go_sem, Nat.reduceLT, Nat.reduceBEq, Nat.reduceLeDiff, Nat.reduceAdd, Nat.reduceMul, Nat.reduceSub, Nat.reduceEqDiff, Int.reduceNeg, Int.reduceToNat, Int.reduceAdd, Int.reduceSub]; exact rfl) (by simp only [go_sem, Nat.reduceLT, Nat.reduceBEq, Nat.reduceLeDiff, Nat.reduceAdd, Nat.reduceMul, Nat.reduceSub, Nat.reduceEqDiff, Int.reduceNeg, Int.reduceToNat, Int.reduceAdd, Int.reduceSub]; try exact rfl) (by simp [go_sem]) ?_
  refine cw_goR 99 (by simp only [go_sem, Nat.reduceLT, Nat.reduceBEq, Nat.reduceLeDiff, Nat.reduceAdd, Nat.reduceMul, Nat.reduceSub, Nat.reduceEqDiff, Int.reduceNeg, Int.reduceToNat, Int.reduceAdd, Int.reduceSub]; try exact rfl) ?_
  refine cw_freeze 4 rfl (rfl) ?_
  simp only [go_sem, Nat.reduceLT, Nat.reduceBEq, Nat.reduceLeDiff, Nat.reduceAdd, Nat.reduceMul, Nat.reduceSub, Nat.reduceEqDiff, Int.reduceNeg, Int.reduceToNat, Int.reduceAdd, Int.reduceSub]
  refine cw_runN tabOK 4 (by simp only [go_sem, Nat.reduceLT, Nat.reduceBEq, Nat.reduceLeDiff, Nat.reduceAdd, Nat.reduceMul, Nat.reduceSub, Nat.reduceEqDiff, Int.reduceNeg, Int.reduceToNat, Int.reduceAdd, Int.reduceSub]; exact rfl) (by simp only [go_sem, Nat.reduceLT, Nat.reduceBEq, Nat.reduceLeDiff, Nat.reduceAdd, Nat.reduceMul, Nat.reduceSub, Nat.reduceEqDiff, Int.reduceNeg, Int.reduceToNat, Int.reduceAdd, Int.reduceSub]; exact rfl) (by simp only [go_sem, Nat.reduceLT, Nat.reduceBEq, Nat.reduceLeDiff, Nat.reduceAdd, Nat.reduceMul, Nat.reduceSub, Nat.reduceEqDiff, Int.reduceNeg, Int.reduceToNat, Int.reduceAdd, Int.reduceSub]; try exact rfl) (by simp [go_sem]) ?_
  refine cw_name 9 (by simp only [go_sem, Nat.reduceLT, Nat.reduceBEq, Nat.reduceLeDiff, Nat.reduceAdd, Nat.reduceMul, Nat.reduceSub, Nat.reduceEqDiff, Int.reduceNeg, Int.reduceToNat, Int.reduceAdd, Int.reduceSub]; exact rfl) (fun c9 h9 => ?_)
  simp only [go_sem, Nat.reduceLT, Nat.reduceBEq, Nat.reduceLeDiff, Nat.reduceAdd, Nat.reduceMul, Nat.reduceSub, Nat.reduceEqDiff, Int.reduceNeg, Int.reduceToNat, Int.reduceAdd, Int.reduceSub]
  cases c9 with
  | true =>
    have hne : e.fid ≠ k := by simpa using h9
    refine cw_go tabOK 99 (by simp only [go_sem, Nat.reduceLT, Nat.reduceBEq, Nat.reduceLeDiff, Nat.reduceAdd, Nat.reduceMul, Nat.reduceSub, Nat.reduceEqDiff, Int.reduceNeg, Int.reduceToNat, Int.reduceAdd, Int.reduceSub]; try exact rfl) (by simp [go_sem]) ?_
    refine cw_callC rfl (by simp only [go_sem, Nat.reduceLT, Nat.reduceBEq, Nat.reduceLeDiff, Nat.reduceAdd, Nat.reduceMul, Nat.reduceSub, Nat.reduceEqDiff, Int.reduceNeg, Int.reduceToNat, Int.reduceAdd, Int.reduceSub]; try exact rfl) (by simp only [go_sem, Nat.reduceLT, Nat.reduceBEq, Nat.reduceLeDiff, Nat.reduceAdd, Nat.reduceMul, Nat.reduceSub, Nat.reduceEqDiff, Int.reduceNeg, Int.reduceToNat, Int.reduceAdd, Int.reduceSub]; try exact rfl) (by simp [go_sem]) ⟨_, Go.Proofs.Try.func84, by kernel_rfl, rfl⟩ (by simp [go_sem]) (fun hb => (h hne)) (by simp [go_sem]) (by simp only [go_sem, Nat.reduceLT, Nat.reduceBEq, Nat.reduceLeDiff, Nat.reduceAdd, Nat.reduceMul, Nat.reduceSub, Nat.reduceEqDiff, Int.reduceNeg, Int.reduceToNat, Int.reduceAdd, Int.reduceSub]; exact rfl) ?_
    refine cw_go tabOK 99 (by simp only [go_sem, Nat.reduceLT, Nat.reduceBEq, Nat.reduceLeDiff, Nat.reduceAdd, Nat.reduceMul, Nat.reduceSub, Nat.reduceEqDiff, Int.reduceNeg, Int.reduceToNat, Int.reduceAdd, Int.reduceSub]; try exact rfl) (by simp [go_sem]) ?_
    refine cw_ret ⟨_, _, (by simp only [go_sem, Nat.reduceLT, Nat.reduceBEq, Nat.reduceLeDiff, Nat.reduceAdd, Nat.reduceMul, Nat.reduceSub, Nat.reduceEqDiff, Int.reduceNeg, Int.reduceToNat, Int.reduceAdd, Int.reduceSub]; try exact rfl), by simp [go_sem], _, .inr (.inl rfl), ?_⟩
    simp [hne]
  | false =>
    have hne : e.fid = k := by simpa using h9
    refine cw_go tabOK 99 (by simp only [go_sem, Nat.reduceLT, Nat.reduceBEq, Nat.reduceLeDiff, Nat.reduceAdd, Nat.reduceMul, Nat.reduceSub, Nat.reduceEqDiff, Int.reduceNeg, Int.reduceToNat, Int.reduceAdd, Int.reduceSub]; try exact rfl) (by simp [go_sem]) ?_
    refine cw_pass (.bool false) rfl ?_
    simp only [go_sem, Nat.reduceLT, Nat.reduceBEq, Nat.reduceLeDiff, Nat.reduceAdd, Nat.reduceMul, Nat.reduceSub, Nat.reduceEqDiff, Int.reduceNeg, Int.reduceToNat, Int.reduceAdd, Int.reduceSub]
    refine cw_go tabOK 99 (by simp only [go_sem, Nat.reduceLT, Nat.reduceBEq, Nat.reduceLeDiff, Nat.reduceAdd, Nat.reduceMul, Nat.reduceSub, Nat.reduceEqDiff, Int.reduceNeg, Int.reduceToNat, Int.reduceAdd, Int.reduceSub]; try exact rfl) (by simp [go_sem]) ?_
    refine cw_ret ⟨_, _, (by simp only [go_sem, Nat.reduceLT, Nat.reduceBEq, Nat.reduceLeDiff, Nat.reduceAdd, Nat.reduceMul, Nat.reduceSub, Nat.reduceEqDiff, Int.reduceNeg, Int.reduceToNat, Int.reduceAdd, Int.reduceSub]; try exact rfl), by simp [go_sem], _, .inr (.inl rfl), ?_⟩
    simp [hne]

set_option maxHeartbeats 1000000 in
theorem within_step (l : List Node) (hl : Small l) (fid : Int) (f : Nat) (ih : ∀ (k : Int) (b : Bool), withinF l fid f k = some b → FnOK Try.prog 84 [.sl (l.map nodeRow), .int .i64 fid, .int .i64 k] [] (fun r _ => r = .bool b)) (k : Int) (b : Bool) (hb : withinF l fid (f + 1) k = some b) :
    FnOK Try.prog 84 [.sl (l.map nodeRow), .int .i64 fid, .int .i64 k] [] (fun r _ => r = .bool b) := by
  unfold withinF at hb
  refine fn_of_cwW tabOK (Go.Proofs.Try.func84) rfl (fun C => ?_)
  simp only [Go.Proofs.Try.ntmps84, Go.Proofs.Try.results84, go_sem, Nat.reduceLT, Nat.reduceBEq, Nat.reduceLeDiff, Nat.reduceAdd, Nat.reduceMul, Nat.reduceSub, Nat.reduceEqDiff, Int.reduceNeg, Int.reduceToNat, Int.reduceAdd, Int.reduceSub]
  refine cw_go tabOK 99 (by simp only [go_sem, Nat.reduceLT, Nat.reduceBEq, Nat.reduceLeDiff, Nat.reduceAdd, Nat.reduceMul, Nat.reduceSub, Nat.reduceEqDiff, Int.reduceNeg, Int.reduceToNat, Int.reduceAdd, Int.reduceSub]; try exact rfl) (by simp [go_sem]) ?_
  refine cw_cond (by simp only [go_sem, Nat.reduceLT, Nat.reduceBEq, Nat.reduceLeDiff, Nat.reduceAdd, Nat.reduceMul, Nat.reduceSub, Nat.reduceEqDiff, Int.reduceNeg, Int.reduceToNat, Int.reduceAdd, Int.reduceSub]; try exact rfl) trivial (fun h => ?_) (fun h => ?_)
  · have e : fid = k := by simpa using h
    rw [if_pos e] at hb
    refine cw_go tabOK 99 (by simp only [go_sem, Nat.reduceLT, Nat.reduceBEq, Nat.reduceLeDiff, Nat.reduceAdd, Nat.reduceMul, Nat.reduceSub, Nat.reduceEqDiff, Int.reduceNeg, Int.reduceToNat, Int.reduceAdd, Int.reduceSub]; try exact rfl) (by simp [go_sem]) ?_
    refine cw_ret ⟨_, _, (by simp only [go_sem, Nat.reduceLT, Nat.reduceBEq, Nat.reduceLeDiff, Nat.reduceAdd, Nat.reduceMul, Nat.reduceSub, Nat.reduceEqDiff, Int.reduceNeg, Int.reduceToNat, Int.reduceAdd, Int.reduceSub]; try exact rfl), by simp [go_sem], _, .inr (.inl rfl), ?_⟩
    simpa using hb
  have e : ¬ fid = k := by simpa using h
  rw [if_neg e] at hb
  refine cw_freeze 3 rfl (rfl) ?_
  refine cw_freeze 4 rfl (rfl) ?_
  refine cw_freeze 5 rfl (rfl) ?_
  simp only [go_sem, Nat.reduceLT, Nat.reduceBEq, Nat.reduceLeDiff, Nat.reduceAdd, Nat.reduceMul, Nat.reduceSub, Nat.reduceEqDiff, Int.reduceNeg, Int.reduceToNat, Int.reduceAdd, Int.reduceSub]
  refine cw_go tabOK 99 (by simp only [go_sem, Nat.reduceLT, Nat.reduceBEq, Nat.reduceLeDiff, Nat.reduceAdd, Nat.reduceMul, Nat.reduceSub, Nat.reduceEqDiff, Int.reduceNeg, Int.reduceToNat, Int.reduceAdd, Int.reduceSub]; try exact rfl) (by simp [go_sem]) ?_
  refine cw_call rfl rfl (by simp only [go_sem, Nat.reduceLT, Nat.reduceBEq, Nat.reduceLeDiff, Nat.reduceAdd, Nat.reduceMul, Nat.reduceSub, Nat.reduceEqDiff, Int.reduceNeg, Int.reduceToNat, Int.reduceAdd, Int.reduceSub]; try exact rfl) (by simp [go_sem]) ⟨_, Go.Proofs.Try.func33, by kernel_rfl, rfl⟩ (by simp [go_sem]) (find_ok l k hl) (by simp [go_sem]) (by simp only [go_sem, Nat.reduceLT, Nat.reduceBEq, Nat.reduceLeDiff, Nat.reduceAdd, Nat.reduceMul, Nat.reduceSub, Nat.reduceEqDiff, Int.reduceNeg, Int.reduceToNat, Int.reduceAdd, Int.reduceSub]; exact rfl) ?_
  have hsm := hl.find k
  simp only [go_sem, Nat.reduceLT, Nat.reduceBEq, Nat.reduceLeDiff, Nat.reduceAdd, Nat.reduceMul, Nat.reduceSub, Nat.reduceEqDiff, Int.reduceNeg, Int.reduceToNat, Int.reduceAdd, Int.reduceSub, findR]
  rw [isAt_eq]
  generalize hfd : findN l k = o at hb hsm
  cases o with
  | none =>
    simp only [Option.getD_none, Option.isSome_none] at hb ⊢
    refine cw_go tabOK 99 (by simp only [go_sem, Nat.reduceLT, Nat.reduceBEq, Nat.reduceLeDiff, Nat.reduceAdd, Nat.reduceMul, Nat.reduceSub, Nat.reduceEqDiff, Int.reduceNeg, Int.reduceToNat, Int.reduceAdd, Int.reduceSub, nodeRow, zeroN]; try exact rfl) ?_ ?_
    · simp [nodeRow]
    refine cw_cond (by simp only [go_sem, Nat.reduceLT, Nat.reduceBEq, Nat.reduceLeDiff, Nat.reduceAdd, Nat.reduceMul, Nat.reduceSub, Nat.reduceEqDiff, Int.reduceNeg, Int.reduceToNat, Int.reduceAdd, Int.reduceSub]; try exact rfl) trivial (fun h => ?_) (fun h => ?_)
    · refine cw_go tabOK 99 (by simp only [go_sem, Nat.reduceLT, Nat.reduceBEq, Nat.reduceLeDiff, Nat.reduceAdd, Nat.reduceMul, Nat.reduceSub, Nat.reduceEqDiff, Int.reduceNeg, Int.reduceToNat, Int.reduceAdd, Int.reduceSub]; try exact rfl) (by simp [go_sem]) ?_
      refine cw_ret ⟨_, _, (by simp only [go_sem, Nat.reduceLT, Nat.reduceBEq, Nat.reduceLeDiff, Nat.reduceAdd, Nat.reduceMul, Nat.reduceSub, Nat.reduceEqDiff, Int.reduceNeg, Int.reduceToNat, Int.reduceAdd, Int.reduceSub]; try exact rfl), by simp [go_sem], _, .inr (.inl rfl), ?_⟩
      simpa using hb
    · cases h
  | some n =>
    simp only [Option.getD_some, Option.isSome_some] at hb hsm ⊢
    split at hb
    · rename_i hall
      injection hb with hb
      have hcl := entry_containsFunc n.entries hsm.entries (f := 130) (caps := [.rp [.int .i64 k] 0, .rp [.sl (l.map nodeRow)] 0, .rp [.int .i64 fid] 0]) (p := fun e => !(decide (e.fid = k)) && (withinF l fid f e.fid).getD false) ⟨_, Go.Proofs.Try.func130, by kernel_rfl, rfl⟩ rfl (fun x hx => withinIs_ok l fid k x ((withinF l fid f x.fid).getD false) (fun hne => by
        have h1 := List.all_eq_true.1 hall x hx
        simp only [hne, decide_false, Bool.false_or] at h1
        cases h2 : withinF l fid f x.fid with
        | none => rw [h2] at h1; cases h1
        | some c => exact ih x.fid c h2))
      refine cw_go tabOK 99 (by simp only [go_sem, Nat.reduceLT, Nat.reduceBEq, Nat.reduceLeDiff, Nat.reduceAdd, Nat.reduceMul, Nat.reduceSub, Nat.reduceEqDiff, Int.reduceNeg, Int.reduceToNat, Int.reduceAdd, Int.reduceSub, nodeRow]; try exact rfl) ?_ ?_
      · simp [nodeRow]
      refine cw_cond (by simp only [go_sem, Nat.reduceLT, Nat.reduceBEq, Nat.reduceLeDiff, Nat.reduceAdd, Nat.reduceMul, Nat.reduceSub, Nat.reduceEqDiff, Int.reduceNeg, Int.reduceToNat, Int.reduceAdd, Int.reduceSub]; try exact rfl) trivial (fun h => ?_) (fun h => ?_)
      · cases h
      refine cw_go tabOK 99 (by simp only [go_sem, Nat.reduceLT, Nat.reduceBEq, Nat.reduceLeDiff, Nat.reduceAdd, Nat.reduceMul, Nat.reduceSub, Nat.reduceEqDiff, Int.reduceNeg, Int.reduceToNat, Int.reduceAdd, Int.reduceSub, nodeRow]; try exact rfl) ?_ ?_
      · simp [nodeRow]
      refine cw_call rfl rfl (by simp only [go_sem, Nat.reduceLT, Nat.reduceBEq, Nat.reduceLeDiff, Nat.reduceAdd, Nat.reduceMul, Nat.reduceSub, Nat.reduceEqDiff, Int.reduceNeg, Int.reduceToNat, Int.reduceAdd, Int.reduceSub]; try exact rfl) (by simp [go_sem]) ⟨_, Go.Proofs.Try.func129, by kernel_rfl, rfl⟩ (by simp [go_sem]) (hcl) (by simp [go_sem]) (by simp only [go_sem, Nat.reduceLT, Nat.reduceBEq, Nat.reduceLeDiff, Nat.reduceAdd, Nat.reduceMul, Nat.reduceSub, Nat.reduceEqDiff, Int.reduceNeg, Int.reduceToNat, Int.reduceAdd, Int.reduceSub]; exact rfl) ?_
      refine cw_go tabOK 99 (by simp only [go_sem, Nat.reduceLT, Nat.reduceBEq, Nat.reduceLeDiff, Nat.reduceAdd, Nat.reduceMul, Nat.reduceSub, Nat.reduceEqDiff, Int.reduceNeg, Int.reduceToNat, Int.reduceAdd, Int.reduceSub]; try exact rfl) (by simp [go_sem]) ?_
      refine cw_ret ⟨_, _, (by simp only [go_sem, Nat.reduceLT, Nat.reduceBEq, Nat.reduceLeDiff, Nat.reduceAdd, Nat.reduceMul, Nat.reduceSub, Nat.reduceEqDiff, Int.reduceNeg, Int.reduceToNat, Int.reduceAdd, Int.reduceSub]; try exact rfl), by simp [go_sem], _, .inr (.inl rfl), ?_⟩
      simpa using hb
    · cases hb

theorem within_ok (l : List Node) (hl : Small l) (fid : Int) : ∀ (f : Nat) (k : Int) (b : Bool), withinF l fid f k = some b → FnOK Try.prog 84 [.sl (l.map nodeRow), .int .i64 fid, .int .i64 k] [] (fun r _ => r = .bool b)
  | 0, _, _, h => by cases h
  | f + 1, k, b, h => within_step l hl fid f (within_ok l hl fid f) k b h

set_option maxHeartbeats 1000000 in
theorem sameIs_ok (a b : Node) (ha : a.Small) (hb : b.Small) : FnOK Try.prog 132 [.agg (nodeRow a), .agg (nodeRow b)] [] (fun r _ => r = .bool (sameN false a b)) := by
  have hla := ha.entries
  have hlb := hb.entries
  unfold nodeRow
  refine fn_of_cwW tabOK (Go.Proofs.Try.func132) rfl (fun C => ?_)
  simp only [Go.Proofs.Try.ntmps132, Go.Proofs.Try.results132, go_sem, Nat.reduceLT, Nat.reduceBEq, Nat.reduceLeDiff, Nat.reduceAdd, Nat.reduceMul, Nat.reduceSub, Nat.reduceEqDiff, Int.reduceNeg, Int.reduceToNat, Int.reduceAdd, Int.reduceSub]
  refine cw_goR 99 (by simp only [go_sem, Nat.reduceLT, Nat.reduceBEq, Nat.reduceLeDiff, Nat.reduceAdd, Nat.reduceMul, Nat.reduceSub, Nat.reduceEqDiff, Int.reduceNeg, Int.reduceToNat, Int.reduceAdd, Int.reduceSub]; try exact rfl) ?_
  refine cw_runN tabOK 3 (by simp only [go_sem, Nat.reduceLT, Nat.reduceBEq, Nat.reduceLeDiff, Nat.reduceAdd, Nat.reduceMul, Nat.reduceSub, Nat.reduceEqDiff, Int.reduceNeg, Int.reduceToNat, Int.reduceAdd, Int.reduceSub]; exact rfl) (by simp only [go_sem, Nat.reduceLT, Nat.reduceBEq, Nat.reduceLeDiff, Nat.reduceAdd, Nat.reduceMul, Nat.reduceSub, Nat.reduceEqDiff, Int.reduceNeg, Int.reduceToNat, Int.reduceAdd, Int.reduceSub]; exact rfl) (by simp only [go_sem, Nat.reduceLT, Nat.reduceBEq, Nat.reduceLeDiff, Nat.reduceAdd, Nat.reduceMul, Nat.reduceSub, Nat.reduceEqDiff, Int.reduceNeg, Int.reduceToNat, Int.reduceAdd, Int.reduceSub]; try exact rfl) (by simp [go_sem]) ?_
  refine cw_goR 99 (by simp only [go_sem, Nat.reduceLT, Nat.reduceBEq, Nat.reduceLeDiff, Nat.reduceAdd, Nat.reduceMul, Nat.reduceSub, Nat.reduceEqDiff, Int.reduceNeg, Int.reduceToNat, Int.reduceAdd, Int.reduceSub]; try exact rfl) ?_
  refine cw_freeze 2 rfl (rfl) ?_
  refine cw_freeze 3 rfl (rfl) ?_
  simp only [go_sem, Nat.reduceLT, Nat.reduceBEq, Nat.reduceLeDiff, Nat.reduceAdd, Nat.reduceMul, Nat.reduceSub, Nat.reduceEqDiff, Int.reduceNeg, Int.reduceToNat, Int.reduceAdd, Int.reduceSub]
  refine cw_runN tabOK 5 (by simp only [go_sem, Nat.reduceLT, Nat.reduceBEq, Nat.reduceLeDiff, Nat.reduceAdd, Nat.reduceMul, Nat.reduceSub, Nat.reduceEqDiff, Int.reduceNeg, Int.reduceToNat, Int.reduceAdd, Int.reduceSub]; exact rfl) (by simp only [go_sem, Nat.reduceLT, Nat.reduceBEq, Nat.reduceLeDiff, Nat.reduceAdd, Nat.reduceMul, Nat.reduceSub, Nat.reduceEqDiff, Int.reduceNeg, Int.reduceToNat, Int.reduceAdd, Int.reduceSub]; exact rfl) (by simp only [go_sem, Nat.reduceLT, Nat.reduceBEq, Nat.reduceLeDiff, Nat.reduceAdd, Nat.reduceMul, Nat.reduceSub, Nat.reduceEqDiff, Int.reduceNeg, Int.reduceToNat, Int.reduceAdd, Int.reduceSub]; try exact rfl) (by simp [go_sem]) ?_
  refine cw_name 9 (by simp only [go_sem, Nat.reduceLT, Nat.reduceBEq, Nat.reduceLeDiff, Nat.reduceAdd, Nat.reduceMul, Nat.reduceSub, Nat.reduceEqDiff, Int.reduceNeg, Int.reduceToNat, Int.reduceAdd, Int.reduceSub]; exact rfl) (fun c9 h9 => ?_)
  simp only [go_sem, Nat.reduceLT, Nat.reduceBEq, Nat.reduceLeDiff, Nat.reduceAdd, Nat.reduceMul, Nat.reduceSub, Nat.reduceEqDiff, Int.reduceNeg, Int.reduceToNat, Int.reduceAdd, Int.reduceSub]
  refine cw_runN tabOK 7 (by simp only [go_sem, Nat.reduceLT, Nat.reduceBEq, Nat.reduceLeDiff, Nat.reduceAdd, Nat.reduceMul, Nat.reduceSub, Nat.reduceEqDiff, Int.reduceNeg, Int.reduceToNat, Int.reduceAdd, Int.reduceSub]; exact rfl) (by simp only [go_sem, Nat.reduceLT, Nat.reduceBEq, Nat.reduceLeDiff, Nat.reduceAdd, Nat.reduceMul, Nat.reduceSub, Nat.reduceEqDiff, Int.reduceNeg, Int.reduceToNat, Int.reduceAdd, Int.reduceSub]; exact rfl) (by simp only [go_sem, Nat.reduceLT, Nat.reduceBEq, Nat.reduceLeDiff, Nat.reduceAdd, Nat.reduceMul, Nat.reduceSub, Nat.reduceEqDiff, Int.reduceNeg, Int.reduceToNat, Int.reduceAdd, Int.reduceSub]; try exact rfl) (by simp [go_sem]) ?_
  refine cw_name 16 (by simp only [go_sem, Nat.reduceLT, Nat.reduceBEq, Nat.reduceLeDiff, Nat.reduceAdd, Nat.reduceMul, Nat.reduceSub, Nat.reduceEqDiff, Int.reduceNeg, Int.reduceToNat, Int.reduceAdd, Int.reduceSub]; exact rfl) (fun c16 h16 => ?_)
  simp only [go_sem, Nat.reduceLT, Nat.reduceBEq, Nat.reduceLeDiff, Nat.reduceAdd, Nat.reduceMul, Nat.reduceSub, Nat.reduceEqDiff, Int.reduceNeg, Int.reduceToNat, Int.reduceAdd, Int.reduceSub]
  refine cw_runN tabOK 5 (by simp only [go_sem, Nat.reduceLT, Nat.reduceBEq, Nat.reduceLeDiff, Nat.reduceAdd, Nat.reduceMul, Nat.reduceSub, Nat.reduceEqDiff, Int.reduceNeg, Int.reduceToNat, Int.reduceAdd, Int.reduceSub]; exact rfl) (by simp only [go_sem, Nat.reduceLT, Nat.reduceBEq, Nat.reduceLeDiff, Nat.reduceAdd, Nat.reduceMul, Nat.reduceSub, Nat.reduceEqDiff, Int.reduceNeg, Int.reduceToNat, Int.reduceAdd, Int.reduceSub]; exact rfl) (by simp only [go_sem, Nat.reduceLT, Nat.reduceBEq, Nat.reduceLeDiff, Nat.reduceAdd, Nat.reduceMul, Nat.reduceSub, Nat.reduceEqDiff, Int.reduceNeg, Int.reduceToNat, Int.reduceAdd, Int.reduceSub]; try exact rfl) (by simp [go_sem]) ?_
  refine cw_callC rfl (by simp only [go_sem, Nat.reduceLT, Nat.reduceBEq, Nat.reduceLeDiff, Nat.reduceAdd, Nat.reduceMul, Nat.reduceSub, Nat.reduceEqDiff, Int.reduceNeg, Int.reduceToNat, Int.reduceAdd, Int.reduceSub]; try exact rfl) (by simp only [go_sem, Nat.reduceLT, Nat.reduceBEq, Nat.reduceLeDiff, Nat.reduceAdd, Nat.reduceMul, Nat.reduceSub, Nat.reduceEqDiff, Int.reduceNeg, Int.reduceToNat, Int.reduceAdd, Int.reduceSub]; try exact rfl) (by simp [go_sem]) ⟨_, Go.Proofs.Try.func133, by kernel_rfl, rfl⟩ (by simp [go_sem]) (fun hb => (bytesEqual_ok a.data b.data)) (by simp [go_sem]) (by simp only [go_sem, Nat.reduceLT, Nat.reduceBEq, Nat.reduceLeDiff, Nat.reduceAdd, Nat.reduceMul, Nat.reduceSub, Nat.reduceEqDiff, Int.reduceNeg, Int.reduceToNat, Int.reduceAdd, Int.reduceSub]; exact rfl) ?_
  refine cw_runN tabOK 1 (by simp only [go_sem, Nat.reduceLT, Nat.reduceBEq, Nat.reduceLeDiff, Nat.reduceAdd, Nat.reduceMul, Nat.reduceSub, Nat.reduceEqDiff, Int.reduceNeg, Int.reduceToNat, Int.reduceAdd, Int.reduceSub]; exact rfl) (by simp only [go_sem, Nat.reduceLT, Nat.reduceBEq, Nat.reduceLeDiff, Nat.reduceAdd, Nat.reduceMul, Nat.reduceSub, Nat.reduceEqDiff, Int.reduceNeg, Int.reduceToNat, Int.reduceAdd, Int.reduceSub]; exact rfl) (by simp only [go_sem, Nat.reduceLT, Nat.reduceBEq, Nat.reduceLeDiff, Nat.reduceAdd, Nat.reduceMul, Nat.reduceSub, Nat.reduceEqDiff, Int.reduceNeg, Int.reduceToNat, Int.reduceAdd, Int.reduceSub]; try exact rfl) (by simp [go_sem]) ?_
  refine cw_name 23 (by simp only [go_sem, Nat.reduceLT, Nat.reduceBEq, Nat.reduceLeDiff, Nat.reduceAdd, Nat.reduceMul, Nat.reduceSub, Nat.reduceEqDiff, Int.reduceNeg, Int.reduceToNat, Int.reduceAdd, Int.reduceSub]; exact rfl) (fun c23 h23 => ?_)
  simp only [go_sem, Nat.reduceLT, Nat.reduceBEq, Nat.reduceLeDiff, Nat.reduceAdd, Nat.reduceMul, Nat.reduceSub, Nat.reduceEqDiff, Int.reduceNeg, Int.reduceToNat, Int.reduceAdd, Int.reduceSub]
  refine cw_runN tabOK 5 (by simp only [go_sem, Nat.reduceLT, Nat.reduceBEq, Nat.reduceLeDiff, Nat.reduceAdd, Nat.reduceMul, Nat.reduceSub, Nat.reduceEqDiff, Int.reduceNeg, Int.reduceToNat, Int.reduceAdd, Int.reduceSub]; exact rfl) (by simp only [go_sem, Nat.reduceLT, Nat.reduceBEq, Nat.reduceLeDiff, Nat.reduceAdd, Nat.reduceMul, Nat.reduceSub, Nat.reduceEqDiff, Int.reduceNeg, Int.reduceToNat, Int.reduceAdd, Int.reduceSub]; exact rfl) (by simp only [go_sem, Nat.reduceLT, Nat.reduceBEq, Nat.reduceLeDiff, Nat.reduceAdd, Nat.reduceMul, Nat.reduceSub, Nat.reduceEqDiff, Int.reduceNeg, Int.reduceToNat, Int.reduceAdd, Int.reduceSub]; try exact rfl) (by simp [go_sem]) ?_
  refine cw_callC rfl (by simp only [go_sem, Nat.reduceLT, Nat.reduceBEq, Nat.reduceLeDiff, Nat.reduceAdd, Nat.reduceMul, Nat.reduceSub, Nat.reduceEqDiff, Int.reduceNeg, Int.reduceToNat, Int.reduceAdd, Int.reduceSub]; try exact rfl) (by simp only [go_sem, Nat.reduceLT, Nat.reduceBEq, Nat.reduceLeDiff, Nat.reduceAdd, Nat.reduceMul, Nat.reduceSub, Nat.reduceEqDiff, Int.reduceNeg, Int.reduceToNat, Int.reduceAdd, Int.reduceSub]; try exact rfl) (by simp [go_sem]) ⟨_, Go.Proofs.Try.func134, by kernel_rfl, rfl⟩ (by simp [go_sem]) (fun hb => (entriesEqual_ok a.entries b.entries hla hlb)) (by simp [go_sem]) (by simp only [go_sem, Nat.reduceLT, Nat.reduceBEq, Nat.reduceLeDiff, Nat.reduceAdd, Nat.reduceMul, Nat.reduceSub, Nat.reduceEqDiff, Int.reduceNeg, Int.reduceToNat, Int.reduceAdd, Int.reduceSub]; exact rfl) ?_
  refine cw_go tabOK 99 (by simp only [go_sem, Nat.reduceLT, Nat.reduceBEq, Nat.reduceLeDiff, Nat.reduceAdd, Nat.reduceMul, Nat.reduceSub, Nat.reduceEqDiff, Int.reduceNeg, Int.reduceToNat, Int.reduceAdd, Int.reduceSub]; try exact rfl) (by simp [go_sem]) ?_
  refine cw_ret ⟨_, _, (by simp only [go_sem, Nat.reduceLT, Nat.reduceBEq, Nat.reduceLeDiff, Nat.reduceAdd, Nat.reduceMul, Nat.reduceSub, Nat.reduceEqDiff, Int.reduceNeg, Int.reduceToNat, Int.reduceAdd, Int.reduceSub]; try exact rfl), by simp [go_sem], _, .inr (.inl rfl), ?_⟩
  subst h23 h16 h9
  unfold sameN
  cases (a.fid == b.fid) <;> cases (a.dir == b.dir) <;> cases (a.data == b.data) <;> cases decide (a.entries = b.entries) <;> rfl
end La

namespace La
open Go Go.Eng Go.Proofs
set_option maxRecDepth 10000
set_option linter.unusedSimpArgs false
set_option linter.unusedVariables false

def withinB (l : List Node) (fid k : Int) : Bool := (withinF l fid (l.length + 1) k).getD false
def toN (l : List Node) (a : Act) : Node := if a.to = a.dir then leaveN (getN l a.dir) a.name else getN l a.to
def renameE (l : List Node) (a : Act) : Int := if namedE l a = 0 then (if dirE l a.to = 0 then (if roomE (toN l a) a.toName = 0 then (if isAt l a.fid = true then (if withinB l a.to a.fid = true then 11 else 0) else 12) else roomE (toN l a) a.toName) else dirE l a.to) else namedE l a
def renameL (l : List Node) (a : Act) (v : Int) : List Node := if renameE l a = 0 then putN (if a.to = a.dir then l else putN l { leaveN (getN l a.dir) a.name with version := v }) { enterN (toN l a) a.toName a.fid with version := v } else l

def applyE (l : List Node) (a : Act) : Int := if a.kind = 1 then makeE l a else if a.kind = 2 then makeE l a else if a.kind = 3 then storeE l a else if a.kind = 4 then removeE l a else if a.kind = 5 then renameE l a else 1
def applyL (l : List Node) (a : Act) (v : Int) : List Node := if a.kind = 1 then makeL l a v else if a.kind = 2 then makeL l a v else if a.kind = 3 then storeL l a v else if a.kind = 4 then removeL l a v else if a.kind = 5 then renameL l a v else l
def applyR (l : List Node) (a : Act) (v : Int) : AV := if applyE l a = 0 then .tup [.sl ((applyL l a v).map nodeRow), .int .i64 0] else .tup [.sl [], .int .i64 (applyE l a)]

structure FitA (l : List Node) (a : Act) : Prop where
  small : Small l
  len : l.length ≤ 99999990
  ent : ∀ n, n ∈ l → n.entries.length ≤ 99999990
  name : a.name.length ≤ 100000000
  toName : a.toName.length ≤ 100000000
  data : a.data.length ≤ 100000000


set_option maxHeartbeats 2000000 in
theorem apply_raw (l : List Node) (a : Act) (v : Int) (hf : FitA l a)
    (hren : a.kind = 5 → ∀ (G Y N : Nat → Nat), FnOK Try.prog 103 [.ptr 15 9 0 0] (dH (doerRow l a v) G Y N) (fun r H => r = .int .i64 (renameE l a) ∧ ∀ i b, hget (dH (doerRow (renameL l a v) a v) G Y N) i = some b → hget H i = some b)) :
    FnOK Try.prog 40 [.sl (l.map nodeRow), .agg (actRow a), .int .i64 v] [] (fun r _ => r = if applyE l a = 0 then .tup [.sl ((applyL l a v).map nodeRow), .int .i64 0] else .tup [.nils, .int .i64 (applyE l a)]) := by
  have hl := hf.small
  have c1 := make_ok l a v hl hf.len hf.ent hf.name
  have c3 := store_ok l a v hl hf.data
  have c4 := remove_ok l a v hl hf.len hf.name
  generalize hE : applyE l a = e
  generalize hL : applyL l a v = L
  refine fn_of_cwW tabOK (Go.Proofs.Try.func40) rfl (fun C => ?_)
  simp only [Go.Proofs.Try.ntmps40, Go.Proofs.Try.results40, go_sem, Nat.reduceLT, Nat.reduceBEq, Nat.reduceLeDiff, Nat.reduceAdd, Nat.reduceMul, Nat.reduceSub, Nat.reduceEqDiff, Int.reduceNeg, Int.reduceToNat, Int.reduceAdd, Int.reduceSub]
  refine cw_go tabOK 99 (by simp only [go_sem, Nat.reduceLT, Nat.reduceBEq, Nat.reduceLeDiff, Nat.reduceAdd, Nat.reduceMul, Nat.reduceSub, Nat.reduceEqDiff, Int.reduceNeg, Int.reduceToNat, Int.reduceAdd, Int.reduceSub, actRow]; try exact rfl) ?_ ?_
  · simp
  refine cw_freeze 4 rfl (rfl) ?_
  simp only [go_sem, Nat.reduceLT, Nat.reduceBEq, Nat.reduceLeDiff, Nat.reduceAdd, Nat.reduceMul, Nat.reduceSub, Nat.reduceEqDiff, Int.reduceNeg, Int.reduceToNat, Int.reduceAdd, Int.reduceSub]
  refine cw_draw mixed ?_
  refine seg_start rfl ?_
  refine seg_run tabOK (by simp only [go_sem, Nat.reduceLT, Nat.reduceBEq, Nat.reduceLeDiff, Nat.reduceAdd, Nat.reduceMul, Nat.reduceSub, Nat.reduceEqDiff, Int.reduceNeg, Int.reduceToNat, Int.reduceAdd, Int.reduceSub]; try exact rfl) (by simp [go_sem]) (by simp only [go_sem, Nat.reduceLT, Nat.reduceBEq, Nat.reduceLeDiff, Nat.reduceAdd, Nat.reduceMul, Nat.reduceSub, Nat.reduceEqDiff, Int.reduceNeg, Int.reduceToNat, Int.reduceAdd, Int.reduceSub]; exact rfl) ?_
  refine seg_call rfl rfl (by simp only [go_sem, Nat.reduceLT, Nat.reduceBEq, Nat.reduceLeDiff, Nat.reduceAdd, Nat.reduceMul, Nat.reduceSub, Nat.reduceEqDiff, Int.reduceNeg, Int.reduceToNat, Int.reduceAdd, Int.reduceSub]; try exact rfl) (by simp [go_sem]) ⟨_, Go.Proofs.Try.func86, by kernel_rfl, rfl⟩ (by simp [go_sem]) (own_ok l hl) (by simp [go_sem]) (by simp only [go_sem, Nat.reduceLT, Nat.reduceBEq, Nat.reduceLeDiff, Nat.reduceAdd, Nat.reduceMul, Nat.reduceSub, Nat.reduceEqDiff, Int.reduceNeg, Int.reduceToNat, Int.reduceAdd, Int.reduceSub]; exact rfl) (by simp only [go_sem, Nat.reduceLT, Nat.reduceBEq, Nat.reduceLeDiff, Nat.reduceAdd, Nat.reduceMul, Nat.reduceSub, Nat.reduceEqDiff, Int.reduceNeg, Int.reduceToNat, Int.reduceAdd, Int.reduceSub]; exact rfl) ?_
  refine seg_runN tabOK 2 (by simp only [go_sem, Nat.reduceLT, Nat.reduceBEq, Nat.reduceLeDiff, Nat.reduceAdd, Nat.reduceMul, Nat.reduceSub, Nat.reduceEqDiff, Int.reduceNeg, Int.reduceToNat, Int.reduceAdd, Int.reduceSub]; exact rfl) (by simp only [go_sem, Nat.reduceLT, Nat.reduceBEq, Nat.reduceLeDiff, Nat.reduceAdd, Nat.reduceMul, Nat.reduceSub, Nat.reduceEqDiff, Int.reduceNeg, Int.reduceToNat, Int.reduceAdd, Int.reduceSub]; exact rfl) (by simp only [go_sem, Nat.reduceLT, Nat.reduceBEq, Nat.reduceLeDiff, Nat.reduceAdd, Nat.reduceMul, Nat.reduceSub, Nat.reduceEqDiff, Int.reduceNeg, Int.reduceToNat, Int.reduceAdd, Int.reduceSub, actRow]; try exact rfl) (by simp [go_sem, actRow]) (by simp only [go_sem, Nat.reduceLT, Nat.reduceBEq, Nat.reduceLeDiff, Nat.reduceAdd, Nat.reduceMul, Nat.reduceSub, Nat.reduceEqDiff, Int.reduceNeg, Int.reduceToNat, Int.reduceAdd, Int.reduceSub]; exact rfl) ?_
  refine seg_build tabOK rfl (by simp only [go_sem, Nat.reduceLT, Nat.reduceBEq, Nat.reduceLeDiff, Nat.reduceAdd, Nat.reduceMul, Nat.reduceSub, Nat.reduceEqDiff, Int.reduceNeg, Int.reduceToNat, Int.reduceAdd, Int.reduceSub]; try exact rfl) (by simp only [go_sem, Nat.reduceLT, Nat.reduceBEq, Nat.reduceLeDiff, Nat.reduceAdd, Nat.reduceMul, Nat.reduceSub, Nat.reduceEqDiff, Int.reduceNeg, Int.reduceToNat, Int.reduceAdd, Int.reduceSub]; try exact rfl) (by simp [go_sem]) (by simp only [go_sem, Nat.reduceLT, Nat.reduceBEq, Nat.reduceLeDiff, Nat.reduceAdd, Nat.reduceMul, Nat.reduceSub, Nat.reduceEqDiff, Int.reduceNeg, Int.reduceToNat, Int.reduceAdd, Int.reduceSub, cond_true, cond_false]; exact rfl) (by simp only [go_sem, Nat.reduceLT, Nat.reduceBEq, Nat.reduceLeDiff, Nat.reduceAdd, Nat.reduceMul, Nat.reduceSub, Nat.reduceEqDiff, Int.reduceNeg, Int.reduceToNat, Int.reduceAdd, Int.reduceSub]; exact rfl) (by simp only [go_sem, Nat.reduceLT, Nat.reduceBEq, Nat.reduceLeDiff, Nat.reduceAdd, Nat.reduceMul, Nat.reduceSub, Nat.reduceEqDiff, Int.reduceNeg, Int.reduceToNat, Int.reduceAdd, Int.reduceSub]; exact rfl) ?_
  refine seg_new tabOK rfl (by simp only [go_sem, Nat.reduceLT, Nat.reduceBEq, Nat.reduceLeDiff, Nat.reduceAdd, Nat.reduceMul, Nat.reduceSub, Nat.reduceEqDiff, Int.reduceNeg, Int.reduceToNat, Int.reduceAdd, Int.reduceSub]; try exact rfl) (by simp only [go_sem, Nat.reduceLT, Nat.reduceBEq, Nat.reduceLeDiff, Nat.reduceAdd, Nat.reduceMul, Nat.reduceSub, Nat.reduceEqDiff, Int.reduceNeg, Int.reduceToNat, Int.reduceAdd, Int.reduceSub]; try exact rfl) (by simp [go_sem]) (by simp only [go_sem, Nat.reduceLT, Nat.reduceBEq, Nat.reduceLeDiff, Nat.reduceAdd, Nat.reduceMul, Nat.reduceSub, Nat.reduceEqDiff, Int.reduceNeg, Int.reduceToNat, Int.reduceAdd, Int.reduceSub]; try exact rfl) (by simp only [go_sem, Nat.reduceLT, Nat.reduceBEq, Nat.reduceLeDiff, Nat.reduceAdd, Nat.reduceMul, Nat.reduceSub, Nat.reduceEqDiff, Int.reduceNeg, Int.reduceToNat, Int.reduceAdd, Int.reduceSub]; exact rfl) (by simp only [go_sem, Nat.reduceLT, Nat.reduceBEq, Nat.reduceLeDiff, Nat.reduceAdd, Nat.reduceMul, Nat.reduceSub, Nat.reduceEqDiff, Int.reduceNeg, Int.reduceToNat, Int.reduceAdd, Int.reduceSub]; exact rfl) ?_
  refine seg_end (by kernel_rfl) (by simp only [go_sem, Nat.reduceLT, Nat.reduceBEq, Nat.reduceLeDiff, Nat.reduceAdd, Nat.reduceMul, Nat.reduceSub, Nat.reduceEqDiff, Int.reduceNeg, Int.reduceToNat, Int.reduceAdd, Int.reduceSub]; exact rfl) ?_
  refine draw_step tabOK rfl (by kernel_rfl) rfl (by simp only [go_sem, Nat.reduceLT, Nat.reduceBEq, Nat.reduceLeDiff, Nat.reduceAdd, Nat.reduceMul, Nat.reduceSub, Nat.reduceEqDiff, Int.reduceNeg, Int.reduceToNat, Int.reduceAdd, Int.reduceSub]; try exact rfl) (by simp [go_sem]) rfl ?_
  refine draw_close (by kernel_rfl) ?_
  try simp only [go_sem, Nat.reduceLT, Nat.reduceBEq, Nat.reduceLeDiff, Nat.reduceAdd, Nat.reduceMul, Nat.reduceSub, Nat.reduceEqDiff, Int.reduceNeg, Int.reduceToNat, Int.reduceAdd, Int.reduceSub, List.getElem_toArray, List.getElem_cons_succ, List.getElem_cons_zero]
  refine cw_go tabOK 99 (by simp only [go_sem, Nat.reduceLT, Nat.reduceBEq, Nat.reduceLeDiff, Nat.reduceAdd, Nat.reduceMul, Nat.reduceSub, Nat.reduceEqDiff, Int.reduceNeg, Int.reduceToNat, Int.reduceAdd, Int.reduceSub]; try exact rfl) (by simp [go_sem]) ?_
  refine cw_cond (by simp only [go_sem, Nat.reduceLT, Nat.reduceBEq, Nat.reduceLeDiff, Nat.reduceAdd, Nat.reduceMul, Nat.reduceSub, Nat.reduceEqDiff, Int.reduceNeg, Int.reduceToNat, Int.reduceAdd, Int.reduceSub]; try exact rfl) trivial (fun h => ?_) (fun h => ?_)
  · have hk : a.kind = 1 := by simpa using h
    have q1 : makeE l a = e := by rw [← hE]; simp [applyE, hk]
    have q2 : makeL l a v = L := by rw [← hL]; simp [applyL, hk]
    rw [q1, q2] at c1
    refine cw_go tabOK 99 (by simp only [go_sem, Nat.reduceLT, Nat.reduceBEq, Nat.reduceLeDiff, Nat.reduceAdd, Nat.reduceMul, Nat.reduceSub, Nat.reduceEqDiff, Int.reduceNeg, Int.reduceToNat, Int.reduceAdd, Int.reduceSub]; try exact rfl) (by simp [go_sem]) ?_
    refine cw_condT (by simp only [go_sem, Nat.reduceLT, Nat.reduceBEq, Nat.reduceLeDiff, Nat.reduceAdd, Nat.reduceMul, Nat.reduceSub, Nat.reduceEqDiff, Int.reduceNeg, Int.reduceToNat, Int.reduceAdd, Int.reduceSub]; try exact rfl) trivial (by simp [hk]) ?_
    refine cw_go tabOK 99 (by simp only [go_sem, Nat.reduceLT, Nat.reduceBEq, Nat.reduceLeDiff, Nat.reduceAdd, Nat.reduceMul, Nat.reduceSub, Nat.reduceEqDiff, Int.reduceNeg, Int.reduceToNat, Int.reduceAdd, Int.reduceSub]; try exact rfl) (by simp [go_sem]) ?_
    refine cw_step rfl (trip_callP rfl (by simp only [go_sem, Nat.reduceLT, Nat.reduceBEq, Nat.reduceLeDiff, Nat.reduceAdd, Nat.reduceMul, Nat.reduceSub, Nat.reduceEqDiff, Int.reduceNeg, Int.reduceToNat, Int.reduceAdd, Int.reduceSub]; try exact rfl) (by simp [go_sem]) ⟨_, Go.Proofs.Try.func100, by kernel_rfl, rfl⟩ [15] (by simp only [go_sem, Nat.reduceLT, Nat.reduceBEq, Nat.reduceLeDiff, Nat.reduceAdd, Nat.reduceMul, Nat.reduceSub, Nat.reduceEqDiff, Int.reduceNeg, Int.reduceToNat, Int.reduceAdd, Int.reduceSub, Bool.false_or, Bool.or_true, Bool.true_or, Bool.or_false, ↓reduceIte]; try exact rfl) (by simp [go_sem]) (by simp) (by simp [go_sem]) (by simp [go_sem]) (by simp [go_sem]) (c1) (by simp only [go_sem, Nat.reduceLT, Nat.reduceBEq, Nat.reduceLeDiff, Nat.reduceAdd, Nat.reduceMul, Nat.reduceSub, Nat.reduceEqDiff, Int.reduceNeg, Int.reduceToNat, Int.reduceAdd, Int.reduceSub, Bool.false_or, Bool.or_true, Bool.true_or, Bool.or_false, ↓reduceIte]; exact rfl)) ?_
    refine cw_go tabOK 99 (by simp only [go_sem, Nat.reduceLT, Nat.reduceBEq, Nat.reduceLeDiff, Nat.reduceAdd, Nat.reduceMul, Nat.reduceSub, Nat.reduceEqDiff, Int.reduceNeg, Int.reduceToNat, Int.reduceAdd, Int.reduceSub]; try exact rfl) (by simp [go_sem]) ?_
    refine cw_cond (by simp only [go_sem, Nat.reduceLT, Nat.reduceBEq, Nat.reduceLeDiff, Nat.reduceAdd, Nat.reduceMul, Nat.reduceSub, Nat.reduceEqDiff, Int.reduceNeg, Int.reduceToNat, Int.reduceAdd, Int.reduceSub]; try exact rfl) trivial (fun h => ?_) (fun h => ?_)
    · have he : e ≠ 0 := by simpa using h
      refine cw_go tabOK 99 (by simp only [go_sem, Nat.reduceLT, Nat.reduceBEq, Nat.reduceLeDiff, Nat.reduceAdd, Nat.reduceMul, Nat.reduceSub, Nat.reduceEqDiff, Int.reduceNeg, Int.reduceToNat, Int.reduceAdd, Int.reduceSub]; try exact rfl) (by simp [go_sem]) ?_
      refine cw_ret ⟨_, _, by simp only [go_sem, Nat.reduceLT, Nat.reduceBEq, Nat.reduceLeDiff, Nat.reduceAdd, Nat.reduceMul, Nat.reduceSub, Nat.reduceEqDiff, Int.reduceNeg, Int.reduceToNat, Int.reduceAdd, Int.reduceSub]; try exact rfl, by simp [go_sem], _, .inr (.inl rfl), ?_⟩
      simp [he]
    · have he : e = 0 := by simpa using h
      refine cw_go tabOK 99 (by simp only [go_sem, Nat.reduceLT, Nat.reduceBEq, Nat.reduceLeDiff, Nat.reduceAdd, Nat.reduceMul, Nat.reduceSub, Nat.reduceEqDiff, Int.reduceNeg, Int.reduceToNat, Int.reduceAdd, Int.reduceSub, doerRow]; try exact rfl) ?_ ?_
      · simp [doerRow]
      refine cw_ret ⟨_, _, by simp only [go_sem, Nat.reduceLT, Nat.reduceBEq, Nat.reduceLeDiff, Nat.reduceAdd, Nat.reduceMul, Nat.reduceSub, Nat.reduceEqDiff, Int.reduceNeg, Int.reduceToNat, Int.reduceAdd, Int.reduceSub]; try exact rfl, by simp [go_sem], _, .inr (.inl rfl), ?_⟩
      simp [he]
  have hk1 : ¬ a.kind = 1 := by simpa using h
  refine cw_go tabOK 99 (by simp only [go_sem, Nat.reduceLT, Nat.reduceBEq, Nat.reduceLeDiff, Nat.reduceAdd, Nat.reduceMul, Nat.reduceSub, Nat.reduceEqDiff, Int.reduceNeg, Int.reduceToNat, Int.reduceAdd, Int.reduceSub]; try exact rfl) (by simp [go_sem]) ?_
  by_cases hk2 : a.kind = 2
  · have hk : a.kind = 2 := hk2
    have q1 : makeE l a = e := by rw [← hE]; simp [applyE, hk]
    have q2 : makeL l a v = L := by rw [← hL]; simp [applyL, hk]
    rw [q1, q2] at c1
    refine cw_condT (by simp only [go_sem, Nat.reduceLT, Nat.reduceBEq, Nat.reduceLeDiff, Nat.reduceAdd, Nat.reduceMul, Nat.reduceSub, Nat.reduceEqDiff, Int.reduceNeg, Int.reduceToNat, Int.reduceAdd, Int.reduceSub]; try exact rfl) trivial (by simp [hk]) ?_
    refine cw_go tabOK 99 (by simp only [go_sem, Nat.reduceLT, Nat.reduceBEq, Nat.reduceLeDiff, Nat.reduceAdd, Nat.reduceMul, Nat.reduceSub, Nat.reduceEqDiff, Int.reduceNeg, Int.reduceToNat, Int.reduceAdd, Int.reduceSub]; try exact rfl) (by simp [go_sem]) ?_
    refine cw_step rfl (trip_callP rfl (by simp only [go_sem, Nat.reduceLT, Nat.reduceBEq, Nat.reduceLeDiff, Nat.reduceAdd, Nat.reduceMul, Nat.reduceSub, Nat.reduceEqDiff, Int.reduceNeg, Int.reduceToNat, Int.reduceAdd, Int.reduceSub]; try exact rfl) (by simp [go_sem]) ⟨_, Go.Proofs.Try.func100, by kernel_rfl, rfl⟩ [15] (by simp only [go_sem, Nat.reduceLT, Nat.reduceBEq, Nat.reduceLeDiff, Nat.reduceAdd, Nat.reduceMul, Nat.reduceSub, Nat.reduceEqDiff, Int.reduceNeg, Int.reduceToNat, Int.reduceAdd, Int.reduceSub, Bool.false_or, Bool.or_true, Bool.true_or, Bool.or_false, ↓reduceIte]; try exact rfl) (by simp [go_sem]) (by simp) (by simp [go_sem]) (by simp [go_sem]) (by simp [go_sem]) (c1) (by simp only [go_sem, Nat.reduceLT, Nat.reduceBEq, Nat.reduceLeDiff, Nat.reduceAdd, Nat.reduceMul, Nat.reduceSub, Nat.reduceEqDiff, Int.reduceNeg, Int.reduceToNat, Int.reduceAdd, Int.reduceSub, Bool.false_or, Bool.or_true, Bool.true_or, Bool.or_false, ↓reduceIte]; exact rfl)) ?_
    refine cw_go tabOK 99 (by simp only [go_sem, Nat.reduceLT, Nat.reduceBEq, Nat.reduceLeDiff, Nat.reduceAdd, Nat.reduceMul, Nat.reduceSub, Nat.reduceEqDiff, Int.reduceNeg, Int.reduceToNat, Int.reduceAdd, Int.reduceSub]; try exact rfl) (by simp [go_sem]) ?_
    refine cw_cond (by simp only [go_sem, Nat.reduceLT, Nat.reduceBEq, Nat.reduceLeDiff, Nat.reduceAdd, Nat.reduceMul, Nat.reduceSub, Nat.reduceEqDiff, Int.reduceNeg, Int.reduceToNat, Int.reduceAdd, Int.reduceSub]; try exact rfl) trivial (fun h => ?_) (fun h => ?_)
    · have he : e ≠ 0 := by simpa using h
      refine cw_go tabOK 99 (by simp only [go_sem, Nat.reduceLT, Nat.reduceBEq, Nat.reduceLeDiff, Nat.reduceAdd, Nat.reduceMul, Nat.reduceSub, Nat.reduceEqDiff, Int.reduceNeg, Int.reduceToNat, Int.reduceAdd, Int.reduceSub]; try exact rfl) (by simp [go_sem]) ?_
      refine cw_ret ⟨_, _, by simp only [go_sem, Nat.reduceLT, Nat.reduceBEq, Nat.reduceLeDiff, Nat.reduceAdd, Nat.reduceMul, Nat.reduceSub, Nat.reduceEqDiff, Int.reduceNeg, Int.reduceToNat, Int.reduceAdd, Int.reduceSub]; try exact rfl, by simp [go_sem], _, .inr (.inl rfl), ?_⟩
      simp [he]
    · have he : e = 0 := by simpa using h
      refine cw_go tabOK 99 (by simp only [go_sem, Nat.reduceLT, Nat.reduceBEq, Nat.reduceLeDiff, Nat.reduceAdd, Nat.reduceMul, Nat.reduceSub, Nat.reduceEqDiff, Int.reduceNeg, Int.reduceToNat, Int.reduceAdd, Int.reduceSub, doerRow]; try exact rfl) ?_ ?_
      · simp [doerRow]
      refine cw_ret ⟨_, _, by simp only [go_sem, Nat.reduceLT, Nat.reduceBEq, Nat.reduceLeDiff, Nat.reduceAdd, Nat.reduceMul, Nat.reduceSub, Nat.reduceEqDiff, Int.reduceNeg, Int.reduceToNat, Int.reduceAdd, Int.reduceSub]; try exact rfl, by simp [go_sem], _, .inr (.inl rfl), ?_⟩
      simp [he]
  refine cw_condF (by simp only [go_sem, Nat.reduceLT, Nat.reduceBEq, Nat.reduceLeDiff, Nat.reduceAdd, Nat.reduceMul, Nat.reduceSub, Nat.reduceEqDiff, Int.reduceNeg, Int.reduceToNat, Int.reduceAdd, Int.reduceSub]; try exact rfl) trivial (by simpa using hk2) ?_
  refine cw_go tabOK 99 (by simp only [go_sem, Nat.reduceLT, Nat.reduceBEq, Nat.reduceLeDiff, Nat.reduceAdd, Nat.reduceMul, Nat.reduceSub, Nat.reduceEqDiff, Int.reduceNeg, Int.reduceToNat, Int.reduceAdd, Int.reduceSub]; try exact rfl) (by simp [go_sem]) ?_
  refine cw_cond (by simp only [go_sem, Nat.reduceLT, Nat.reduceBEq, Nat.reduceLeDiff, Nat.reduceAdd, Nat.reduceMul, Nat.reduceSub, Nat.reduceEqDiff, Int.reduceNeg, Int.reduceToNat, Int.reduceAdd, Int.reduceSub]; try exact rfl) trivial (fun h => ?_) (fun h => ?_)
  · have hk : a.kind = 3 := by simpa using h
    have q1 : storeE l a = e := by rw [← hE]; simp [applyE, hk]
    have q2 : storeL l a v = L := by rw [← hL]; simp [applyL, hk]
    rw [q1, q2] at c3
    refine cw_go tabOK 99 (by simp only [go_sem, Nat.reduceLT, Nat.reduceBEq, Nat.reduceLeDiff, Nat.reduceAdd, Nat.reduceMul, Nat.reduceSub, Nat.reduceEqDiff, Int.reduceNeg, Int.reduceToNat, Int.reduceAdd, Int.reduceSub]; try exact rfl) (by simp [go_sem]) ?_
    refine cw_step rfl (trip_callP rfl (by simp only [go_sem, Nat.reduceLT, Nat.reduceBEq, Nat.reduceLeDiff, Nat.reduceAdd, Nat.reduceMul, Nat.reduceSub, Nat.reduceEqDiff, Int.reduceNeg, Int.reduceToNat, Int.reduceAdd, Int.reduceSub]; try exact rfl) (by simp [go_sem]) ⟨_, Go.Proofs.Try.func101, by kernel_rfl, rfl⟩ [15] (by simp only [go_sem, Nat.reduceLT, Nat.reduceBEq, Nat.reduceLeDiff, Nat.reduceAdd, Nat.reduceMul, Nat.reduceSub, Nat.reduceEqDiff, Int.reduceNeg, Int.reduceToNat, Int.reduceAdd, Int.reduceSub, Bool.false_or, Bool.or_true, Bool.true_or, Bool.or_false, ↓reduceIte]; try exact rfl) (by simp [go_sem]) (by simp) (by simp [go_sem]) (by simp [go_sem]) (by simp [go_sem]) (c3) (by simp only [go_sem, Nat.reduceLT, Nat.reduceBEq, Nat.reduceLeDiff, Nat.reduceAdd, Nat.reduceMul, Nat.reduceSub, Nat.reduceEqDiff, Int.reduceNeg, Int.reduceToNat, Int.reduceAdd, Int.reduceSub, Bool.false_or, Bool.or_true, Bool.true_or, Bool.or_false, ↓reduceIte]; exact rfl)) ?_
    refine cw_go tabOK 99 (by simp only [go_sem, Nat.reduceLT, Nat.reduceBEq, Nat.reduceLeDiff, Nat.reduceAdd, Nat.reduceMul, Nat.reduceSub, Nat.reduceEqDiff, Int.reduceNeg, Int.reduceToNat, Int.reduceAdd, Int.reduceSub]; try exact rfl) (by simp [go_sem]) ?_
    refine cw_cond (by simp only [go_sem, Nat.reduceLT, Nat.reduceBEq, Nat.reduceLeDiff, Nat.reduceAdd, Nat.reduceMul, Nat.reduceSub, Nat.reduceEqDiff, Int.reduceNeg, Int.reduceToNat, Int.reduceAdd, Int.reduceSub]; try exact rfl) trivial (fun h => ?_) (fun h => ?_)
    · have he : e ≠ 0 := by simpa using h
      refine cw_go tabOK 99 (by simp only [go_sem, Nat.reduceLT, Nat.reduceBEq, Nat.reduceLeDiff, Nat.reduceAdd, Nat.reduceMul, Nat.reduceSub, Nat.reduceEqDiff, Int.reduceNeg, Int.reduceToNat, Int.reduceAdd, Int.reduceSub]; try exact rfl) (by simp [go_sem]) ?_
      refine cw_ret ⟨_, _, by simp only [go_sem, Nat.reduceLT, Nat.reduceBEq, Nat.reduceLeDiff, Nat.reduceAdd, Nat.reduceMul, Nat.reduceSub, Nat.reduceEqDiff, Int.reduceNeg, Int.reduceToNat, Int.reduceAdd, Int.reduceSub]; try exact rfl, by simp [go_sem], _, .inr (.inl rfl), ?_⟩
      simp [he]
    · have he : e = 0 := by simpa using h
      refine cw_go tabOK 99 (by simp only [go_sem, Nat.reduceLT, Nat.reduceBEq, Nat.reduceLeDiff, Nat.reduceAdd, Nat.reduceMul, Nat.reduceSub, Nat.reduceEqDiff, Int.reduceNeg, Int.reduceToNat, Int.reduceAdd, Int.reduceSub, doerRow]; try exact rfl) ?_ ?_
      · simp [doerRow]
      refine cw_ret ⟨_, _, by simp only [go_sem, Nat.reduceLT, Nat.reduceBEq, Nat.reduceLeDiff, Nat.reduceAdd, Nat.reduceMul, Nat.reduceSub, Nat.reduceEqDiff, Int.reduceNeg, Int.reduceToNat, Int.reduceAdd, Int.reduceSub]; try exact rfl, by simp [go_sem], _, .inr (.inl rfl), ?_⟩
      simp [he]
  have hk3 : ¬ a.kind = 3 := by simpa using h
  refine cw_go tabOK 99 (by simp only [go_sem, Nat.reduceLT, Nat.reduceBEq, Nat.reduceLeDiff, Nat.reduceAdd, Nat.reduceMul, Nat.reduceSub, Nat.reduceEqDiff, Int.reduceNeg, Int.reduceToNat, Int.reduceAdd, Int.reduceSub]; try exact rfl) (by simp [go_sem]) ?_
  refine cw_cond (by simp only [go_sem, Nat.reduceLT, Nat.reduceBEq, Nat.reduceLeDiff, Nat.reduceAdd, Nat.reduceMul, Nat.reduceSub, Nat.reduceEqDiff, Int.reduceNeg, Int.reduceToNat, Int.reduceAdd, Int.reduceSub]; try exact rfl) trivial (fun h => ?_) (fun h => ?_)
  · have hk : a.kind = 4 := by simpa using h
    have q1 : removeE l a = e := by rw [← hE]; simp [applyE, hk]
    have q2 : removeL l a v = L := by rw [← hL]; simp [applyL, hk]
    rw [q1, q2] at c4
    refine cw_go tabOK 99 (by simp only [go_sem, Nat.reduceLT, Nat.reduceBEq, Nat.reduceLeDiff, Nat.reduceAdd, Nat.reduceMul, Nat.reduceSub, Nat.reduceEqDiff, Int.reduceNeg, Int.reduceToNat, Int.reduceAdd, Int.reduceSub]; try exact rfl) (by simp [go_sem]) ?_
    refine cw_step rfl (trip_callP rfl (by simp only [go_sem, Nat.reduceLT, Nat.reduceBEq, Nat.reduceLeDiff, Nat.reduceAdd, Nat.reduceMul, Nat.reduceSub, Nat.reduceEqDiff, Int.reduceNeg, Int.reduceToNat, Int.reduceAdd, Int.reduceSub]; try exact rfl) (by simp [go_sem]) ⟨_, Go.Proofs.Try.func102, by kernel_rfl, rfl⟩ [15] (by simp only [go_sem, Nat.reduceLT, Nat.reduceBEq, Nat.reduceLeDiff, Nat.reduceAdd, Nat.reduceMul, Nat.reduceSub, Nat.reduceEqDiff, Int.reduceNeg, Int.reduceToNat, Int.reduceAdd, Int.reduceSub, Bool.false_or, Bool.or_true, Bool.true_or, Bool.or_false, ↓reduceIte]; try exact rfl) (by simp [go_sem]) (by simp) (by simp [go_sem]) (by simp [go_sem]) (by simp [go_sem]) (c4) (by simp only [go_sem, Nat.reduceLT, Nat.reduceBEq, Nat.reduceLeDiff, Nat.reduceAdd, Nat.reduceMul, Nat.reduceSub, Nat.reduceEqDiff, Int.reduceNeg, Int.reduceToNat, Int.reduceAdd, Int.reduceSub, Bool.false_or, Bool.or_true, Bool.true_or, Bool.or_false, ↓reduceIte]; exact rfl)) ?_
    refine cw_go tabOK 99 (by simp only [go_sem, Nat.reduceLT, Nat.reduceBEq, Nat.reduceLeDiff, Nat.reduceAdd, Nat.reduceMul, Nat.reduceSub, Nat.reduceEqDiff, Int.reduceNeg, Int.reduceToNat, Int.reduceAdd, Int.reduceSub]; try exact rfl) (by simp [go_sem]) ?_
    refine cw_cond (by simp only [go_sem, Nat.reduceLT, Nat.reduceBEq, Nat.reduceLeDiff, Nat.reduceAdd, Nat.reduceMul, Nat.reduceSub, Nat.reduceEqDiff, Int.reduceNeg, Int.reduceToNat, Int.reduceAdd, Int.reduceSub]; try exact rfl) trivial (fun h => ?_) (fun h => ?_)
    · have he : e ≠ 0 := by simpa using h
      refine cw_go tabOK 99 (by simp only [go_sem, Nat.reduceLT, Nat.reduceBEq, Nat.reduceLeDiff, Nat.reduceAdd, Nat.reduceMul, Nat.reduceSub, Nat.reduceEqDiff, Int.reduceNeg, Int.reduceToNat, Int.reduceAdd, Int.reduceSub]; try exact rfl) (by simp [go_sem]) ?_
      refine cw_ret ⟨_, _, by simp only [go_sem, Nat.reduceLT, Nat.reduceBEq, Nat.reduceLeDiff, Nat.reduceAdd, Nat.reduceMul, Nat.reduceSub, Nat.reduceEqDiff, Int.reduceNeg, Int.reduceToNat, Int.reduceAdd, Int.reduceSub]; try exact rfl, by simp [go_sem], _, .inr (.inl rfl), ?_⟩
      simp [he]
    · have he : e = 0 := by simpa using h
      refine cw_go tabOK 99 (by simp only [go_sem, Nat.reduceLT, Nat.reduceBEq, Nat.reduceLeDiff, Nat.reduceAdd, Nat.reduceMul, Nat.reduceSub, Nat.reduceEqDiff, Int.reduceNeg, Int.reduceToNat, Int.reduceAdd, Int.reduceSub, doerRow]; try exact rfl) ?_ ?_
      · simp [doerRow]
      refine cw_ret ⟨_, _, by simp only [go_sem, Nat.reduceLT, Nat.reduceBEq, Nat.reduceLeDiff, Nat.reduceAdd, Nat.reduceMul, Nat.reduceSub, Nat.reduceEqDiff, Int.reduceNeg, Int.reduceToNat, Int.reduceAdd, Int.reduceSub]; try exact rfl, by simp [go_sem], _, .inr (.inl rfl), ?_⟩
      simp [he]
  have hk4 : ¬ a.kind = 4 := by simpa using h
  refine cw_go tabOK 99 (by simp only [go_sem, Nat.reduceLT, Nat.reduceBEq, Nat.reduceLeDiff, Nat.reduceAdd, Nat.reduceMul, Nat.reduceSub, Nat.reduceEqDiff, Int.reduceNeg, Int.reduceToNat, Int.reduceAdd, Int.reduceSub]; try exact rfl) (by simp [go_sem]) ?_
  refine cw_cond (by simp only [go_sem, Nat.reduceLT, Nat.reduceBEq, Nat.reduceLeDiff, Nat.reduceAdd, Nat.reduceMul, Nat.reduceSub, Nat.reduceEqDiff, Int.reduceNeg, Int.reduceToNat, Int.reduceAdd, Int.reduceSub]; try exact rfl) trivial (fun h => ?_) (fun h => ?_)
  · have hk : a.kind = 5 := by simpa using h
    have c5 := hren hk
    have q1 : renameE l a = e := by rw [← hE]; simp [applyE, hk]
    have q2 : renameL l a v = L := by rw [← hL]; simp [applyL, hk]
    rw [q1, q2] at c5
    refine cw_go tabOK 99 (by simp only [go_sem, Nat.reduceLT, Nat.reduceBEq, Nat.reduceLeDiff, Nat.reduceAdd, Nat.reduceMul, Nat.reduceSub, Nat.reduceEqDiff, Int.reduceNeg, Int.reduceToNat, Int.reduceAdd, Int.reduceSub]; try exact rfl) (by simp [go_sem]) ?_
    refine cw_step rfl (trip_callP rfl (by simp only [go_sem, Nat.reduceLT, Nat.reduceBEq, Nat.reduceLeDiff, Nat.reduceAdd, Nat.reduceMul, Nat.reduceSub, Nat.reduceEqDiff, Int.reduceNeg, Int.reduceToNat, Int.reduceAdd, Int.reduceSub]; try exact rfl) (by simp [go_sem]) ⟨_, Go.Proofs.Try.func103, by kernel_rfl, rfl⟩ [15] (by simp only [go_sem, Nat.reduceLT, Nat.reduceBEq, Nat.reduceLeDiff, Nat.reduceAdd, Nat.reduceMul, Nat.reduceSub, Nat.reduceEqDiff, Int.reduceNeg, Int.reduceToNat, Int.reduceAdd, Int.reduceSub, Bool.false_or, Bool.or_true, Bool.true_or, Bool.or_false, ↓reduceIte]; try exact rfl) (by simp [go_sem]) (by simp) (by simp [go_sem]) (by simp [go_sem]) (by simp [go_sem]) (c5) (by simp only [go_sem, Nat.reduceLT, Nat.reduceBEq, Nat.reduceLeDiff, Nat.reduceAdd, Nat.reduceMul, Nat.reduceSub, Nat.reduceEqDiff, Int.reduceNeg, Int.reduceToNat, Int.reduceAdd, Int.reduceSub, Bool.false_or, Bool.or_true, Bool.true_or, Bool.or_false, ↓reduceIte]; exact rfl)) ?_
    refine cw_go tabOK 99 (by simp only [go_sem, Nat.reduceLT, Nat.reduceBEq, Nat.reduceLeDiff, Nat.reduceAdd, Nat.reduceMul, Nat.reduceSub, Nat.reduceEqDiff, Int.reduceNeg, Int.reduceToNat, Int.reduceAdd, Int.reduceSub]; try exact rfl) (by simp [go_sem]) ?_
    refine cw_cond (by simp only [go_sem, Nat.reduceLT, Nat.reduceBEq, Nat.reduceLeDiff, Nat.reduceAdd, Nat.reduceMul, Nat.reduceSub, Nat.reduceEqDiff, Int.reduceNeg, Int.reduceToNat, Int.reduceAdd, Int.reduceSub]; try exact rfl) trivial (fun h => ?_) (fun h => ?_)
    · have he : e ≠ 0 := by simpa using h
      refine cw_go tabOK 99 (by simp only [go_sem, Nat.reduceLT, Nat.reduceBEq, Nat.reduceLeDiff, Nat.reduceAdd, Nat.reduceMul, Nat.reduceSub, Nat.reduceEqDiff, Int.reduceNeg, Int.reduceToNat, Int.reduceAdd, Int.reduceSub]; try exact rfl) (by simp [go_sem]) ?_
      refine cw_ret ⟨_, _, by simp only [go_sem, Nat.reduceLT, Nat.reduceBEq, Nat.reduceLeDiff, Nat.reduceAdd, Nat.reduceMul, Nat.reduceSub, Nat.reduceEqDiff, Int.reduceNeg, Int.reduceToNat, Int.reduceAdd, Int.reduceSub]; try exact rfl, by simp [go_sem], _, .inr (.inl rfl), ?_⟩
      simp [he]
    · have he : e = 0 := by simpa using h
      refine cw_go tabOK 99 (by simp only [go_sem, Nat.reduceLT, Nat.reduceBEq, Nat.reduceLeDiff, Nat.reduceAdd, Nat.reduceMul, Nat.reduceSub, Nat.reduceEqDiff, Int.reduceNeg, Int.reduceToNat, Int.reduceAdd, Int.reduceSub, doerRow]; try exact rfl) ?_ ?_
      · simp [doerRow]
      refine cw_ret ⟨_, _, by simp only [go_sem, Nat.reduceLT, Nat.reduceBEq, Nat.reduceLeDiff, Nat.reduceAdd, Nat.reduceMul, Nat.reduceSub, Nat.reduceEqDiff, Int.reduceNeg, Int.reduceToNat, Int.reduceAdd, Int.reduceSub]; try exact rfl, by simp [go_sem], _, .inr (.inl rfl), ?_⟩
      simp [he]
  have hk5 : ¬ a.kind = 5 := by simpa using h
  have q1 : e = 1 := by rw [← hE]; simp [applyE, hk1, hk2, hk3, hk4, hk5]
  subst q1
  refine cw_go tabOK 99 (by simp only [go_sem, Nat.reduceLT, Nat.reduceBEq, Nat.reduceLeDiff, Nat.reduceAdd, Nat.reduceMul, Nat.reduceSub, Nat.reduceEqDiff, Int.reduceNeg, Int.reduceToNat, Int.reduceAdd, Int.reduceSub]; try exact rfl) (by simp [go_sem]) ?_
  refine cw_condT (by simp only [go_sem, Nat.reduceLT, Nat.reduceBEq, Nat.reduceLeDiff, Nat.reduceAdd, Nat.reduceMul, Nat.reduceSub, Nat.reduceEqDiff, Int.reduceNeg, Int.reduceToNat, Int.reduceAdd, Int.reduceSub]; try exact rfl) trivial (by simp) ?_
  refine cw_go tabOK 99 (by simp only [go_sem, Nat.reduceLT, Nat.reduceBEq, Nat.reduceLeDiff, Nat.reduceAdd, Nat.reduceMul, Nat.reduceSub, Nat.reduceEqDiff, Int.reduceNeg, Int.reduceToNat, Int.reduceAdd, Int.reduceSub]; try exact rfl) (by simp [go_sem]) ?_
  refine cw_ret ⟨_, _, (by simp only [go_sem, Nat.reduceLT, Nat.reduceBEq, Nat.reduceLeDiff, Nat.reduceAdd, Nat.reduceMul, Nat.reduceSub, Nat.reduceEqDiff, Int.reduceNeg, Int.reduceToNat, Int.reduceAdd, Int.reduceSub]; try exact rfl), by simp [go_sem], _, .inr (.inl rfl), ?_⟩
  simp

theorem apply_ok (l : List Node) (a : Act) (v : Int) (hf : FitA l a)
    (hren : a.kind = 5 → ∀ (G Y N : Nat → Nat), FnOK Try.prog 103 [.ptr 15 9 0 0] (dH (doerRow l a v) G Y N) (fun r H => r = .int .i64 (renameE l a) ∧ ∀ i b, hget (dH (doerRow (renameL l a v) a v) G Y N) i = some b → hget H i = some b)) :
    FnOK Try.prog 40 [.sl (l.map nodeRow), .agg (actRow a), .int .i64 v] [] (fun r _ => r = applyR l a v) := by
  refine FnOK.nrmR (apply_raw l a v hf hren) ?_
  unfold applyR
  split
  · have h1 : nrmR ((applyL l a v).map nodeRow) = (applyL l a v).map nodeRow := by
      rw [nrmR_map, List.map_map]
      exact List.map_congr_left fun n _ => nrm_nodeRow n
    simp only [nrm, nrmL, h1]
  · rfl
end La

namespace La
open Go
set_option linter.unusedVariables false

theorem sameN_fid {v : Bool} {x y : Node} (h : sameN v x y = true) : x.fid = y.fid := by
  unfold sameN at h
  simp only [Bool.and_eq_true, beq_iff_eq] at h
  exact h.1.1.1.1

theorem Up.head {x : Node} {a : List Node} (h : Up (x :: a)) : (∀ z, z ∈ a → x.fid < z.fid) ∧ Up a := List.pairwise_cons.1 h

theorem sameT_of (v : Bool) : ∀ (a b : List Node), Up a → Up b → (∀ x, x ∈ a → ∃ y, y ∈ b ∧ sameN v x y = true) → (∀ y, y ∈ b → ∃ x, x ∈ a ∧ sameN v x y = true) → sameT v a b = true
  | [], [], _, _, _, _ => rfl
  | [], y :: b, _, _, _, h => by
    obtain ⟨x, hx, _⟩ := h y (by simp)
    simp at hx
  | x :: a, [], _, _, h, _ => by
    obtain ⟨y, hy, _⟩ := h x (by simp)
    simp at hy
  | x :: a, y :: b, ha, hb, h1, h2 => by
    obtain ⟨a1, a2⟩ := ha.head
    obtain ⟨b1, b2⟩ := hb.head
    obtain ⟨y', hy', hxy⟩ := h1 x (by simp)
    obtain ⟨x', hx', hxy'⟩ := h2 y (by simp)
    have e1 := sameN_fid hxy
    have e2 := sameN_fid hxy'
    have l1 : x.fid ≤ x'.fid := by
      rcases List.mem_cons.1 hx' with rfl | h
      · omega
      · have := a1 x' h; omega
    have l2 : y.fid ≤ y'.fid := by
      rcases List.mem_cons.1 hy' with rfl | h
      · omega
      · have := b1 y' h; omega
    have exy : x.fid = y.fid := by omega
    have hyy : y' = y := by
      rcases List.mem_cons.1 hy' with h | h
      · exact h
      · have := b1 y' h; omega
    subst hyy
    rw [sameT, hxy, Bool.true_and]
    refine sameT_of v a b a2 b2 (fun z hz => ?_) (fun z hz => ?_)
    · obtain ⟨w, hw, hzw⟩ := h1 z (by simp [hz])
      refine ⟨w, ?_, hzw⟩
      have := a1 z hz
      have e := sameN_fid hzw
      rcases List.mem_cons.1 hw with rfl | h
      · omega
      · exact h
    · obtain ⟨w, hw, hzw⟩ := h2 z (by simp [hz])
      refine ⟨w, ?_, hzw⟩
      have := b1 z hz
      have e := sameN_fid hzw
      rcases List.mem_cons.1 hw with rfl | h
      · omega
      · exact h

theorem findN_put {l : List Node} (h : Up l) (n : Node) (k : Int) : findN (putN l n) k = if k = n.fid then some n else findN l k := by
  by_cases e : k = n.fid
  · subst e; rw [if_pos rfl]; exact puts_found h n
  · rw [if_neg e]; exact (puts_other h n e).symm
theorem findN_drop {l : List Node} (h : Up l) (f k : Int) : findN (dropN l f) k = if k = f then none else findN l k := by
  obtain ⟨h1, h2⟩ := dropN_up h f
  by_cases e : k = f
  · subst e
    rw [if_pos rfl]
    exact (findN_none h1).2 fun x hx => ((h2 x).1 hx).2
  · rw [if_neg e]
    cases e1 : findN l k with
    | none =>
      rw [findN_none h1]
      exact fun x hx => (findN_none h).1 e1 x ((h2 x).1 hx).1
    | some x =>
      obtain ⟨k1, k2⟩ := (findN_some h).1 e1
      exact (findN_some h1).2 ⟨(h2 x).2 ⟨k1, by rw [k2]; exact e⟩, k2⟩

/-- two trees that are found the same are the same -/
theorem sameT_find (v : Bool) {a b : List Node} (ha : Up a) (hb : Up b) (h : ∀ k, match findN a k, findN b k with
    | none, none => True
    | some x, some y => sameN v x y = true
    | _, _ => False) : sameT v a b = true := by
  refine sameT_of v a b ha hb (fun x hx => ?_) (fun y hy => ?_)
  · have h1 := (findN_some ha).2 ⟨hx, rfl⟩
    have h2 := h x.fid
    rw [h1] at h2
    cases e : findN b x.fid with
    | none => rw [e] at h2; exact h2.elim
    | some y => rw [e] at h2; exact ⟨y, ((findN_some hb).1 e).1, h2⟩
  · have h1 := (findN_some hb).2 ⟨hy, rfl⟩
    have h2 := h y.fid
    rw [h1] at h2
    cases e : findN a y.fid with
    | none => rw [e] at h2; exact h2.elim
    | some x => rw [e] at h2; exact ⟨x, ((findN_some ha).1 e).1, h2⟩

theorem back_plain {l : List Node} {a : Act} (hk : a.kind = 1 ∨ a.kind = 2) (hr : risesB l = true) (he : makeE l a = 0) :
    removeE (makeL l a 7) { a with kind := 4 } = 0 ∧ sameT false (removeL (makeL l a 7) { a with kind := 4 } 8) l = true := by
  obtain ⟨hup, hent⟩ := (risesB_iff l).1 hr
  have hmL : makeL l a 7 = putN (putN l { enterN (getN l a.dir) a.name a.fid with version := 7 }) (madeN a 7) := by
    unfold makeL; rw [if_pos he]
  rw [hmL]
  unfold makeE at he
  have hd : dirE l a.dir = 0 := by
    by_cases h : dirE l a.dir = 0
    · exact h
    · rw [if_neg h] at he; exact absurd he h
  rw [if_pos hd] at he
  have hro : roomE (getN l a.dir) a.name = 0 := by
    by_cases h : roomE (getN l a.dir) a.name = 0
    · exact h
    · rw [if_neg h] at he; exact absurd he h
  rw [if_pos hro] at he
  have hat : isAt l a.fid = false := by
    cases h : isAt l a.fid with
    | false => rfl
    | true => rw [h] at he; simp at he
  obtain ⟨n, hn, hnd⟩ : ∃ n, findN l a.dir = some n ∧ n.dir = true := by
    unfold dirE at hd
    cases e : findN l a.dir with
    | none => rw [e] at hd; simp at hd
    | some n =>
      rw [e] at hd
      cases e2 : n.dir with
      | true => exact ⟨n, rfl, e2⟩
      | false => simp [e2] at hd
  have hg : getN l a.dir = n := by unfold getN; rw [hn]; rfl
  rw [hg] at hro ⊢
  have hE : isE n.entries a.name = false := by
    unfold roomE at hro
    cases h : isE n.entries a.name with
    | false => rfl
    | true =>
      rw [h] at hro
      split at hro <;> simp at hro
  have hnf : findN l a.fid = none := findN_no hat
  obtain ⟨hnm, hnfid⟩ := (findN_some hup).1 hn
  have hneq : a.dir ≠ a.fid := by
    intro e
    rw [e, hnf] at hn
    cases hn
  have hEn := hent n hnm
  obtain ⟨n1, hn1⟩ : ∃ n1 : Node, n1 = { enterN n a.name a.fid with version := 7 } := ⟨_, rfl⟩
  rw [← hn1]
  have n1f : n1.fid = a.dir := by rw [hn1]; exact hnfid
  have n1d : n1.dir = true := by rw [hn1]; exact hnd
  have up1 := (putN_up hup n1).1
  have up2 := (putN_up up1 (madeN a 7)).1
  have hmf : (madeN a 7).fid = a.fid := rfl
  have f2 : ∀ k, findN (putN (putN l n1) (madeN a 7)) k = if k = a.fid then some (madeN a 7) else if k = a.dir then some n1 else findN l k := fun k => by
    rw [findN_put up1, hmf, findN_put hup, n1f]
  generalize putN (putN l n1) (madeN a 7) = x at f2 up2
  have fdir : findN x a.dir = some n1 := by rw [f2, if_neg hneq, if_pos rfl]
  have ffid : findN x a.fid = some (madeN a 7) := by rw [f2, if_pos rfl]
  have hg2 : getN x a.dir = n1 := by unfold getN; rw [fdir]; rfl
  have hnamed : namedE x { a with kind := 4 } = 0 := by
    have hlead := enters_leads hEn hE a.fid
    have hent1 : entryN n1 a.name = some a.fid := by rw [hn1]; exact hlead
    unfold namedE dirE
    simp only [fdir, n1d, if_true, hg2, hent1]
  have hrem : removeE x { a with kind := 4 } = 0 := by
    unfold removeE
    rw [if_pos hnamed]
    show (match findN x a.fid with
      | none => (12 : Int)
      | some x => if x.entries.length > 0 then 10 else 0) = 0
    rw [ffid]; rfl
  refine ⟨hrem, ?_⟩
  unfold removeL
  rw [if_pos hrem]
  show sameT false (dropN (putN x { leaveN (getN x a.dir) a.name with version := 8 }) a.fid) l = true
  rw [hg2]
  have hlv : ({ leaveN n1 a.name with version := 8 } : Node) = { n with version := 8 } := by
    have := enters_leaves hEn hE a.fid
    rw [hn1]
    show ({ leaveN { enterN n a.name a.fid with version := 7 } a.name with version := 8 } : Node) = _
    have e1 : (leaveN { enterN n a.name a.fid with version := 7 } a.name).entries = n.entries := by
      have := congrArg Node.entries this
      exact this
    have e2 : ({ leaveN { enterN n a.name a.fid with version := 7 } a.name with version := 8 } : Node) = ⟨n.fid, n.dir, n.data, (leaveN { enterN n a.name a.fid with version := 7 } a.name).entries, 8⟩ := rfl
    rw [e2, e1]
  rw [hlv]
  have up3 := (putN_up up2 { n with version := 8 }).1
  have up4 := (dropN_up up3 a.fid).1
  refine sameT_find false up4 hup fun k => ?_
  have hn8 : ({ n with version := 8 } : Node).fid = a.dir := hnfid
  rw [findN_drop up3, findN_put up2, hn8, f2]
  by_cases k1 : k = a.fid
  · subst k1
    rw [if_pos rfl, hnf]; trivial
  · rw [if_neg k1]
    by_cases k2 : k = a.dir
    · subst k2
      rw [if_pos rfl, hn]
      show sameN false _ _ = true
      unfold sameN; simp [hnfid]
    · rw [if_neg k2, if_neg k1, if_neg k2]
      cases findN l k with
      | none => trivial
      | some z => exact sameN_self false z
end La

namespace La
open Go Go.Eng Go.Proofs
set_option maxRecDepth 10000
set_option linter.unusedSimpArgs false
set_option linter.unusedVariables false

set_option maxHeartbeats 1000000 in
theorem equalFunc_ok (a b : List Node) (ha : Small a) (hb : Small b) : FnOK Try.prog 131 [.sl (a.map nodeRow), .sl (b.map nodeRow), .fn 132 []] [] (fun r _ => r = .bool (sameT false a b)) := by
  have hla := ha.len
  have hlb := hb.len
  refine fn_of_cwW tabOK (Go.Proofs.Try.func131) rfl (fun C => ?_)
  simp only [Go.Proofs.Try.ntmps131, Go.Proofs.Try.results131, go_sem, Nat.reduceLT, Nat.reduceBEq, Nat.reduceLeDiff, Nat.reduceAdd, Nat.reduceMul, Nat.reduceSub, Nat.reduceEqDiff, Int.reduceNeg, Int.reduceToNat, Int.reduceAdd, Int.reduceSub]
  refine cw_go tabOK 99 (by simp only [go_sem, Nat.reduceLT, Nat.reduceBEq, Nat.reduceLeDiff, Nat.reduceAdd, Nat.reduceMul, Nat.reduceSub, Nat.reduceEqDiff, Int.reduceNeg, Int.reduceToNat, Int.reduceAdd, Int.reduceSub]; try exact rfl) (by simp [go_sem]) ?_
  refine cw_cond (by simp only [go_sem, Nat.reduceLT, Nat.reduceBEq, Nat.reduceLeDiff, Nat.reduceAdd, Nat.reduceMul, Nat.reduceSub, Nat.reduceEqDiff, Int.reduceNeg, Int.reduceToNat, Int.reduceAdd, Int.reduceSub]; try exact rfl) trivial (fun h => ?_) (fun h => ?_)
  · have hne : sameT false a b = false := by
      cases e : sameT false a b with
      | false => rfl
      | true => have := ((sameT_iff false a b).1 e).1; simp [this] at h
    refine cw_go tabOK 99 (by simp only [go_sem, Nat.reduceLT, Nat.reduceBEq, Nat.reduceLeDiff, Nat.reduceAdd, Nat.reduceMul, Nat.reduceSub, Nat.reduceEqDiff, Int.reduceNeg, Int.reduceToNat, Int.reduceAdd, Int.reduceSub]; try exact rfl) (by simp [go_sem]) ?_
    refine cw_ret ⟨_, _, (by simp only [go_sem, Nat.reduceLT, Nat.reduceBEq, Nat.reduceLeDiff, Nat.reduceAdd, Nat.reduceMul, Nat.reduceSub, Nat.reduceEqDiff, Int.reduceNeg, Int.reduceToNat, Int.reduceAdd, Int.reduceSub]; try exact rfl), by simp [go_sem], _, .inr (.inl rfl), ?_⟩
    simp [hne]
  have hl : a.length = b.length := by simp at h; omega
  refine cw_go tabOK 99 (by simp only [go_sem, Nat.reduceLT, Nat.reduceBEq, Nat.reduceLeDiff, Nat.reduceAdd, Nat.reduceMul, Nat.reduceSub, Nat.reduceEqDiff, Int.reduceNeg, Int.reduceToNat, Int.reduceAdd, Int.reduceSub]; try exact rfl) (by simp [go_sem]) ?_
  refine cw_loopS (fun i : Nat => i ≤ a.length ∧ ∀ j, j < i → sameN false (a.getD j default) (b.getD j default) = true) (fun i => a.length - i) (fun i => [(7, .any), (8, .any), (9, .any), (17, .int .i64 i), (18, .any), (19, .any), (20, .any), (21, .any), (22, .any), (23, .any), (24, .any), (25, .any), (26, .any), (27, .any), (28, .any), (29, .any), (30, .any), (31, .any)]) (fun _ => []) 0 ⟨by omega, by omega⟩ ?_ fun i hi => ?_
  · simp only [go_sem, Nat.reduceLT, Nat.reduceBEq, Nat.reduceLeDiff, Nat.reduceAdd, Nat.reduceMul, Nat.reduceSub, Nat.reduceEqDiff, Int.reduceNeg, Int.reduceToNat, Int.reduceAdd, Int.reduceSub]
    exact le_sub (by simp [go_sem]) (by simp [go_sem]) (by simp [go_sem])
  obtain ⟨hi, hs⟩ := hi
  simp only [go_sem, Nat.reduceLT, Nat.reduceBEq, Nat.reduceLeDiff, Nat.reduceAdd, Nat.reduceMul, Nat.reduceSub, Nat.reduceEqDiff, Int.reduceNeg, Int.reduceToNat, Int.reduceAdd, Int.reduceSub]
  refine cw_go tabOK 99 (by simp only [go_sem, Nat.reduceLT, Nat.reduceBEq, Nat.reduceLeDiff, Nat.reduceAdd, Nat.reduceMul, Nat.reduceSub, Nat.reduceEqDiff, Int.reduceNeg, Int.reduceToNat, Int.reduceAdd, Int.reduceSub]; try exact rfl) (by simp [go_sem]) ?_
  refine cw_cond (by simp only [go_sem, Nat.reduceLT, Nat.reduceBEq, Nat.reduceLeDiff, Nat.reduceAdd, Nat.reduceMul, Nat.reduceSub, Nat.reduceEqDiff, Int.reduceNeg, Int.reduceToNat, Int.reduceAdd, Int.reduceSub]; try exact rfl) trivial (fun h => ?_) (fun h => ?_)
  · have hlt : i < a.length := by simp at h; omega
    have hltb : i < b.length := by omega
    have hga : (a.map nodeRow).getD i [] = nodeRow (a.getD i default) := Fam.getD hlt
    have hgb : (b.map nodeRow).getD i [] = nodeRow (b.getD i default) := Fam.getD hltb
    have hsm := sameIs_ok _ _ (ha.each _ (getD_mem hlt)) (hb.each _ (getD_mem hltb))
    have hno : sameN false (a.getD i default) (b.getD i default) = false → sameT false a b = false := fun h0 => by
      cases e : sameT false a b with
      | false => rfl
      | true => rw [((sameT_iff false a b).1 e).2 i hlt] at h0; cases h0
    have hyes : sameN false (a.getD i default) (b.getD i default) = true → ∀ j, j < i + 1 → sameN false (a.getD j default) (b.getD j default) = true := fun h0 j hj => by
      rcases Nat.lt_succ_iff_lt_or_eq.1 hj with h1 | rfl
      · exact hs j h1
      · exact h0
    clear hs
    generalize a.getD i default = x at hga hsm hno hyes
    generalize b.getD i default = y at hgb hsm hno hyes
    refine cw_go tabOK 99 (by simp only [go_sem, Nat.reduceLT, Nat.reduceBEq, Nat.reduceLeDiff, Nat.reduceAdd, Nat.reduceMul, Nat.reduceSub, Nat.reduceEqDiff, Int.reduceNeg, Int.reduceToNat, Int.reduceAdd, Int.reduceSub, hga, hgb, nodeRow]; try exact rfl) ?_ ?_
    · simp [hga, hgb, nodeRow, hlt, hltb]
    refine cw_call rfl rfl (by simp only [go_sem, Nat.reduceLT, Nat.reduceBEq, Nat.reduceLeDiff, Nat.reduceAdd, Nat.reduceMul, Nat.reduceSub, Nat.reduceEqDiff, Int.reduceNeg, Int.reduceToNat, Int.reduceAdd, Int.reduceSub]; try exact rfl) (by simp [go_sem]) ⟨_, Go.Proofs.Try.func132, by kernel_rfl, rfl⟩ (by simp [go_sem]) (hsm) (by simp [go_sem]) (by simp only [go_sem, Nat.reduceLT, Nat.reduceBEq, Nat.reduceLeDiff, Nat.reduceAdd, Nat.reduceMul, Nat.reduceSub, Nat.reduceEqDiff, Int.reduceNeg, Int.reduceToNat, Int.reduceAdd, Int.reduceSub]; exact rfl) ?_
    refine cw_go tabOK 99 (by simp only [go_sem, Nat.reduceLT, Nat.reduceBEq, Nat.reduceLeDiff, Nat.reduceAdd, Nat.reduceMul, Nat.reduceSub, Nat.reduceEqDiff, Int.reduceNeg, Int.reduceToNat, Int.reduceAdd, Int.reduceSub]; try exact rfl) (by simp [go_sem]) ?_
    refine cw_cond (by simp only [go_sem, Nat.reduceLT, Nat.reduceBEq, Nat.reduceLeDiff, Nat.reduceAdd, Nat.reduceMul, Nat.reduceSub, Nat.reduceEqDiff, Int.reduceNeg, Int.reduceToNat, Int.reduceAdd, Int.reduceSub]; try exact rfl) trivial (fun h => ?_) (fun h => ?_)
    · have h0 : sameN false x y = false := by simpa using h
      have := hno h0
      refine cw_go tabOK 99 (by simp only [go_sem, Nat.reduceLT, Nat.reduceBEq, Nat.reduceLeDiff, Nat.reduceAdd, Nat.reduceMul, Nat.reduceSub, Nat.reduceEqDiff, Int.reduceNeg, Int.reduceToNat, Int.reduceAdd, Int.reduceSub]; try exact rfl) (by simp [go_sem]) ?_
      refine cw_ret ⟨_, _, (by simp only [go_sem, Nat.reduceLT, Nat.reduceBEq, Nat.reduceLeDiff, Nat.reduceAdd, Nat.reduceMul, Nat.reduceSub, Nat.reduceEqDiff, Int.reduceNeg, Int.reduceToNat, Int.reduceAdd, Int.reduceSub]; try exact rfl), by simp [go_sem], _, .inr (.inl rfl), ?_⟩
      simp [this]
    · have h0 : sameN false x y = true := by simpa using h
      have hw : IntKind.i64.wrap ((i : Int) + 1) = ((i + 1 : Nat) : Int) := by rw [Eng.wrap_small (by omega) (by omega)]; rfl
      refine cw_go tabOK 99 (by simp only [go_sem, Nat.reduceLT, Nat.reduceBEq, Nat.reduceLeDiff, Nat.reduceAdd, Nat.reduceMul, Nat.reduceSub, Nat.reduceEqDiff, Int.reduceNeg, Int.reduceToNat, Int.reduceAdd, Int.reduceSub, hw]; try exact rfl) (by simp [go_sem, hw]) ?_
      refine cw_back ⟨i + 1, ⟨by omega, hyes h0⟩, by omega, le_sub ?_ ?_ ?_⟩
      · simp [go_sem]
      · simp [go_sem]
      · simp [go_sem]
  · have e : i = a.length := by simp at h; omega
    subst e
    have hab : sameT false a b = true := (sameT_iff false a b).2 ⟨hl, hs⟩
    refine cw_go tabOK 99 (by simp only [go_sem, Nat.reduceLT, Nat.reduceBEq, Nat.reduceLeDiff, Nat.reduceAdd, Nat.reduceMul, Nat.reduceSub, Nat.reduceEqDiff, Int.reduceNeg, Int.reduceToNat, Int.reduceAdd, Int.reduceSub]; try exact rfl) (by simp [go_sem]) ?_
    refine cw_ret ⟨_, _, (by simp only [go_sem, Nat.reduceLT, Nat.reduceBEq, Nat.reduceLeDiff, Nat.reduceAdd, Nat.reduceMul, Nat.reduceSub, Nat.reduceEqDiff, Int.reduceNeg, Int.reduceToNat, Int.reduceAdd, Int.reduceSub]; try exact rfl), by simp [go_sem], _, .inr (.inl rfl), ?_⟩
    simp [hab]

theorem treeSame_ok (a b : List Node) (ha : Small a) (hb : Small b) : FnOK Try.prog 85 [.sl (a.map nodeRow), .sl (b.map nodeRow)] [] (fun r _ => r = .bool (sameT false a b)) := by
  refine fn_of_cwW tabOK (Go.Proofs.Try.func85) rfl (fun C => ?_)
  simp only [Go.Proofs.Try.ntmps85, Go.Proofs.Try.results85, go_sem, Nat.reduceLT, Nat.reduceBEq, Nat.reduceLeDiff, Nat.reduceAdd, Nat.reduceMul, Nat.reduceSub, Nat.reduceEqDiff, Int.reduceNeg, Int.reduceToNat, Int.reduceAdd, Int.reduceSub]
  refine cw_go tabOK 99 (by simp only [go_sem, Nat.reduceLT, Nat.reduceBEq, Nat.reduceLeDiff, Nat.reduceAdd, Nat.reduceMul, Nat.reduceSub, Nat.reduceEqDiff, Int.reduceNeg, Int.reduceToNat, Int.reduceAdd, Int.reduceSub]; try exact rfl) (by simp [go_sem]) ?_
  refine cw_call rfl rfl (by simp only [go_sem, Nat.reduceLT, Nat.reduceBEq, Nat.reduceLeDiff, Nat.reduceAdd, Nat.reduceMul, Nat.reduceSub, Nat.reduceEqDiff, Int.reduceNeg, Int.reduceToNat, Int.reduceAdd, Int.reduceSub]; try exact rfl) (by simp [go_sem]) ⟨_, Go.Proofs.Try.func131, by kernel_rfl, rfl⟩ (by simp [go_sem]) (equalFunc_ok a b ha hb) (by simp [go_sem]) (by simp only [go_sem, Nat.reduceLT, Nat.reduceBEq, Nat.reduceLeDiff, Nat.reduceAdd, Nat.reduceMul, Nat.reduceSub, Nat.reduceEqDiff, Int.reduceNeg, Int.reduceToNat, Int.reduceAdd, Int.reduceSub]; exact rfl) ?_
  refine cw_go tabOK 99 (by simp only [go_sem, Nat.reduceLT, Nat.reduceBEq, Nat.reduceLeDiff, Nat.reduceAdd, Nat.reduceMul, Nat.reduceSub, Nat.reduceEqDiff, Int.reduceNeg, Int.reduceToNat, Int.reduceAdd, Int.reduceSub]; try exact rfl) (by simp [go_sem]) ?_
  refine cw_ret ⟨_, _, (by simp only [go_sem, Nat.reduceLT, Nat.reduceBEq, Nat.reduceLeDiff, Nat.reduceAdd, Nat.reduceMul, Nat.reduceSub, Nat.reduceEqDiff, Int.reduceNeg, Int.reduceToNat, Int.reduceAdd, Int.reduceSub]; try exact rfl), by simp [go_sem], _, .inr (.inl rfl), ?_⟩
  rfl
end La

namespace La
open Go Go.Eng Go.Proofs
set_option maxRecDepth 10000
set_option linter.unusedSimpArgs false
set_option linter.unusedVariables false

def rootN : Node := ⟨0, true, [], [], 0⟩
def a2N : Node := ⟨3, false, [120], [], 0⟩
def a2R : Node := ⟨0, true, [], [⟨[97], 3⟩], 0⟩
theorem node_small (n : Node) (h1 : n.data.length ≤ 1000) (h2 : n.entries.length ≤ 1000) : n.Small := ⟨by omega, by omega⟩
theorem smallC_of (l : List Node) (h : l.length ≤ 1000) (h2 : ∀ n, n ∈ l → n.data.length ≤ 1000 ∧ n.entries.length ≤ 1000) : Small l := ⟨by omega, fun n hn => node_small n (h2 n hn).1 (h2 n hn).2⟩
theorem a2s0 : Small [rootN] := smallC_of _ (by decide) (by decide)
theorem a2s1 : Small [rootN, a2N] := smallC_of _ (by decide) (by decide)
theorem a2s2 : Small [a2R, a2N] := smallC_of _ (by decide) (by decide)
theorem a2p1 : FnOK Try.prog 32 [.sl ([rootN].map nodeRow), .agg (nodeRow a2N)] [] (fun r _ => r = .sl ([rootN, a2N].map nodeRow)) := put_ok [rootN] a2N a2s0 (a2s1.each _ (by simp))
theorem a2p2 : FnOK Try.prog 37 [.agg (nodeRow rootN), .str [97], .int .i64 3] [] (fun r _ => r = .agg (nodeRow a2R)) := enter_ok rootN [97] 3 (a2s0.each _ (by simp))
theorem a2p3 : FnOK Try.prog 32 [.sl ([rootN, a2N].map nodeRow), .agg (nodeRow a2R)] [] (fun r _ => r = .sl ([a2R, a2N].map nodeRow)) := put_ok [rootN, a2N] a2R a2s1 (a2s2.each _ (by simp))
theorem a2p4 : FnOK Try.prog 33 [.sl ([a2R, a2N].map nodeRow), .int .i64 3] [] (fun r _ => r = .tup [.agg (nodeRow a2N), .bool true]) := find_ok [a2R, a2N] 3 a2s2
theorem a2p5 : FnOK Try.prog 83 [.sl ([a2R, a2N].map nodeRow), .sl ([[97]].map strRow)] [] (fun r _ => r = .tup [.int .i64 3, .int .i64 0]) := walk_ok [a2R, a2N] [[97]] a2s2 (by decide)
theorem a2p6 : FnOK Try.prog 36 [.agg (nodeRow a2R), .str [97]] [] (fun r _ => r = .tup [.int .i64 3, .bool true]) := entry_ok a2R [97] (a2s2.each _ (by simp))
theorem a2p7 : FnOK Try.prog 84 [.sl ([a2R, a2N].map nodeRow), .int .i64 3, .int .i64 0] [] (fun r _ => r = .bool true) := within_ok [a2R, a2N] a2s2 3 2 0 true (by decide)
theorem a2p8 : FnOK Try.prog 84 [.sl ([a2R, a2N].map nodeRow), .int .i64 0, .int .i64 3] [] (fun r _ => r = .bool false) := within_ok [a2R, a2N] a2s2 0 2 3 false (by decide)
theorem a2p9 : FnOK Try.prog 35 [.sl ([a2R, a2N].map nodeRow), .int .i64 3] [] (fun r _ => r = .sl ([a2R].map nodeRow)) := drop_ok [a2R, a2N] 3 a2s2
theorem a2p10 : FnOK Try.prog 38 [.agg (nodeRow a2R), .str [97]] [] (fun r _ => r = .agg (nodeRow rootN)) := leave_ok a2R [97] (a2s2.each _ (by simp))
theorem a2p11 : FnOK Try.prog 86 [.sl ([a2R, a2N].map nodeRow)] [] (fun r _ => r = .sl ([a2R, a2N].map nodeRow)) := own_ok [a2R, a2N] a2s2
theorem a2p12 : FnOK Try.prog 85 [.sl ([a2R, a2N].map nodeRow), .sl ([a2R, a2N].map nodeRow)] [] (fun r _ => r = .bool true) := treeSame_ok [a2R, a2N] [a2R, a2N] a2s2 a2s2

set_option maxHeartbeats 2000000 in
theorem alive2 : FnOK Try.prog 31 [] [] (fun r _ => r = .bool true) := by
  refine fn_of_cwW tabOK (Go.Proofs.Try.func31) rfl (fun C => ?_)
  simp only [Go.Proofs.Try.ntmps31, Go.Proofs.Try.results31, go_sem, Nat.reduceLT, Nat.reduceBEq, Nat.reduceLeDiff, Nat.reduceAdd, Nat.reduceMul, Nat.reduceSub, Nat.reduceEqDiff, Int.reduceNeg, Int.reduceToNat, Int.reduceAdd, Int.reduceSub]
  refine cw_go tabOK 99 (by simp only [go_sem, Nat.reduceLT, Nat.reduceBEq, Nat.reduceLeDiff, Nat.reduceAdd, Nat.reduceMul, Nat.reduceSub, Nat.reduceEqDiff, Int.reduceNeg, Int.reduceToNat, Int.reduceAdd, Int.reduceSub]; try exact rfl) (by simp [go_sem]) ?_
  refine cw_call rfl rfl (by simp only [go_sem, Nat.reduceLT, Nat.reduceBEq, Nat.reduceLeDiff, Nat.reduceAdd, Nat.reduceMul, Nat.reduceSub, Nat.reduceEqDiff, Int.reduceNeg, Int.reduceToNat, Int.reduceAdd, Int.reduceSub]; try exact rfl) (by simp [go_sem]) ⟨_, Go.Proofs.Try.func82, by kernel_rfl, rfl⟩ (by simp [go_sem]) (new_ok) (by simp [go_sem]) (by simp only [go_sem, Nat.reduceLT, Nat.reduceBEq, Nat.reduceLeDiff, Nat.reduceAdd, Nat.reduceMul, Nat.reduceSub, Nat.reduceEqDiff, Int.reduceNeg, Int.reduceToNat, Int.reduceAdd, Int.reduceSub]; exact rfl) ?_
  refine cw_go tabOK 99 (by simp only [go_sem, Nat.reduceLT, Nat.reduceBEq, Nat.reduceLeDiff, Nat.reduceAdd, Nat.reduceMul, Nat.reduceSub, Nat.reduceEqDiff, Int.reduceNeg, Int.reduceToNat, Int.reduceAdd, Int.reduceSub]; try exact rfl) (by simp [go_sem]) ?_
  refine cw_step rfl (trip_bytes tabOK rfl rfl rfl (id := 9) (n := 1) (by simp only [go_sem, Nat.reduceLT, Nat.reduceBEq, Nat.reduceLeDiff, Nat.reduceAdd, Nat.reduceMul, Nat.reduceSub, Nat.reduceEqDiff, Int.reduceNeg, Int.reduceToNat, Int.reduceAdd, Int.reduceSub]; try exact rfl) (by simp only [go_sem, Nat.reduceLT, Nat.reduceBEq, Nat.reduceLeDiff, Nat.reduceAdd, Nat.reduceMul, Nat.reduceSub, Nat.reduceEqDiff, Int.reduceNeg, Int.reduceToNat, Int.reduceAdd, Int.reduceSub]; exact rfl) (by decide) rfl rfl) ?_
  simp only [go_sem, Nat.reduceLT, Nat.reduceBEq, Nat.reduceLeDiff, Nat.reduceAdd, Nat.reduceMul, Nat.reduceSub, Nat.reduceEqDiff, Int.reduceNeg, Int.reduceToNat, Int.reduceAdd, Int.reduceSub]
  refine cw_go tabOK 99 (by simp only [go_sem, Nat.reduceLT, Nat.reduceBEq, Nat.reduceLeDiff, Nat.reduceAdd, Nat.reduceMul, Nat.reduceSub, Nat.reduceEqDiff, Int.reduceNeg, Int.reduceToNat, Int.reduceAdd, Int.reduceSub]; try exact rfl) (by simp [go_sem]) ?_
  refine cw_call rfl rfl (by simp only [go_sem, Nat.reduceLT, Nat.reduceBEq, Nat.reduceLeDiff, Nat.reduceAdd, Nat.reduceMul, Nat.reduceSub, Nat.reduceEqDiff, Int.reduceNeg, Int.reduceToNat, Int.reduceAdd, Int.reduceSub]; try exact rfl) (by simp [go_sem]) ⟨_, Go.Proofs.Try.func32, by kernel_rfl, rfl⟩ (by simp [go_sem]) (by exact FnOK.nrm rfl (a2p1)) (by simp [go_sem]) (by simp only [go_sem, Nat.reduceLT, Nat.reduceBEq, Nat.reduceLeDiff, Nat.reduceAdd, Nat.reduceMul, Nat.reduceSub, Nat.reduceEqDiff, Int.reduceNeg, Int.reduceToNat, Int.reduceAdd, Int.reduceSub]; exact rfl) ?_
  refine cw_go tabOK 99 (by simp only [go_sem, Nat.reduceLT, Nat.reduceBEq, Nat.reduceLeDiff, Nat.reduceAdd, Nat.reduceMul, Nat.reduceSub, Nat.reduceEqDiff, Int.reduceNeg, Int.reduceToNat, Int.reduceAdd, Int.reduceSub]; try exact rfl) (by simp [go_sem]) ?_
  refine cw_condF (by simp only [go_sem, Nat.reduceLT, Nat.reduceBEq, Nat.reduceLeDiff, Nat.reduceAdd, Nat.reduceMul, Nat.reduceSub, Nat.reduceEqDiff, Int.reduceNeg, Int.reduceToNat, Int.reduceAdd, Int.reduceSub]; try exact rfl) trivial (by rfl) ?_
  refine cw_go tabOK 99 (by simp only [go_sem, Nat.reduceLT, Nat.reduceBEq, Nat.reduceLeDiff, Nat.reduceAdd, Nat.reduceMul, Nat.reduceSub, Nat.reduceEqDiff, Int.reduceNeg, Int.reduceToNat, Int.reduceAdd, Int.reduceSub, nodeRow, rootN, a2N]; try exact rfl) ?_ ?_
  · simp [nodeRow]
  refine cw_call rfl rfl (by simp only [go_sem, Nat.reduceLT, Nat.reduceBEq, Nat.reduceLeDiff, Nat.reduceAdd, Nat.reduceMul, Nat.reduceSub, Nat.reduceEqDiff, Int.reduceNeg, Int.reduceToNat, Int.reduceAdd, Int.reduceSub]; try exact rfl) (by simp [go_sem]) ⟨_, Go.Proofs.Try.func37, by kernel_rfl, rfl⟩ (by simp [go_sem]) (a2p2) (by simp [go_sem]) (by simp only [go_sem, Nat.reduceLT, Nat.reduceBEq, Nat.reduceLeDiff, Nat.reduceAdd, Nat.reduceMul, Nat.reduceSub, Nat.reduceEqDiff, Int.reduceNeg, Int.reduceToNat, Int.reduceAdd, Int.reduceSub]; exact rfl) ?_
  refine cw_go tabOK 99 (by simp only [go_sem, Nat.reduceLT, Nat.reduceBEq, Nat.reduceLeDiff, Nat.reduceAdd, Nat.reduceMul, Nat.reduceSub, Nat.reduceEqDiff, Int.reduceNeg, Int.reduceToNat, Int.reduceAdd, Int.reduceSub]; try exact rfl) (by simp [go_sem]) ?_
  refine cw_call rfl rfl (by simp only [go_sem, Nat.reduceLT, Nat.reduceBEq, Nat.reduceLeDiff, Nat.reduceAdd, Nat.reduceMul, Nat.reduceSub, Nat.reduceEqDiff, Int.reduceNeg, Int.reduceToNat, Int.reduceAdd, Int.reduceSub]; try exact rfl) (by simp [go_sem]) ⟨_, Go.Proofs.Try.func32, by kernel_rfl, rfl⟩ (by simp [go_sem]) (a2p3) (by simp [go_sem]) (by simp only [go_sem, Nat.reduceLT, Nat.reduceBEq, Nat.reduceLeDiff, Nat.reduceAdd, Nat.reduceMul, Nat.reduceSub, Nat.reduceEqDiff, Int.reduceNeg, Int.reduceToNat, Int.reduceAdd, Int.reduceSub]; exact rfl) ?_
  refine cw_go tabOK 99 (by simp only [go_sem, Nat.reduceLT, Nat.reduceBEq, Nat.reduceLeDiff, Nat.reduceAdd, Nat.reduceMul, Nat.reduceSub, Nat.reduceEqDiff, Int.reduceNeg, Int.reduceToNat, Int.reduceAdd, Int.reduceSub]; try exact rfl) (by simp [go_sem]) ?_
  refine cw_call rfl rfl (by simp only [go_sem, Nat.reduceLT, Nat.reduceBEq, Nat.reduceLeDiff, Nat.reduceAdd, Nat.reduceMul, Nat.reduceSub, Nat.reduceEqDiff, Int.reduceNeg, Int.reduceToNat, Int.reduceAdd, Int.reduceSub]; try exact rfl) (by simp [go_sem]) ⟨_, Go.Proofs.Try.func33, by kernel_rfl, rfl⟩ (by simp [go_sem]) (a2p4) (by simp [go_sem]) (by simp only [go_sem, Nat.reduceLT, Nat.reduceBEq, Nat.reduceLeDiff, Nat.reduceAdd, Nat.reduceMul, Nat.reduceSub, Nat.reduceEqDiff, Int.reduceNeg, Int.reduceToNat, Int.reduceAdd, Int.reduceSub]; exact rfl) ?_
  refine cw_go tabOK 99 (by simp only [go_sem, Nat.reduceLT, Nat.reduceBEq, Nat.reduceLeDiff, Nat.reduceAdd, Nat.reduceMul, Nat.reduceSub, Nat.reduceEqDiff, Int.reduceNeg, Int.reduceToNat, Int.reduceAdd, Int.reduceSub, nodeRow, a2N]; try exact rfl) ?_ ?_
  · simp [nodeRow]
  refine cw_freeze 29 rfl (rfl) ?_
  simp only [go_sem, Nat.reduceLT, Nat.reduceBEq, Nat.reduceLeDiff, Nat.reduceAdd, Nat.reduceMul, Nat.reduceSub, Nat.reduceEqDiff, Int.reduceNeg, Int.reduceToNat, Int.reduceAdd, Int.reduceSub]
  refine cw_call rfl rfl (by simp only [go_sem, Nat.reduceLT, Nat.reduceBEq, Nat.reduceLeDiff, Nat.reduceAdd, Nat.reduceMul, Nat.reduceSub, Nat.reduceEqDiff, Int.reduceNeg, Int.reduceToNat, Int.reduceAdd, Int.reduceSub]; try exact rfl) (by simp [go_sem]) ⟨_, Go.Proofs.Try.func83, by kernel_rfl, rfl⟩ (by simp [go_sem]) (a2p5) (by simp [go_sem]) (by simp only [go_sem, Nat.reduceLT, Nat.reduceBEq, Nat.reduceLeDiff, Nat.reduceAdd, Nat.reduceMul, Nat.reduceSub, Nat.reduceEqDiff, Int.reduceNeg, Int.reduceToNat, Int.reduceAdd, Int.reduceSub]; exact rfl) ?_
  refine cw_go tabOK 99 (by simp only [go_sem, Nat.reduceLT, Nat.reduceBEq, Nat.reduceLeDiff, Nat.reduceAdd, Nat.reduceMul, Nat.reduceSub, Nat.reduceEqDiff, Int.reduceNeg, Int.reduceToNat, Int.reduceAdd, Int.reduceSub, nodeRow, a2R]; try exact rfl) ?_ ?_
  · simp [nodeRow]
  refine cw_call rfl rfl (by simp only [go_sem, Nat.reduceLT, Nat.reduceBEq, Nat.reduceLeDiff, Nat.reduceAdd, Nat.reduceMul, Nat.reduceSub, Nat.reduceEqDiff, Int.reduceNeg, Int.reduceToNat, Int.reduceAdd, Int.reduceSub]; try exact rfl) (by simp [go_sem]) ⟨_, Go.Proofs.Try.func36, by kernel_rfl, rfl⟩ (by simp [go_sem]) (a2p6) (by simp [go_sem]) (by simp only [go_sem, Nat.reduceLT, Nat.reduceBEq, Nat.reduceLeDiff, Nat.reduceAdd, Nat.reduceMul, Nat.reduceSub, Nat.reduceEqDiff, Int.reduceNeg, Int.reduceToNat, Int.reduceAdd, Int.reduceSub]; exact rfl) ?_
  refine cw_go tabOK 99 (by simp only [go_sem, Nat.reduceLT, Nat.reduceBEq, Nat.reduceLeDiff, Nat.reduceAdd, Nat.reduceMul, Nat.reduceSub, Nat.reduceEqDiff, Int.reduceNeg, Int.reduceToNat, Int.reduceAdd, Int.reduceSub, nodeRow, a2N]; try exact rfl) ?_ ?_
  · simp [nodeRow]
  refine cw_callC rfl (by simp only [go_sem, Nat.reduceLT, Nat.reduceBEq, Nat.reduceLeDiff, Nat.reduceAdd, Nat.reduceMul, Nat.reduceSub, Nat.reduceEqDiff, Int.reduceNeg, Int.reduceToNat, Int.reduceAdd, Int.reduceSub]; try exact rfl) (by simp only [go_sem, Nat.reduceLT, Nat.reduceBEq, Nat.reduceLeDiff, Nat.reduceAdd, Nat.reduceMul, Nat.reduceSub, Nat.reduceEqDiff, Int.reduceNeg, Int.reduceToNat, Int.reduceAdd, Int.reduceSub]; try exact rfl) (by simp [go_sem]) ⟨_, Go.Proofs.Try.func84, by kernel_rfl, rfl⟩ (by simp [go_sem]) (fun hb => (a2p7)) (by simp [go_sem]) (by simp only [go_sem, Nat.reduceLT, Nat.reduceBEq, Nat.reduceLeDiff, Nat.reduceAdd, Nat.reduceMul, Nat.reduceSub, Nat.reduceEqDiff, Int.reduceNeg, Int.reduceToNat, Int.reduceAdd, Int.reduceSub]; exact rfl) ?_
  refine cw_go tabOK 99 (by simp only [go_sem, Nat.reduceLT, Nat.reduceBEq, Nat.reduceLeDiff, Nat.reduceAdd, Nat.reduceMul, Nat.reduceSub, Nat.reduceEqDiff, Int.reduceNeg, Int.reduceToNat, Int.reduceAdd, Int.reduceSub]; try exact rfl) (by simp [go_sem]) ?_
  refine cw_callC rfl (by simp only [go_sem, Nat.reduceLT, Nat.reduceBEq, Nat.reduceLeDiff, Nat.reduceAdd, Nat.reduceMul, Nat.reduceSub, Nat.reduceEqDiff, Int.reduceNeg, Int.reduceToNat, Int.reduceAdd, Int.reduceSub]; try exact rfl) (by simp only [go_sem, Nat.reduceLT, Nat.reduceBEq, Nat.reduceLeDiff, Nat.reduceAdd, Nat.reduceMul, Nat.reduceSub, Nat.reduceEqDiff, Int.reduceNeg, Int.reduceToNat, Int.reduceAdd, Int.reduceSub]; try exact rfl) (by simp [go_sem]) ⟨_, Go.Proofs.Try.func84, by kernel_rfl, rfl⟩ (by simp [go_sem]) (fun hb => (a2p8)) (by simp [go_sem]) (by simp only [go_sem, Nat.reduceLT, Nat.reduceBEq, Nat.reduceLeDiff, Nat.reduceAdd, Nat.reduceMul, Nat.reduceSub, Nat.reduceEqDiff, Int.reduceNeg, Int.reduceToNat, Int.reduceAdd, Int.reduceSub]; exact rfl) ?_
  refine cw_go tabOK 99 (by simp only [go_sem, Nat.reduceLT, Nat.reduceBEq, Nat.reduceLeDiff, Nat.reduceAdd, Nat.reduceMul, Nat.reduceSub, Nat.reduceEqDiff, Int.reduceNeg, Int.reduceToNat, Int.reduceAdd, Int.reduceSub]; try exact rfl) (by simp [go_sem]) ?_
  refine cw_callC rfl (by simp only [go_sem, Nat.reduceLT, Nat.reduceBEq, Nat.reduceLeDiff, Nat.reduceAdd, Nat.reduceMul, Nat.reduceSub, Nat.reduceEqDiff, Int.reduceNeg, Int.reduceToNat, Int.reduceAdd, Int.reduceSub]; try exact rfl) (by simp only [go_sem, Nat.reduceLT, Nat.reduceBEq, Nat.reduceLeDiff, Nat.reduceAdd, Nat.reduceMul, Nat.reduceSub, Nat.reduceEqDiff, Int.reduceNeg, Int.reduceToNat, Int.reduceAdd, Int.reduceSub]; try exact rfl) (by simp [go_sem]) ⟨_, Go.Proofs.Try.func35, by kernel_rfl, rfl⟩ (by simp [go_sem]) (fun hb => (a2p9)) (by simp [go_sem]) (by simp only [go_sem, Nat.reduceLT, Nat.reduceBEq, Nat.reduceLeDiff, Nat.reduceAdd, Nat.reduceMul, Nat.reduceSub, Nat.reduceEqDiff, Int.reduceNeg, Int.reduceToNat, Int.reduceAdd, Int.reduceSub]; exact rfl) ?_
  refine cw_go tabOK 99 (by simp only [go_sem, Nat.reduceLT, Nat.reduceBEq, Nat.reduceLeDiff, Nat.reduceAdd, Nat.reduceMul, Nat.reduceSub, Nat.reduceEqDiff, Int.reduceNeg, Int.reduceToNat, Int.reduceAdd, Int.reduceSub, nodeRow, a2R]; try exact rfl) ?_ ?_
  · simp [go_sem, nodeRow]
  refine cw_callC rfl (by simp only [go_sem, Nat.reduceLT, Nat.reduceBEq, Nat.reduceLeDiff, Nat.reduceAdd, Nat.reduceMul, Nat.reduceSub, Nat.reduceEqDiff, Int.reduceNeg, Int.reduceToNat, Int.reduceAdd, Int.reduceSub]; try exact rfl) (by simp only [go_sem, Nat.reduceLT, Nat.reduceBEq, Nat.reduceLeDiff, Nat.reduceAdd, Nat.reduceMul, Nat.reduceSub, Nat.reduceEqDiff, Int.reduceNeg, Int.reduceToNat, Int.reduceAdd, Int.reduceSub]; try exact rfl) (by simp [go_sem]) ⟨_, Go.Proofs.Try.func38, by kernel_rfl, rfl⟩ (by simp [go_sem]) (fun hb => (a2p10)) (by simp [go_sem]) (by simp only [go_sem, Nat.reduceLT, Nat.reduceBEq, Nat.reduceLeDiff, Nat.reduceAdd, Nat.reduceMul, Nat.reduceSub, Nat.reduceEqDiff, Int.reduceNeg, Int.reduceToNat, Int.reduceAdd, Int.reduceSub]; exact rfl) ?_
  refine cw_go tabOK 99 (by simp only [go_sem, Nat.reduceLT, Nat.reduceBEq, Nat.reduceLeDiff, Nat.reduceAdd, Nat.reduceMul, Nat.reduceSub, Nat.reduceEqDiff, Int.reduceNeg, Int.reduceToNat, Int.reduceAdd, Int.reduceSub, nodeRow, rootN]; try exact rfl) ?_ ?_
  · simp [go_sem, nodeRow]
  refine cw_callC rfl (by simp only [go_sem, Nat.reduceLT, Nat.reduceBEq, Nat.reduceLeDiff, Nat.reduceAdd, Nat.reduceMul, Nat.reduceSub, Nat.reduceEqDiff, Int.reduceNeg, Int.reduceToNat, Int.reduceAdd, Int.reduceSub]; try exact rfl) (by simp only [go_sem, Nat.reduceLT, Nat.reduceBEq, Nat.reduceLeDiff, Nat.reduceAdd, Nat.reduceMul, Nat.reduceSub, Nat.reduceEqDiff, Int.reduceNeg, Int.reduceToNat, Int.reduceAdd, Int.reduceSub]; try exact rfl) (by simp [go_sem]) ⟨_, Go.Proofs.Try.func86, by kernel_rfl, rfl⟩ (by simp [go_sem]) (fun hb => (a2p11)) (by simp [go_sem]) (by simp only [go_sem, Nat.reduceLT, Nat.reduceBEq, Nat.reduceLeDiff, Nat.reduceAdd, Nat.reduceMul, Nat.reduceSub, Nat.reduceEqDiff, Int.reduceNeg, Int.reduceToNat, Int.reduceAdd, Int.reduceSub]; exact rfl) ?_
  refine cw_go tabOK 99 (by simp only [go_sem, Nat.reduceLT, Nat.reduceBEq, Nat.reduceLeDiff, Nat.reduceAdd, Nat.reduceMul, Nat.reduceSub, Nat.reduceEqDiff, Int.reduceNeg, Int.reduceToNat, Int.reduceAdd, Int.reduceSub]; try exact rfl) (by simp [go_sem]) ?_
  refine cw_callC rfl (by simp only [go_sem, Nat.reduceLT, Nat.reduceBEq, Nat.reduceLeDiff, Nat.reduceAdd, Nat.reduceMul, Nat.reduceSub, Nat.reduceEqDiff, Int.reduceNeg, Int.reduceToNat, Int.reduceAdd, Int.reduceSub]; try exact rfl) (by simp only [go_sem, Nat.reduceLT, Nat.reduceBEq, Nat.reduceLeDiff, Nat.reduceAdd, Nat.reduceMul, Nat.reduceSub, Nat.reduceEqDiff, Int.reduceNeg, Int.reduceToNat, Int.reduceAdd, Int.reduceSub]; try exact rfl) (by simp [go_sem]) ⟨_, Go.Proofs.Try.func85, by kernel_rfl, rfl⟩ (by simp [go_sem]) (fun hb => (a2p12)) (by simp [go_sem]) (by simp only [go_sem, Nat.reduceLT, Nat.reduceBEq, Nat.reduceLeDiff, Nat.reduceAdd, Nat.reduceMul, Nat.reduceSub, Nat.reduceEqDiff, Int.reduceNeg, Int.reduceToNat, Int.reduceAdd, Int.reduceSub]; exact rfl) ?_
  refine cw_go tabOK 99 (by simp only [go_sem, Nat.reduceLT, Nat.reduceBEq, Nat.reduceLeDiff, Nat.reduceAdd, Nat.reduceMul, Nat.reduceSub, Nat.reduceEqDiff, Int.reduceNeg, Int.reduceToNat, Int.reduceAdd, Int.reduceSub]; try exact rfl) (by simp [go_sem]) ?_
  refine cw_ret ⟨_, _, (by simp only [go_sem, Nat.reduceLT, Nat.reduceBEq, Nat.reduceLeDiff, Nat.reduceAdd, Nat.reduceMul, Nat.reduceSub, Nat.reduceEqDiff, Int.reduceNeg, Int.reduceToNat, Int.reduceAdd, Int.reduceSub]; try exact rfl), by simp [go_sem], _, .inr (.inl rfl), ?_⟩
  rfl
end La

namespace La
open Go Go.Eng Go.Proofs
set_option maxRecDepth 10000
set_option linter.unusedSimpArgs false

theorem rec_indexFunc (l : List Rec) (hlen : l.length ≤ 100000000) {f : FuncId} {caps : List AV} {p : Rec → Bool} (hcal : Callable Try.prog f) (hpure : (caps.all AV.pureB) = true)
    (hf : ∀ x, x ∈ l → FnOK Try.prog f (.agg (recRow x) :: caps) [] (fun r _ => r = .bool (p x))) :
    FnOK Try.prog 127 [.sl (l.map recRow), .fn f caps] [] (fun r _ => r = .int .i64 (idxI (l.findIdx? p))) := by
  have hcaps := refsL_pure hpure
  refine fn_of_cwW tabOK (Go.Proofs.Try.func127) rfl (fun C => ?_)
  simp only [Go.Proofs.Try.ntmps127, Go.Proofs.Try.results127, go_sem, Nat.reduceLT, Nat.reduceBEq, Nat.reduceLeDiff, Nat.reduceAdd, Nat.reduceMul, Nat.reduceSub, Nat.reduceEqDiff, Int.reduceNeg, Int.reduceToNat, Int.reduceAdd, Int.reduceSub]
  refine cw_go tabOK 99 (by simp only [go_sem, Nat.reduceLT, Nat.reduceBEq, Nat.reduceLeDiff, Nat.reduceAdd, Nat.reduceMul, Nat.reduceSub, Nat.reduceEqDiff, Int.reduceNeg, Int.reduceToNat, Int.reduceAdd, Int.reduceSub]; try exact rfl) (by simp [go_sem]) ?_
  refine cw_loopS (fun i : Nat => i ≤ l.length ∧ ∀ x, x ∈ l.take i → p x = false) (fun i => l.length - i) (fun i => [(8, .int .i64 i), (5, .any), (9, .any), (10, .any), (11, .any), (12, .any), (13, .any), (14, .any), (15, .any), (16, .any), (17, .any), (18, .any)]) (fun _ => []) 0 ⟨by omega, by simp⟩ ?_ fun i hi => ?_
  · simp only [go_sem, Nat.reduceLT, Nat.reduceBEq, Nat.reduceLeDiff, Nat.reduceAdd, Nat.reduceMul, Nat.reduceSub, Nat.reduceEqDiff, Int.reduceNeg, Int.reduceToNat, Int.reduceAdd, Int.reduceSub]
    exact le_sub (by simp [go_sem]) (by simp [go_sem]) (by simp [go_sem, hcaps])
  obtain ⟨hi, hno⟩ := hi
  simp only [go_sem, Nat.reduceLT, Nat.reduceBEq, Nat.reduceLeDiff, Nat.reduceAdd, Nat.reduceMul, Nat.reduceSub, Nat.reduceEqDiff, Int.reduceNeg, Int.reduceToNat, Int.reduceAdd, Int.reduceSub]
  refine cw_go tabOK 99 (by simp only [go_sem, Nat.reduceLT, Nat.reduceBEq, Nat.reduceLeDiff, Nat.reduceAdd, Nat.reduceMul, Nat.reduceSub, Nat.reduceEqDiff, Int.reduceNeg, Int.reduceToNat, Int.reduceAdd, Int.reduceSub]; try exact rfl) (by simp [go_sem]) ?_
  refine cw_cond (by simp only [go_sem, Nat.reduceLT, Nat.reduceBEq, Nat.reduceLeDiff, Nat.reduceAdd, Nat.reduceMul, Nat.reduceSub, Nat.reduceEqDiff, Int.reduceNeg, Int.reduceToNat, Int.reduceAdd, Int.reduceSub]; try exact rfl) trivial (fun h => ?_) (fun h => ?_)
  · have hlt : i < l.length := by simp at h; omega
    have hn := hf _ (getD_mem hlt)
    have hg : (l.map recRow).getD i [] = recRow (l.getD i default) := Fam.getD hlt
    have htk := take_succ_getD hlt
    have hgi : l[i]? = some (l.getD i default) := by rw [List.getD_eq_getElem?_getD, List.getElem?_eq_getElem hlt]; rfl
    generalize l.getD i default = n at hn hg htk hgi
    refine cw_go tabOK 99 (by simp only [go_sem, Nat.reduceLT, Nat.reduceBEq, Nat.reduceLeDiff, Nat.reduceAdd, Nat.reduceMul, Nat.reduceSub, Nat.reduceEqDiff, Int.reduceNeg, Int.reduceToNat, Int.reduceAdd, Int.reduceSub, hg, recRow]; try exact rfl) ?_ ?_
    · simp [hlt, recRow]
    refine cw_call rfl rfl (by simp only [go_sem, Nat.reduceLT, Nat.reduceBEq, Nat.reduceLeDiff, Nat.reduceAdd, Nat.reduceMul, Nat.reduceSub, Nat.reduceEqDiff, Int.reduceNeg, Int.reduceToNat, Int.reduceAdd, Int.reduceSub]; try exact rfl) (by simp [go_sem]) hcal (by simp [go_sem, hcaps]) (hn) (by simp [go_sem]) (by simp only [go_sem, Nat.reduceLT, Nat.reduceBEq, Nat.reduceLeDiff, Nat.reduceAdd, Nat.reduceMul, Nat.reduceSub, Nat.reduceEqDiff, Int.reduceNeg, Int.reduceToNat, Int.reduceAdd, Int.reduceSub]; exact rfl) ?_
    refine cw_go tabOK 99 (by simp only [go_sem, Nat.reduceLT, Nat.reduceBEq, Nat.reduceLeDiff, Nat.reduceAdd, Nat.reduceMul, Nat.reduceSub, Nat.reduceEqDiff, Int.reduceNeg, Int.reduceToNat, Int.reduceAdd, Int.reduceSub]; try exact rfl) (by simp [go_sem]) ?_
    refine cw_cond (by simp only [go_sem, Nat.reduceLT, Nat.reduceBEq, Nat.reduceLeDiff, Nat.reduceAdd, Nat.reduceMul, Nat.reduceSub, Nat.reduceEqDiff, Int.reduceNeg, Int.reduceToNat, Int.reduceAdd, Int.reduceSub]; try exact rfl) trivial (fun h => ?_) (fun h => ?_)
    · refine cw_go tabOK 99 (by simp only [go_sem, Nat.reduceLT, Nat.reduceBEq, Nat.reduceLeDiff, Nat.reduceAdd, Nat.reduceMul, Nat.reduceSub, Nat.reduceEqDiff, Int.reduceNeg, Int.reduceToNat, Int.reduceAdd, Int.reduceSub]; try exact rfl) (by simp [go_sem]) ?_
      refine cw_ret ⟨_, _, (by simp only [go_sem, Nat.reduceLT, Nat.reduceBEq, Nat.reduceLeDiff, Nat.reduceAdd, Nat.reduceMul, Nat.reduceSub, Nat.reduceEqDiff, Int.reduceNeg, Int.reduceToNat, Int.reduceAdd, Int.reduceSub]; try exact rfl), by simp [go_sem], _, .inr (.inl rfl), ?_⟩
      rw [findIdx_at hgi hno h]; rfl
    · have hw : IntKind.i64.wrap ((i : Int) + 1) = (i : Int) + 1 := wrap_small (by omega) (by omega)
      refine cw_go tabOK 99 (by simp only [go_sem, Nat.reduceLT, Nat.reduceBEq, Nat.reduceLeDiff, Nat.reduceAdd, Nat.reduceMul, Nat.reduceSub, Nat.reduceEqDiff, Int.reduceNeg, Int.reduceToNat, Int.reduceAdd, Int.reduceSub, hw]; try exact rfl) (by simp [go_sem, hw]) ?_
      refine cw_back ⟨i + 1, ⟨by omega, ?_⟩, by omega, le_sub ?_ ?_ ?_⟩
      · rw [htk]
        intro x hx
        rcases List.mem_append.1 hx with hx | hx
        · exact hno x hx
        · rw [List.mem_singleton.1 hx]; exact h
      · simp [go_sem]
      · simp [go_sem]
      · simp [go_sem, hcaps]
  · have e : i = l.length := by simp at h; omega
    refine cw_go tabOK 99 (by simp only [go_sem, Nat.reduceLT, Nat.reduceBEq, Nat.reduceLeDiff, Nat.reduceAdd, Nat.reduceMul, Nat.reduceSub, Nat.reduceEqDiff, Int.reduceNeg, Int.reduceToNat, Int.reduceAdd, Int.reduceSub]; try exact rfl) (by simp [go_sem]) ?_
    refine cw_ret ⟨_, _, (by simp only [go_sem, Nat.reduceLT, Nat.reduceBEq, Nat.reduceLeDiff, Nat.reduceAdd, Nat.reduceMul, Nat.reduceSub, Nat.reduceEqDiff, Int.reduceNeg, Int.reduceToNat, Int.reduceAdd, Int.reduceSub]; try exact rfl), by simp [go_sem], _, .inr (.inl rfl), ?_⟩
    rw [e, List.take_length] at hno
    rw [List.findIdx?_eq_none_iff.2 hno]; rfl

theorem rec_containsFunc (l : List Rec) (hlen : l.length ≤ 100000000) {f : FuncId} {caps : List AV} {p : Rec → Bool} (hcal : Callable Try.prog f) (hpure : (caps.all AV.pureB) = true)
    (hf : ∀ x, x ∈ l → FnOK Try.prog f (.agg (recRow x) :: caps) [] (fun r _ => r = .bool (p x))) :
    FnOK Try.prog 124 [.sl (l.map recRow), .fn f caps] [] (fun r _ => r = .bool (l.any p)) := by
  have hcaps := refsL_pure hpure
  refine fn_of_cwW tabOK (Go.Proofs.Try.func124) rfl (fun C => ?_)
  simp only [Go.Proofs.Try.ntmps124, Go.Proofs.Try.results124, go_sem, Nat.reduceLT, Nat.reduceBEq, Nat.reduceLeDiff, Nat.reduceAdd, Nat.reduceMul, Nat.reduceSub, Nat.reduceEqDiff, Int.reduceNeg, Int.reduceToNat, Int.reduceAdd, Int.reduceSub]
  refine cw_go tabOK 99 (by simp only [go_sem, Nat.reduceLT, Nat.reduceBEq, Nat.reduceLeDiff, Nat.reduceAdd, Nat.reduceMul, Nat.reduceSub, Nat.reduceEqDiff, Int.reduceNeg, Int.reduceToNat, Int.reduceAdd, Int.reduceSub]; try exact rfl) (by simp [go_sem]) ?_
  refine cw_call rfl rfl (by simp only [go_sem, Nat.reduceLT, Nat.reduceBEq, Nat.reduceLeDiff, Nat.reduceAdd, Nat.reduceMul, Nat.reduceSub, Nat.reduceEqDiff, Int.reduceNeg, Int.reduceToNat, Int.reduceAdd, Int.reduceSub]; try exact rfl) (by simp [go_sem]) ⟨_, Go.Proofs.Try.func127, by kernel_rfl, rfl⟩ (by simp [go_sem, hcaps]) (rec_indexFunc l hlen hcal hpure hf) (by simp [go_sem]) (by simp only [go_sem, Nat.reduceLT, Nat.reduceBEq, Nat.reduceLeDiff, Nat.reduceAdd, Nat.reduceMul, Nat.reduceSub, Nat.reduceEqDiff, Int.reduceNeg, Int.reduceToNat, Int.reduceAdd, Int.reduceSub]; exact rfl) ?_
  refine cw_go tabOK 99 (by simp only [go_sem, Nat.reduceLT, Nat.reduceBEq, Nat.reduceLeDiff, Nat.reduceAdd, Nat.reduceMul, Nat.reduceSub, Nat.reduceEqDiff, Int.reduceNeg, Int.reduceToNat, Int.reduceAdd, Int.reduceSub]; try exact rfl) (by simp [go_sem]) ?_
  refine cw_ret ⟨_, _, (by simp only [go_sem, Nat.reduceLT, Nat.reduceBEq, Nat.reduceLeDiff, Nat.reduceAdd, Nat.reduceMul, Nat.reduceSub, Nat.reduceEqDiff, Int.reduceNeg, Int.reduceToNat, Int.reduceAdd, Int.reduceSub]; try exact rfl), by simp [go_sem], _, .inr (.inl rfl), ?_⟩
  rw [idxI_any]

theorem rec_deleteFunc (l : List Rec) (hlen : l.length ≤ 100000000) (id : Nat) {f : FuncId} {caps : List AV} {p : Rec → Bool} (hcal : Callable Try.prog f) (hpure : (caps.all AV.pureB) = true) (hid : id ≠ 7)
    (hf : ∀ x, x ∈ l → FnOK Try.prog f (.agg (recRow x) :: caps) [] (fun r _ => r = .bool (p x))) :
    FnOK Try.prog 68 [.osl id 9 0 l.length, .fn f caps] [(id, .cells 27 9 (l.map recRow))] (fun r H => r = .osl id 9 0 (l.filter fun x => !p x).length ∧
      ∀ i b, hget [(id, .cells 27 9 ((l.filter fun x => !p x).map recRow ++ List.replicate (l.length - (l.filter fun x => !p x).length) [.int .i64 0, .int .i64 0, .int .i64 0, .str [], .int .i64 0, .str [], .nils, .int .i64 0, .int .i64 0]))] i = some b → hget H i = some b) := by
  have hcaps := refsL_pure hpure
  obtain ⟨q, hv, hq⟩ := viewL_pure hpure
  refine fn_of_cwW tabOK (Go.Proofs.Try.func68) rfl (fun C => ?_)
  simp only [Go.Proofs.Try.ntmps68, Go.Proofs.Try.results68, go_sem, Nat.reduceLT, Nat.reduceBEq, Nat.reduceLeDiff, Nat.reduceAdd, Nat.reduceMul, Nat.reduceSub, Nat.reduceEqDiff, Int.reduceNeg, Int.reduceToNat, Int.reduceAdd, Int.reduceSub]
  refine cw_go tabOK 99 (by simp only [go_sem, Nat.reduceLT, Nat.reduceBEq, Nat.reduceLeDiff, Nat.reduceAdd, Nat.reduceMul, Nat.reduceSub, Nat.reduceEqDiff, Int.reduceNeg, Int.reduceToNat, Int.reduceAdd, Int.reduceSub]; try exact rfl) (by simp [go_sem]) ?_
  refine cw_view rfl rfl (by simp only [go_sem, Nat.reduceLT, Nat.reduceBEq, Nat.reduceLeDiff, Nat.reduceAdd, Nat.reduceMul, Nat.reduceSub, Nat.reduceEqDiff, Int.reduceNeg, Int.reduceToNat, Int.reduceAdd, Int.reduceSub]; try exact rfl) (by simp [go_sem]) (by simp only [go_sem, hv, hq]; exact rfl) (by simp [go_sem, hv, hq]) ⟨_, Go.Proofs.Try.func127, by kernel_rfl, rfl⟩ (rec_indexFunc l hlen hcal hpure hf) (by simp [go_sem]) (by simp only [go_sem, Nat.reduceLT, Nat.reduceBEq, Nat.reduceLeDiff, Nat.reduceAdd, Nat.reduceMul, Nat.reduceSub, Nat.reduceEqDiff, Int.reduceNeg, Int.reduceToNat, Int.reduceAdd, Int.reduceSub]; exact rfl) ?_
  refine cw_go tabOK 99 (by simp only [go_sem, Nat.reduceLT, Nat.reduceBEq, Nat.reduceLeDiff, Nat.reduceAdd, Nat.reduceMul, Nat.reduceSub, Nat.reduceEqDiff, Int.reduceNeg, Int.reduceToNat, Int.reduceAdd, Int.reduceSub]; try exact rfl) (by simp [go_sem]) ?_
  refine cw_cond (by simp only [go_sem, Nat.reduceLT, Nat.reduceBEq, Nat.reduceLeDiff, Nat.reduceAdd, Nat.reduceMul, Nat.reduceSub, Nat.reduceEqDiff, Int.reduceNeg, Int.reduceToNat, Int.reduceAdd, Int.reduceSub]; try exact rfl) trivial (fun h => ?_) (fun h => ?_)
  · refine cw_go tabOK 99 (by simp only [go_sem, Nat.reduceLT, Nat.reduceBEq, Nat.reduceLeDiff, Nat.reduceAdd, Nat.reduceMul, Nat.reduceSub, Nat.reduceEqDiff, Int.reduceNeg, Int.reduceToNat, Int.reduceAdd, Int.reduceSub]; try exact rfl) (by simp [go_sem]) ?_
    refine cw_ret ⟨_, _, (by simp only [go_sem, Nat.reduceLT, Nat.reduceBEq, Nat.reduceLeDiff, Nat.reduceAdd, Nat.reduceMul, Nat.reduceSub, Nat.reduceEqDiff, Int.reduceNeg, Int.reduceToNat, Int.reduceAdd, Int.reduceSub]; try exact rfl), by simp [go_sem], _, .inr (.inl rfl), ?_⟩
    have hn : l.findIdx? p = none := by
      cases e : l.findIdx? p with
      | none => rfl
      | some k => rw [e] at h; simp [idxI] at h
    have hfl : l.filter (fun x => !p x) = l := List.filter_eq_self.2 fun x hx => by
      simp [List.findIdx?_eq_none_iff.1 hn x hx]
    rw [hfl]
    simp [hget]
  obtain ⟨k, hk⟩ : ∃ k, l.findIdx? p = some k := by
    cases e : l.findIdx? p with
    | none => rw [e] at h; simp [idxI] at h
    | some k => exact ⟨k, rfl⟩
  have hkl : k < l.length := (List.findIdx?_eq_some_iff_getElem.1 hk).1
  have hsp := filter_split hk
  rw [hk]
  have hw : IntKind.i64.wrap ((k : Int) + 1) = ((k + 1 : Nat) : Int) := by rw [Eng.wrap_small (by omega) (by omega)]; rfl
  simp only [idxI]
  refine cw_go tabOK 99 (by simp only [go_sem, Nat.reduceLT, Nat.reduceBEq, Nat.reduceLeDiff, Nat.reduceAdd, Nat.reduceMul, Nat.reduceSub, Nat.reduceEqDiff, Int.reduceNeg, Int.reduceToNat, Int.reduceAdd, Int.reduceSub, hw]; try exact rfl) (by simp [go_sem, hw]) ?_
  refine cw_loopS (fun s : Nat × List Rec => DelInv p l s.1 s.2) (fun s => l.length - s.1) (fun s => [(5, .int .i64 (((l.take s.1).filter fun x => !p x).length : Nat)), (6, .int .i64 (s.1 : Nat)), (7, .any), (16, .any), (17, .any), (18, .any), (19, .any), (20, .any), (21, .any), (22, .any), (23, .any), (24, .any), (25, .any), (26, .any), (27, .any), (28, .any), (29, .any), (30, .any), (31, .any), (32, .any), (33, .any), (34, .any), (35, .any)]) (fun s => [(id, .cells 27 9 (s.2.map recRow))]) (k + 1, l) (DelInv.start hk) ?_ fun s hs => ?_
  · have el : ((l.take (k + 1)).filter fun x => !p x).length = k := by rw [hsp]; simp; omega
    simp only [go_sem, Nat.reduceLT, Nat.reduceBEq, Nat.reduceLeDiff, Nat.reduceAdd, Nat.reduceMul, Nat.reduceSub, Nat.reduceEqDiff, Int.reduceNeg, Int.reduceToNat, Int.reduceAdd, Int.reduceSub, el]
    exact le_sub (by simp [go_sem]) (by simp [go_sem]) (by simp [go_sem, hcaps])
  obtain ⟨j, L⟩ := s
  have hjl := hs.le
  have hL := hs.len
  have hlt := hs.lt
  simp only at hs hjl hL hlt
  simp only [go_sem, Nat.reduceLT, Nat.reduceBEq, Nat.reduceLeDiff, Nat.reduceAdd, Nat.reduceMul, Nat.reduceSub, Nat.reduceEqDiff, Int.reduceNeg, Int.reduceToNat, Int.reduceAdd, Int.reduceSub]
  refine cw_go tabOK 99 (by simp only [go_sem, Nat.reduceLT, Nat.reduceBEq, Nat.reduceLeDiff, Nat.reduceAdd, Nat.reduceMul, Nat.reduceSub, Nat.reduceEqDiff, Int.reduceNeg, Int.reduceToNat, Int.reduceAdd, Int.reduceSub]; try exact rfl) (by simp [go_sem]) ?_
  refine cw_cond (by simp only [go_sem, Nat.reduceLT, Nat.reduceBEq, Nat.reduceLeDiff, Nat.reduceAdd, Nat.reduceMul, Nat.reduceSub, Nat.reduceEqDiff, Int.reduceNeg, Int.reduceToNat, Int.reduceAdd, Int.reduceSub]; try exact rfl) trivial (fun h => ?_) (fun h => ?_)
  · have hj : j < l.length := by simp at h; omega
    have hn := hf _ (getD_mem hj)
    have hg : (L.map recRow).getD j [] = recRow (l.getD j default) := by rw [Fam.getD (by omega), hs.get hj]
    have hkeep := hs.keep hj
    have hskip := hs.skip hj
    have htk := take_succ_getD hj
    generalize l.getD j default = n at hn hg hkeep hskip htk
    refine cw_go tabOK 99 (by simp only [go_sem, Nat.reduceLT, Nat.reduceBEq, Nat.reduceLeDiff, Nat.reduceAdd, Nat.reduceMul, Nat.reduceSub, Nat.reduceEqDiff, Int.reduceNeg, Int.reduceToNat, Int.reduceAdd, Int.reduceSub, hg, recRow, hid, Ne.symm hid]; try exact rfl) ?_ ?_
    · simp [recRow]; omega
    refine cw_call rfl rfl (by simp only [go_sem, Nat.reduceLT, Nat.reduceBEq, Nat.reduceLeDiff, Nat.reduceAdd, Nat.reduceMul, Nat.reduceSub, Nat.reduceEqDiff, Int.reduceNeg, Int.reduceToNat, Int.reduceAdd, Int.reduceSub]; try exact rfl) (by simp [go_sem]) hcal (by simp [go_sem, hcaps]) (hn) (by simp [go_sem]) (by simp only [go_sem, Nat.reduceLT, Nat.reduceBEq, Nat.reduceLeDiff, Nat.reduceAdd, Nat.reduceMul, Nat.reduceSub, Nat.reduceEqDiff, Int.reduceNeg, Int.reduceToNat, Int.reduceAdd, Int.reduceSub]; exact rfl) ?_
    generalize hm : ((l.take j).filter fun x => !p x).length = m at hkeep hlt
    have hw1 : IntKind.i64.wrap ((j : Int) + 1) = ((j + 1 : Nat) : Int) := by rw [Eng.wrap_small (by omega) (by omega)]; rfl
    have hw2 : IntKind.i64.wrap ((m : Int) + 1) = ((m + 1 : Nat) : Int) := by rw [Eng.wrap_small (by omega) (by omega)]; rfl
    refine cw_go tabOK 99 (by simp only [go_sem, Nat.reduceLT, Nat.reduceBEq, Nat.reduceLeDiff, Nat.reduceAdd, Nat.reduceMul, Nat.reduceSub, Nat.reduceEqDiff, Int.reduceNeg, Int.reduceToNat, Int.reduceAdd, Int.reduceSub, hm]; try exact rfl) (by simp [go_sem, hm]) ?_
    refine cw_cond (by simp only [go_sem, Nat.reduceLT, Nat.reduceBEq, Nat.reduceLeDiff, Nat.reduceAdd, Nat.reduceMul, Nat.reduceSub, Nat.reduceEqDiff, Int.reduceNeg, Int.reduceToNat, Int.reduceAdd, Int.reduceSub]; try exact rfl) trivial (fun h => ?_) (fun h => ?_)
    · have hp : p n = false := by simpa using h
      obtain ⟨hk1, hk2⟩ := hkeep hp
      have hset := set_map recRow L m n
      simp only [recRow] at hset
      have hgl : (L.map recRow).getD m [] = recRow (L.getD m default) := Fam.getD (by omega)
      simp only [recRow] at hgl
      refine cw_go tabOK 99 (by simp only [go_sem, Nat.reduceLT, Nat.reduceBEq, Nat.reduceLeDiff, Nat.reduceAdd, Nat.reduceMul, Nat.reduceSub, Nat.reduceEqDiff, Int.reduceNeg, Int.reduceToNat, Int.reduceAdd, Int.reduceSub, hw1, hw2, hm, hid, Ne.symm hid, hgl, hset]; try exact rfl) ?_ ?_
      · simp [hid, Ne.symm hid]; omega
      refine cw_back ⟨(j + 1, L.set m n), hk1, by simp only; omega, le_sub ?_ ?_ ?_⟩
      · simp [go_sem, hk2]
      · simp [go_sem, hid, Ne.symm hid, hset]
      · simp [go_sem, hcaps, -List.map_set]
    · have hp : p n = true := by simpa using h
      refine cw_go tabOK 99 (by simp only [go_sem, Nat.reduceLT, Nat.reduceBEq, Nat.reduceLeDiff, Nat.reduceAdd, Nat.reduceMul, Nat.reduceSub, Nat.reduceEqDiff, Int.reduceNeg, Int.reduceToNat, Int.reduceAdd, Int.reduceSub, hw1, hid, Ne.symm hid]; try exact rfl) (by simp [go_sem, hw1, hid, Ne.symm hid]) ?_
      have hsame : ((l.take (j + 1)).filter fun x => !p x).length = m := by
        rw [← hm, htk, List.filter_append]
        simp only [List.filter_cons, hp, Bool.not_true, Bool.false_eq_true, if_false, List.filter_nil, List.append_nil]
      refine cw_back ⟨(j + 1, L), hskip hp, by simp only; omega, le_sub ?_ ?_ ?_⟩
      · simp [go_sem, hsame, hm]
      · simp [go_sem, hid, Ne.symm hid]
      · simp [go_sem, hcaps]
  have e : j = l.length := by simp at h; omega
  subst e
  have hfin := hs.fin
  rw [List.take_length]
  generalize hd : (l.filter fun x => !p x) = d at *
  have hdl : d.length ≤ l.length := by rw [← hd]; exact List.length_filter_le _ _
  have hcl := clear_rows recRow (d := d) (L := L) [.int .i64 0, .int .i64 0, .int .i64 0, .str [], .int .i64 0, .str [], .nils, .int .i64 0, .int .i64 0] hfin (by omega)
  rw [hL] at hcl
  refine cw_go tabOK 99 (by simp only [go_sem, Nat.reduceLT, Nat.reduceBEq, Nat.reduceLeDiff, Nat.reduceAdd, Nat.reduceMul, Nat.reduceSub, Nat.reduceEqDiff, Int.reduceNeg, Int.reduceToNat, Int.reduceAdd, Int.reduceSub, hid, Ne.symm hid, hcl]; try exact rfl) ?_ ?_
  · simp only [not_false_eq_true, true_and]
    omega
  refine cw_ret ⟨_, _, (by simp only [go_sem, Nat.reduceLT, Nat.reduceBEq, Nat.reduceLeDiff, Nat.reduceAdd, Nat.reduceMul, Nat.reduceSub, Nat.reduceEqDiff, Int.reduceNeg, Int.reduceToNat, Int.reduceAdd, Int.reduceSub]; try exact rfl), by simp [go_sem], _, .inr (.inl rfl), ?_⟩
  simp [hget]

end La

namespace La

def fids (a : Act) : List Int := if a.kind = 3 then [a.fid] else if a.kind = 5 then [a.fid, a.dir, a.to] else [a.fid, a.dir]
def Rec.names (r : Rec) (fid : Int) : Bool := (fids r.act).contains fid
def isMade (fid : Int) (r : Rec) : Bool := r.act.fid == fid && (r.act.kind == 1 || r.act.kind == 2)
def touches (a : Act) (dir : Int) (name : List UInt8) : Bool :=
  if a.kind = 1 ∨ a.kind = 2 ∨ a.kind = 4 then a.dir == dir && a.name == name
  else if a.kind = 5 then (a.dir == dir && a.name == name) || (a.to == dir && a.toName == name) else false
/-- a record behind the making one bars that both go -/
def bars (fid dir : Int) (name : List UInt8) (x : Rec) : Bool := (x.act.kind != 3 && x.names fid) || touches x.act dir name
def cancels (l : List Rec) (r : Rec) : Bool :=
  match l.findIdx? (isMade r.act.fid) with
  | none => false
  | some k => r.act.kind == 4 && (l.getD k default).act.dir == r.act.dir && (l.getD k default).act.name == r.act.name && !((l.drop (k + 1)).any (bars r.act.fid (l.getD k default).act.dir (l.getD k default).act.name))
def stored (r x : Rec) : Bool := x.act.kind == 3 && x.act.fid == r.act.fid
def unstored (l : List Rec) (r : Rec) : List Rec := if r.act.kind = 3 then l.filter fun x => !(stored r x) else l
/-- none: there is no room -/
def addLog (l : List Rec) (r : Rec) : Option (List Rec) :=
  if cancels l r then some (l.filter fun x => !(x.names r.act.fid))
  else if (unstored l r).length ≥ 20 then none else some (unstored l r ++ [r])

theorem unstored_sub (l : List Rec) (r : Rec) : (unstored l r).Sublist l := by
  unfold unstored
  split
  · exact List.filter_sublist
  · exact List.Sublist.refl _

/-! ### What the document's answer does: one pass, with a state -/

def addStep (r : Rec) (s : Int) (x : Rec) : Int :=
  if s = 0 then (if isMade r.act.fid x then (if x.act.dir = r.act.dir ∧ x.act.name = r.act.name then 1 else 2) else 0)
  else if s = 1 then (if bars r.act.fid r.act.dir r.act.name x then 2 else 1) else s

theorem addStep_two (r : Rec) : ∀ l : List Rec, l.foldl (addStep r) 2 = 2
  | [] => rfl
  | x :: l => by simp only [List.foldl_cons]; rw [show addStep r 2 x = 2 from by simp [addStep]]; exact addStep_two r l

theorem addStep_one (r : Rec) : ∀ l : List Rec, l.foldl (addStep r) 1 = if l.any (bars r.act.fid r.act.dir r.act.name) then 2 else 1
  | [] => rfl
  | x :: l => by
    simp only [List.foldl_cons, List.any_cons]
    by_cases h : bars r.act.fid r.act.dir r.act.name x = true
    · rw [show addStep r 1 x = 2 from by simp [addStep, h], addStep_two]; simp [h]
    · rw [show addStep r 1 x = 1 from by simp [addStep, h], addStep_one]; simp [h]

/-- the state at the end tells whether both go -/
theorem addStep_cancels (r : Rec) (hk : r.act.kind = 4) : ∀ l : List Rec, (l.foldl (addStep r) 0 == 1) = cancels l r
  | [] => rfl
  | x :: l => by
    have ih := addStep_cancels r hk l
    simp only [List.foldl_cons]
    unfold cancels at ih ⊢
    rw [List.findIdx?_cons]
    by_cases h : isMade r.act.fid x = true
    · simp only [h, if_true]
      by_cases h2 : x.act.dir = r.act.dir ∧ x.act.name = r.act.name
      · rw [show addStep r 0 x = 1 from by simp [addStep, h, h2], addStep_one]
        simp only [List.getD_cons_zero, h2.1, h2.2, hk, List.drop_succ_cons, List.drop_zero, Nat.zero_add]
        cases (l.any (bars r.act.fid r.act.dir r.act.name)) <;> simp
      · rw [show addStep r 0 x = 2 from by simp only [addStep, h, if_true, if_neg h2], addStep_two]
        simp only [List.getD_cons_zero]
        by_cases h3 : x.act.dir = r.act.dir
        · have h4 : ¬ x.act.name = r.act.name := fun e => h2 ⟨h3, e⟩
          simp [h4]
        · simp [h3]
    · rw [show addStep r 0 x = 0 from by simp [addStep, h], ih]
      simp only [h, if_false, Bool.false_eq_true]
      cases e : l.findIdx? (isMade r.act.fid) with
      | none => simp
      | some k => simp

/-- what the law LogsOrder asks -/
theorem addLog_order {l x : List Rec} {r : Rec} (h : addLog l r = some x) : (if x.getLast? = some r then x.dropLast else x).Sublist l := by
  unfold addLog at h
  split at h
  · simp only [Option.some.injEq] at h
    subst h
    split
    · exact (List.dropLast_sublist _).trans List.filter_sublist
    · exact List.filter_sublist
  · split at h
    · cases h
    · simp only [Option.some.injEq] at h
      subst h
      rw [if_pos (by simp), List.dropLast_concat]
      exact unstored_sub l r

theorem addLog_none {l : List Rec} {r : Rec} (h : addLog l r = none) : 20 ≤ l.length := by
  unfold addLog at h
  split at h
  · cases h
  · split at h
    · rename_i h2
      have := (unstored_sub l r).length_le
      omega
    · cases h

theorem addLog_short {l x : List Rec} {r : Rec} (h : addLog l r = some x) : x.length ≤ l.length + 1 := by
  unfold addLog at h
  split at h
  · simp only [Option.some.injEq] at h; subst h; have := List.length_filter_le (fun x => !(x.names r.act.fid)) l; omega
  · split at h
    · cases h
    · simp only [Option.some.injEq] at h; subst h
      have := (unstored_sub l r).length_le
      simp; omega
end La

namespace La
open Go Go.Eng Go.Proofs
set_option maxRecDepth 10000
set_option linter.unusedSimpArgs false

theorem fids_ok (a : Act) : FnOK Try.prog 99 [.agg (actRow a)] [] (fun r _ => r = .sl ((fids a).map intRow)) := by
  unfold actRow
  refine fn_of_cwW tabOK (Go.Proofs.Try.func99) rfl (fun C => ?_)
  simp only [Go.Proofs.Try.ntmps99, Go.Proofs.Try.results99, go_sem, Nat.reduceLT, Nat.reduceBEq, Nat.reduceLeDiff, Nat.reduceAdd, Nat.reduceMul, Nat.reduceSub, Nat.reduceEqDiff, Int.reduceNeg, Int.reduceToNat, Int.reduceAdd, Int.reduceSub]
  refine cw_go tabOK 99 (by simp only [go_sem, Nat.reduceLT, Nat.reduceBEq, Nat.reduceLeDiff, Nat.reduceAdd, Nat.reduceMul, Nat.reduceSub, Nat.reduceEqDiff, Int.reduceNeg, Int.reduceToNat, Int.reduceAdd, Int.reduceSub]; try exact rfl) (by simp [go_sem]) ?_
  refine cw_cond (by simp only [go_sem, Nat.reduceLT, Nat.reduceBEq, Nat.reduceLeDiff, Nat.reduceAdd, Nat.reduceMul, Nat.reduceSub, Nat.reduceEqDiff, Int.reduceNeg, Int.reduceToNat, Int.reduceAdd, Int.reduceSub]; try exact rfl) trivial (fun h => ?_) (fun h => ?_)
  · refine cw_go tabOK 99 (by simp only [go_sem, Nat.reduceLT, Nat.reduceBEq, Nat.reduceLeDiff, Nat.reduceAdd, Nat.reduceMul, Nat.reduceSub, Nat.reduceEqDiff, Int.reduceNeg, Int.reduceToNat, Int.reduceAdd, Int.reduceSub]; try exact rfl) (by simp [go_sem]) ?_
    refine cw_freeze 9 rfl (rfl) ?_
    simp only [go_sem, Nat.reduceLT, Nat.reduceBEq, Nat.reduceLeDiff, Nat.reduceAdd, Nat.reduceMul, Nat.reduceSub, Nat.reduceEqDiff, Int.reduceNeg, Int.reduceToNat, Int.reduceAdd, Int.reduceSub]
    refine cw_ret ⟨_, _, (by simp only [go_sem, Nat.reduceLT, Nat.reduceBEq, Nat.reduceLeDiff, Nat.reduceAdd, Nat.reduceMul, Nat.reduceSub, Nat.reduceEqDiff, Int.reduceNeg, Int.reduceToNat, Int.reduceAdd, Int.reduceSub]; try exact rfl), by simp [go_sem], _, .inr (.inl rfl), ?_⟩
    simp [go_sem, fids, intRow, eq_of_beq h]
  · refine cw_go tabOK 99 (by simp only [go_sem, Nat.reduceLT, Nat.reduceBEq, Nat.reduceLeDiff, Nat.reduceAdd, Nat.reduceMul, Nat.reduceSub, Nat.reduceEqDiff, Int.reduceNeg, Int.reduceToNat, Int.reduceAdd, Int.reduceSub]; try exact rfl) (by simp [go_sem]) ?_
    have h1 : a.kind ≠ 3 := by simpa using h
    refine cw_cond (by simp only [go_sem, Nat.reduceLT, Nat.reduceBEq, Nat.reduceLeDiff, Nat.reduceAdd, Nat.reduceMul, Nat.reduceSub, Nat.reduceEqDiff, Int.reduceNeg, Int.reduceToNat, Int.reduceAdd, Int.reduceSub]; try exact rfl) trivial (fun h => ?_) (fun h => ?_)
    · refine cw_go tabOK 99 (by simp only [go_sem, Nat.reduceLT, Nat.reduceBEq, Nat.reduceLeDiff, Nat.reduceAdd, Nat.reduceMul, Nat.reduceSub, Nat.reduceEqDiff, Int.reduceNeg, Int.reduceToNat, Int.reduceAdd, Int.reduceSub]; try exact rfl) (by simp [go_sem]) ?_
      refine cw_freeze 18 rfl (rfl) ?_
      simp only [go_sem, Nat.reduceLT, Nat.reduceBEq, Nat.reduceLeDiff, Nat.reduceAdd, Nat.reduceMul, Nat.reduceSub, Nat.reduceEqDiff, Int.reduceNeg, Int.reduceToNat, Int.reduceAdd, Int.reduceSub]
      refine cw_ret ⟨_, _, (by simp only [go_sem, Nat.reduceLT, Nat.reduceBEq, Nat.reduceLeDiff, Nat.reduceAdd, Nat.reduceMul, Nat.reduceSub, Nat.reduceEqDiff, Int.reduceNeg, Int.reduceToNat, Int.reduceAdd, Int.reduceSub]; try exact rfl), by simp [go_sem], _, .inr (.inl rfl), ?_⟩
      have h2 : a.kind = 5 := by simpa using h
      simp [go_sem, fids, intRow, h2]
    · refine cw_go tabOK 99 (by simp only [go_sem, Nat.reduceLT, Nat.reduceBEq, Nat.reduceLeDiff, Nat.reduceAdd, Nat.reduceMul, Nat.reduceSub, Nat.reduceEqDiff, Int.reduceNeg, Int.reduceToNat, Int.reduceAdd, Int.reduceSub]; try exact rfl) (by simp [go_sem]) ?_
      refine cw_freeze 23 rfl (rfl) ?_
      simp only [go_sem, Nat.reduceLT, Nat.reduceBEq, Nat.reduceLeDiff, Nat.reduceAdd, Nat.reduceMul, Nat.reduceSub, Nat.reduceEqDiff, Int.reduceNeg, Int.reduceToNat, Int.reduceAdd, Int.reduceSub]
      refine cw_ret ⟨_, _, (by simp only [go_sem, Nat.reduceLT, Nat.reduceBEq, Nat.reduceLeDiff, Nat.reduceAdd, Nat.reduceMul, Nat.reduceSub, Nat.reduceEqDiff, Int.reduceNeg, Int.reduceToNat, Int.reduceAdd, Int.reduceSub]; try exact rfl), by simp [go_sem], _, .inr (.inl rfl), ?_⟩
      have h2 : a.kind ≠ 5 := by simpa using h
      simp [go_sem, fids, intRow, h1, h2]

theorem fids_len (a : Act) : (fids a).length ≤ 3 := by
  unfold fids
  split
  · simp
  · split <;> simp

theorem index_ok (l : List Int) (hlen : l.length ≤ 100000000) (v : Int) : FnOK Try.prog 154 [.sl (l.map intRow), .int .i64 v] [] (fun r _ => r = .int .i64 (idxI (l.findIdx? (v == ·)))) := by
  refine fn_of_cwW tabOK (Go.Proofs.Try.func154) rfl (fun C => ?_)
  simp only [Go.Proofs.Try.ntmps154, Go.Proofs.Try.results154, go_sem, Nat.reduceLT, Nat.reduceBEq, Nat.reduceLeDiff, Nat.reduceAdd, Nat.reduceMul, Nat.reduceSub, Nat.reduceEqDiff, Int.reduceNeg, Int.reduceToNat, Int.reduceAdd, Int.reduceSub]
  refine cw_go tabOK 99 (by simp only [go_sem, Nat.reduceLT, Nat.reduceBEq, Nat.reduceLeDiff, Nat.reduceAdd, Nat.reduceMul, Nat.reduceSub, Nat.reduceEqDiff, Int.reduceNeg, Int.reduceToNat, Int.reduceAdd, Int.reduceSub]; try exact rfl) (by simp [go_sem]) ?_
  refine cw_loopS (fun i : Nat => i ≤ l.length ∧ ∀ x, x ∈ l.take i → (v == x) = false) (fun i => l.length - i) (fun i => [(8, .int .i64 i), (5, .any), (9, .any), (10, .any), (11, .any), (12, .any), (13, .any), (14, .any), (15, .any), (16, .any), (17, .any), (18, .any)]) (fun _ => []) 0 ⟨by omega, by simp⟩ ?_ fun i hi => ?_
  · simp only [go_sem, Nat.reduceLT, Nat.reduceBEq, Nat.reduceLeDiff, Nat.reduceAdd, Nat.reduceMul, Nat.reduceSub, Nat.reduceEqDiff, Int.reduceNeg, Int.reduceToNat, Int.reduceAdd, Int.reduceSub]
    exact le_sub (by simp [go_sem]) (by simp [go_sem]) (by simp only [go_sem, Nat.reduceLT, Nat.reduceBEq, Nat.reduceLeDiff, Nat.reduceAdd, Nat.reduceMul, Nat.reduceSub, Nat.reduceEqDiff, Int.reduceNeg, Int.reduceToNat, Int.reduceAdd, Int.reduceSub])
  obtain ⟨hi, hno⟩ := hi
  simp only [go_sem, Nat.reduceLT, Nat.reduceBEq, Nat.reduceLeDiff, Nat.reduceAdd, Nat.reduceMul, Nat.reduceSub, Nat.reduceEqDiff, Int.reduceNeg, Int.reduceToNat, Int.reduceAdd, Int.reduceSub]
  refine cw_go tabOK 99 (by simp only [go_sem, Nat.reduceLT, Nat.reduceBEq, Nat.reduceLeDiff, Nat.reduceAdd, Nat.reduceMul, Nat.reduceSub, Nat.reduceEqDiff, Int.reduceNeg, Int.reduceToNat, Int.reduceAdd, Int.reduceSub]; try exact rfl) (by simp [go_sem]) ?_
  refine cw_cond (by simp only [go_sem, Nat.reduceLT, Nat.reduceBEq, Nat.reduceLeDiff, Nat.reduceAdd, Nat.reduceMul, Nat.reduceSub, Nat.reduceEqDiff, Int.reduceNeg, Int.reduceToNat, Int.reduceAdd, Int.reduceSub]; try exact rfl) trivial (fun h => ?_) (fun h => ?_)
  · have hlt : i < l.length := by simp at h; omega
    have hg : (l.map intRow).getD i [] = intRow (l.getD i default) := Fam.getD hlt
    have htk := take_succ_getD hlt
    have hgi : l[i]? = some (l.getD i default) := by rw [List.getD_eq_getElem?_getD, List.getElem?_eq_getElem hlt]; rfl
    generalize l.getD i default = n at hg htk hgi
    refine cw_go tabOK 99 (by simp only [go_sem, Nat.reduceLT, Nat.reduceBEq, Nat.reduceLeDiff, Nat.reduceAdd, Nat.reduceMul, Nat.reduceSub, Nat.reduceEqDiff, Int.reduceNeg, Int.reduceToNat, Int.reduceAdd, Int.reduceSub, hg, intRow]; try exact rfl) ?_ ?_
    · simp [hlt]
    refine cw_cond (by simp only [go_sem, Nat.reduceLT, Nat.reduceBEq, Nat.reduceLeDiff, Nat.reduceAdd, Nat.reduceMul, Nat.reduceSub, Nat.reduceEqDiff, Int.reduceNeg, Int.reduceToNat, Int.reduceAdd, Int.reduceSub]; try exact rfl) trivial (fun h => ?_) (fun h => ?_)
    · refine cw_go tabOK 99 (by simp only [go_sem, Nat.reduceLT, Nat.reduceBEq, Nat.reduceLeDiff, Nat.reduceAdd, Nat.reduceMul, Nat.reduceSub, Nat.reduceEqDiff, Int.reduceNeg, Int.reduceToNat, Int.reduceAdd, Int.reduceSub]; try exact rfl) (by simp [go_sem]) ?_
      refine cw_ret ⟨_, _, (by simp only [go_sem, Nat.reduceLT, Nat.reduceBEq, Nat.reduceLeDiff, Nat.reduceAdd, Nat.reduceMul, Nat.reduceSub, Nat.reduceEqDiff, Int.reduceNeg, Int.reduceToNat, Int.reduceAdd, Int.reduceSub]; try exact rfl), by simp [go_sem], _, .inr (.inl rfl), ?_⟩
      rw [findIdx_at hgi hno h]; rfl
    · have hw : IntKind.i64.wrap ((i : Int) + 1) = (i : Int) + 1 := wrap_small (by omega) (by omega)
      refine cw_go tabOK 99 (by simp only [go_sem, Nat.reduceLT, Nat.reduceBEq, Nat.reduceLeDiff, Nat.reduceAdd, Nat.reduceMul, Nat.reduceSub, Nat.reduceEqDiff, Int.reduceNeg, Int.reduceToNat, Int.reduceAdd, Int.reduceSub, hw]; try exact rfl) (by simp [go_sem, hw]) ?_
      refine cw_back ⟨i + 1, ⟨by omega, ?_⟩, by omega, le_sub ?_ ?_ ?_⟩
      · rw [htk]
        intro x hx
        rcases List.mem_append.1 hx with hx | hx
        · exact hno x hx
        · rw [List.mem_singleton.1 hx]; exact h
      · simp [go_sem]
      · simp [go_sem]
      · simp only [go_sem, Nat.reduceLT, Nat.reduceBEq, Nat.reduceLeDiff, Nat.reduceAdd, Nat.reduceMul, Nat.reduceSub, Nat.reduceEqDiff, Int.reduceNeg, Int.reduceToNat, Int.reduceAdd, Int.reduceSub]
  · have e : i = l.length := by simp at h; omega
    refine cw_go tabOK 99 (by simp only [go_sem, Nat.reduceLT, Nat.reduceBEq, Nat.reduceLeDiff, Nat.reduceAdd, Nat.reduceMul, Nat.reduceSub, Nat.reduceEqDiff, Int.reduceNeg, Int.reduceToNat, Int.reduceAdd, Int.reduceSub]; try exact rfl) (by simp [go_sem]) ?_
    refine cw_ret ⟨_, _, (by simp only [go_sem, Nat.reduceLT, Nat.reduceBEq, Nat.reduceLeDiff, Nat.reduceAdd, Nat.reduceMul, Nat.reduceSub, Nat.reduceEqDiff, Int.reduceNeg, Int.reduceToNat, Int.reduceAdd, Int.reduceSub]; try exact rfl), by simp [go_sem], _, .inr (.inl rfl), ?_⟩
    rw [e, List.take_length] at hno
    rw [List.findIdx?_eq_none_iff.2 hno]; rfl

theorem contains_ok (l : List Int) (hlen : l.length ≤ 100000000) (v : Int) : FnOK Try.prog 116 [.sl (l.map intRow), .int .i64 v] [] (fun r _ => r = .bool (l.contains v)) := by
  refine fn_of_cwW tabOK (Go.Proofs.Try.func116) rfl (fun C => ?_)
  simp only [Go.Proofs.Try.ntmps116, Go.Proofs.Try.results116, go_sem, Nat.reduceLT, Nat.reduceBEq, Nat.reduceLeDiff, Nat.reduceAdd, Nat.reduceMul, Nat.reduceSub, Nat.reduceEqDiff, Int.reduceNeg, Int.reduceToNat, Int.reduceAdd, Int.reduceSub]
  refine cw_go tabOK 99 (by simp only [go_sem, Nat.reduceLT, Nat.reduceBEq, Nat.reduceLeDiff, Nat.reduceAdd, Nat.reduceMul, Nat.reduceSub, Nat.reduceEqDiff, Int.reduceNeg, Int.reduceToNat, Int.reduceAdd, Int.reduceSub]; try exact rfl) (by simp [go_sem]) ?_
  refine cw_call rfl rfl (by simp only [go_sem, Nat.reduceLT, Nat.reduceBEq, Nat.reduceLeDiff, Nat.reduceAdd, Nat.reduceMul, Nat.reduceSub, Nat.reduceEqDiff, Int.reduceNeg, Int.reduceToNat, Int.reduceAdd, Int.reduceSub]; try exact rfl) (by simp [go_sem]) ⟨_, Go.Proofs.Try.func154, by kernel_rfl, rfl⟩ (by simp [go_sem]) (index_ok l hlen v) (by simp [go_sem]) (by simp only [go_sem, Nat.reduceLT, Nat.reduceBEq, Nat.reduceLeDiff, Nat.reduceAdd, Nat.reduceMul, Nat.reduceSub, Nat.reduceEqDiff, Int.reduceNeg, Int.reduceToNat, Int.reduceAdd, Int.reduceSub]; exact rfl) ?_
  refine cw_go tabOK 99 (by simp only [go_sem, Nat.reduceLT, Nat.reduceBEq, Nat.reduceLeDiff, Nat.reduceAdd, Nat.reduceMul, Nat.reduceSub, Nat.reduceEqDiff, Int.reduceNeg, Int.reduceToNat, Int.reduceAdd, Int.reduceSub]; try exact rfl) (by simp [go_sem]) ?_
  refine cw_ret ⟨_, _, (by simp only [go_sem, Nat.reduceLT, Nat.reduceBEq, Nat.reduceLeDiff, Nat.reduceAdd, Nat.reduceMul, Nat.reduceSub, Nat.reduceEqDiff, Int.reduceNeg, Int.reduceToNat, Int.reduceAdd, Int.reduceSub]; try exact rfl), by simp [go_sem], _, .inr (.inl rfl), ?_⟩
  rw [idxI_any, List.contains_eq_any_beq]

theorem names_ok (r : Rec) (f : Int) : FnOK Try.prog 70 [.rp (recRow r) 0, .int .i64 f] [] (fun x _ => x = .bool (r.names f)) := by
  unfold recRow
  refine fn_of_cwW tabOK (Go.Proofs.Try.func70) rfl (fun C => ?_)
  simp only [Go.Proofs.Try.ntmps70, Go.Proofs.Try.results70, go_sem, Nat.reduceLT, Nat.reduceBEq, Nat.reduceLeDiff, Nat.reduceAdd, Nat.reduceMul, Nat.reduceSub, Nat.reduceEqDiff, Int.reduceNeg, Int.reduceToNat, Int.reduceAdd, Int.reduceSub]
  refine cw_go tabOK 99 (by simp only [go_sem, Nat.reduceLT, Nat.reduceBEq, Nat.reduceLeDiff, Nat.reduceAdd, Nat.reduceMul, Nat.reduceSub, Nat.reduceEqDiff, Int.reduceNeg, Int.reduceToNat, Int.reduceAdd, Int.reduceSub]; try exact rfl) (by simp [go_sem]) ?_
  refine cw_call rfl rfl (by simp only [go_sem, Nat.reduceLT, Nat.reduceBEq, Nat.reduceLeDiff, Nat.reduceAdd, Nat.reduceMul, Nat.reduceSub, Nat.reduceEqDiff, Int.reduceNeg, Int.reduceToNat, Int.reduceAdd, Int.reduceSub]; try exact rfl) (by simp [go_sem]) ⟨_, Go.Proofs.Try.func99, by kernel_rfl, rfl⟩ (by simp [go_sem]) (fids_ok r.act) (by simp [go_sem]) (by simp only [go_sem, Nat.reduceLT, Nat.reduceBEq, Nat.reduceLeDiff, Nat.reduceAdd, Nat.reduceMul, Nat.reduceSub, Nat.reduceEqDiff, Int.reduceNeg, Int.reduceToNat, Int.reduceAdd, Int.reduceSub]; exact rfl) ?_
  refine cw_go tabOK 99 (by simp only [go_sem, Nat.reduceLT, Nat.reduceBEq, Nat.reduceLeDiff, Nat.reduceAdd, Nat.reduceMul, Nat.reduceSub, Nat.reduceEqDiff, Int.reduceNeg, Int.reduceToNat, Int.reduceAdd, Int.reduceSub]; try exact rfl) (by simp [go_sem]) ?_
  refine cw_call rfl rfl (by simp only [go_sem, Nat.reduceLT, Nat.reduceBEq, Nat.reduceLeDiff, Nat.reduceAdd, Nat.reduceMul, Nat.reduceSub, Nat.reduceEqDiff, Int.reduceNeg, Int.reduceToNat, Int.reduceAdd, Int.reduceSub]; try exact rfl) (by simp [go_sem]) ⟨_, Go.Proofs.Try.func116, by kernel_rfl, rfl⟩ (by simp [go_sem]) (contains_ok (fids r.act) (by have := fids_len r.act; omega) f) (by simp [go_sem]) (by simp only [go_sem, Nat.reduceLT, Nat.reduceBEq, Nat.reduceLeDiff, Nat.reduceAdd, Nat.reduceMul, Nat.reduceSub, Nat.reduceEqDiff, Int.reduceNeg, Int.reduceToNat, Int.reduceAdd, Int.reduceSub]; exact rfl) ?_
  refine cw_go tabOK 99 (by simp only [go_sem, Nat.reduceLT, Nat.reduceBEq, Nat.reduceLeDiff, Nat.reduceAdd, Nat.reduceMul, Nat.reduceSub, Nat.reduceEqDiff, Int.reduceNeg, Int.reduceToNat, Int.reduceAdd, Int.reduceSub]; try exact rfl) (by simp [go_sem]) ?_
  refine cw_ret ⟨_, _, (by simp only [go_sem, Nat.reduceLT, Nat.reduceBEq, Nat.reduceLeDiff, Nat.reduceAdd, Nat.reduceMul, Nat.reduceSub, Nat.reduceEqDiff, Int.reduceNeg, Int.reduceToNat, Int.reduceAdd, Int.reduceSub]; try exact rfl), by simp [go_sem], _, .inr (.inl rfl), ?_⟩
  rfl

theorem cond_and (a b : Bool) : (bif a then b else false) = (a && b) := by cases a <;> rfl
theorem cond_or (a b : Bool) : (bif a then true else b) = (a || b) := by cases a <;> rfl

set_option maxHeartbeats 1000000 in
theorem touches_ok (r : Rec) (d : Int) (n : List UInt8) : FnOK Try.prog 126 [.rp (recRow r) 0, .int .i64 d, .str n] [] (fun x _ => x = .bool (touches r.act d n)) := by
  unfold recRow
  refine fn_of_cwW tabOK (Go.Proofs.Try.func126) rfl (fun C => ?_)
  simp only [Go.Proofs.Try.ntmps126, Go.Proofs.Try.results126, go_sem, Nat.reduceLT, Nat.reduceBEq, Nat.reduceLeDiff, Nat.reduceAdd, Nat.reduceMul, Nat.reduceSub, Nat.reduceEqDiff, Int.reduceNeg, Int.reduceToNat, Int.reduceAdd, Int.reduceSub]
  refine cw_go tabOK 99 (by simp only [go_sem, Nat.reduceLT, Nat.reduceBEq, Nat.reduceLeDiff, Nat.reduceAdd, Nat.reduceMul, Nat.reduceSub, Nat.reduceEqDiff, Int.reduceNeg, Int.reduceToNat, Int.reduceAdd, Int.reduceSub]; try exact rfl) (by simp [go_sem]) ?_
  refine cw_cond (by simp only [go_sem, Nat.reduceLT, Nat.reduceBEq, Nat.reduceLeDiff, Nat.reduceAdd, Nat.reduceMul, Nat.reduceSub, Nat.reduceEqDiff, Int.reduceNeg, Int.reduceToNat, Int.reduceAdd, Int.reduceSub]; try exact rfl) trivial (fun h => ?_) (fun h => ?_)
  · refine cw_go tabOK 99 (by simp only [go_sem, Nat.reduceLT, Nat.reduceBEq, Nat.reduceLeDiff, Nat.reduceAdd, Nat.reduceMul, Nat.reduceSub, Nat.reduceEqDiff, Int.reduceNeg, Int.reduceToNat, Int.reduceAdd, Int.reduceSub]; try exact rfl) (by simp [go_sem]) ?_
    refine cw_condT (by simp only [go_sem, Nat.reduceLT, Nat.reduceBEq, Nat.reduceLeDiff, Nat.reduceAdd, Nat.reduceMul, Nat.reduceSub, Nat.reduceEqDiff, Int.reduceNeg, Int.reduceToNat, Int.reduceAdd, Int.reduceSub]; try exact rfl) trivial (h) ?_
    refine cw_goR 99 (by simp only [go_sem, Nat.reduceLT, Nat.reduceBEq, Nat.reduceLeDiff, Nat.reduceAdd, Nat.reduceMul, Nat.reduceSub, Nat.reduceEqDiff, Int.reduceNeg, Int.reduceToNat, Int.reduceAdd, Int.reduceSub]; try exact rfl) ?_
    refine cw_runN tabOK 6 (by simp only [go_sem, Nat.reduceLT, Nat.reduceBEq, Nat.reduceLeDiff, Nat.reduceAdd, Nat.reduceMul, Nat.reduceSub, Nat.reduceEqDiff, Int.reduceNeg, Int.reduceToNat, Int.reduceAdd, Int.reduceSub]; exact rfl) (by simp only [go_sem, Nat.reduceLT, Nat.reduceBEq, Nat.reduceLeDiff, Nat.reduceAdd, Nat.reduceMul, Nat.reduceSub, Nat.reduceEqDiff, Int.reduceNeg, Int.reduceToNat, Int.reduceAdd, Int.reduceSub]; exact rfl) (by simp only [go_sem, Nat.reduceLT, Nat.reduceBEq, Nat.reduceLeDiff, Nat.reduceAdd, Nat.reduceMul, Nat.reduceSub, Nat.reduceEqDiff, Int.reduceNeg, Int.reduceToNat, Int.reduceAdd, Int.reduceSub]; try exact rfl) (by simp [go_sem]) ?_
    refine cw_name 24 (by simp only [go_sem, Nat.reduceLT, Nat.reduceBEq, Nat.reduceLeDiff, Nat.reduceAdd, Nat.reduceMul, Nat.reduceSub, Nat.reduceEqDiff, Int.reduceNeg, Int.reduceToNat, Int.reduceAdd, Int.reduceSub]; exact rfl) (fun c24 h24 => ?_)
    simp only [go_sem, Nat.reduceLT, Nat.reduceBEq, Nat.reduceLeDiff, Nat.reduceAdd, Nat.reduceMul, Nat.reduceSub, Nat.reduceEqDiff, Int.reduceNeg, Int.reduceToNat, Int.reduceAdd, Int.reduceSub]
    refine cw_runN tabOK 8 (by simp only [go_sem, Nat.reduceLT, Nat.reduceBEq, Nat.reduceLeDiff, Nat.reduceAdd, Nat.reduceMul, Nat.reduceSub, Nat.reduceEqDiff, Int.reduceNeg, Int.reduceToNat, Int.reduceAdd, Int.reduceSub]; exact rfl) (by simp only [go_sem, Nat.reduceLT, Nat.reduceBEq, Nat.reduceLeDiff, Nat.reduceAdd, Nat.reduceMul, Nat.reduceSub, Nat.reduceEqDiff, Int.reduceNeg, Int.reduceToNat, Int.reduceAdd, Int.reduceSub]; exact rfl) (by simp only [go_sem, Nat.reduceLT, Nat.reduceBEq, Nat.reduceLeDiff, Nat.reduceAdd, Nat.reduceMul, Nat.reduceSub, Nat.reduceEqDiff, Int.reduceNeg, Int.reduceToNat, Int.reduceAdd, Int.reduceSub]; try exact rfl) (by simp [go_sem]) ?_
    refine cw_name 32 (by simp only [go_sem, Nat.reduceLT, Nat.reduceBEq, Nat.reduceLeDiff, Nat.reduceAdd, Nat.reduceMul, Nat.reduceSub, Nat.reduceEqDiff, Int.reduceNeg, Int.reduceToNat, Int.reduceAdd, Int.reduceSub]; exact rfl) (fun c32 h32 => ?_)
    simp only [go_sem, Nat.reduceLT, Nat.reduceBEq, Nat.reduceLeDiff, Nat.reduceAdd, Nat.reduceMul, Nat.reduceSub, Nat.reduceEqDiff, Int.reduceNeg, Int.reduceToNat, Int.reduceAdd, Int.reduceSub]
    refine cw_go tabOK 99 (by simp only [go_sem, Nat.reduceLT, Nat.reduceBEq, Nat.reduceLeDiff, Nat.reduceAdd, Nat.reduceMul, Nat.reduceSub, Nat.reduceEqDiff, Int.reduceNeg, Int.reduceToNat, Int.reduceAdd, Int.reduceSub]; try exact rfl) (by simp [go_sem]) ?_
    refine cw_ret ⟨_, _, (by simp only [go_sem, Nat.reduceLT, Nat.reduceBEq, Nat.reduceLeDiff, Nat.reduceAdd, Nat.reduceMul, Nat.reduceSub, Nat.reduceEqDiff, Int.reduceNeg, Int.reduceToNat, Int.reduceAdd, Int.reduceSub]; try exact rfl), by simp [go_sem], _, .inr (.inl rfl), ?_⟩
    subst h32 h24
    have hk := eq_of_beq h
    simp [touches, hk, cond_and]
  · refine cw_go tabOK 99 (by simp only [go_sem, Nat.reduceLT, Nat.reduceBEq, Nat.reduceLeDiff, Nat.reduceAdd, Nat.reduceMul, Nat.reduceSub, Nat.reduceEqDiff, Int.reduceNeg, Int.reduceToNat, Int.reduceAdd, Int.reduceSub]; try exact rfl) (by simp [go_sem]) ?_
    refine cw_cond (by simp only [go_sem, Nat.reduceLT, Nat.reduceBEq, Nat.reduceLeDiff, Nat.reduceAdd, Nat.reduceMul, Nat.reduceSub, Nat.reduceEqDiff, Int.reduceNeg, Int.reduceToNat, Int.reduceAdd, Int.reduceSub]; try exact rfl) trivial (fun h => ?_) (fun h => ?_)
    · refine cw_go tabOK 99 (by simp only [go_sem, Nat.reduceLT, Nat.reduceBEq, Nat.reduceLeDiff, Nat.reduceAdd, Nat.reduceMul, Nat.reduceSub, Nat.reduceEqDiff, Int.reduceNeg, Int.reduceToNat, Int.reduceAdd, Int.reduceSub]; try exact rfl) (by simp [go_sem]) ?_
      refine cw_condT (by simp only [go_sem, Nat.reduceLT, Nat.reduceBEq, Nat.reduceLeDiff, Nat.reduceAdd, Nat.reduceMul, Nat.reduceSub, Nat.reduceEqDiff, Int.reduceNeg, Int.reduceToNat, Int.reduceAdd, Int.reduceSub]; try exact rfl) trivial (h) ?_
      refine cw_goR 99 (by simp only [go_sem, Nat.reduceLT, Nat.reduceBEq, Nat.reduceLeDiff, Nat.reduceAdd, Nat.reduceMul, Nat.reduceSub, Nat.reduceEqDiff, Int.reduceNeg, Int.reduceToNat, Int.reduceAdd, Int.reduceSub]; try exact rfl) ?_
      refine cw_runN tabOK 6 (by simp only [go_sem, Nat.reduceLT, Nat.reduceBEq, Nat.reduceLeDiff, Nat.reduceAdd, Nat.reduceMul, Nat.reduceSub, Nat.reduceEqDiff, Int.reduceNeg, Int.reduceToNat, Int.reduceAdd, Int.reduceSub]; exact rfl) (by simp only [go_sem, Nat.reduceLT, Nat.reduceBEq, Nat.reduceLeDiff, Nat.reduceAdd, Nat.reduceMul, Nat.reduceSub, Nat.reduceEqDiff, Int.reduceNeg, Int.reduceToNat, Int.reduceAdd, Int.reduceSub]; exact rfl) (by simp only [go_sem, Nat.reduceLT, Nat.reduceBEq, Nat.reduceLeDiff, Nat.reduceAdd, Nat.reduceMul, Nat.reduceSub, Nat.reduceEqDiff, Int.reduceNeg, Int.reduceToNat, Int.reduceAdd, Int.reduceSub]; try exact rfl) (by simp [go_sem]) ?_
      refine cw_name 24 (by simp only [go_sem, Nat.reduceLT, Nat.reduceBEq, Nat.reduceLeDiff, Nat.reduceAdd, Nat.reduceMul, Nat.reduceSub, Nat.reduceEqDiff, Int.reduceNeg, Int.reduceToNat, Int.reduceAdd, Int.reduceSub]; exact rfl) (fun c24 h24 => ?_)
      simp only [go_sem, Nat.reduceLT, Nat.reduceBEq, Nat.reduceLeDiff, Nat.reduceAdd, Nat.reduceMul, Nat.reduceSub, Nat.reduceEqDiff, Int.reduceNeg, Int.reduceToNat, Int.reduceAdd, Int.reduceSub]
      refine cw_runN tabOK 8 (by simp only [go_sem, Nat.reduceLT, Nat.reduceBEq, Nat.reduceLeDiff, Nat.reduceAdd, Nat.reduceMul, Nat.reduceSub, Nat.reduceEqDiff, Int.reduceNeg, Int.reduceToNat, Int.reduceAdd, Int.reduceSub]; exact rfl) (by simp only [go_sem, Nat.reduceLT, Nat.reduceBEq, Nat.reduceLeDiff, Nat.reduceAdd, Nat.reduceMul, Nat.reduceSub, Nat.reduceEqDiff, Int.reduceNeg, Int.reduceToNat, Int.reduceAdd, Int.reduceSub]; exact rfl) (by simp only [go_sem, Nat.reduceLT, Nat.reduceBEq, Nat.reduceLeDiff, Nat.reduceAdd, Nat.reduceMul, Nat.reduceSub, Nat.reduceEqDiff, Int.reduceNeg, Int.reduceToNat, Int.reduceAdd, Int.reduceSub]; try exact rfl) (by simp [go_sem]) ?_
      refine cw_name 32 (by simp only [go_sem, Nat.reduceLT, Nat.reduceBEq, Nat.reduceLeDiff, Nat.reduceAdd, Nat.reduceMul, Nat.reduceSub, Nat.reduceEqDiff, Int.reduceNeg, Int.reduceToNat, Int.reduceAdd, Int.reduceSub]; exact rfl) (fun c32 h32 => ?_)
      simp only [go_sem, Nat.reduceLT, Nat.reduceBEq, Nat.reduceLeDiff, Nat.reduceAdd, Nat.reduceMul, Nat.reduceSub, Nat.reduceEqDiff, Int.reduceNeg, Int.reduceToNat, Int.reduceAdd, Int.reduceSub]
      refine cw_go tabOK 99 (by simp only [go_sem, Nat.reduceLT, Nat.reduceBEq, Nat.reduceLeDiff, Nat.reduceAdd, Nat.reduceMul, Nat.reduceSub, Nat.reduceEqDiff, Int.reduceNeg, Int.reduceToNat, Int.reduceAdd, Int.reduceSub]; try exact rfl) (by simp [go_sem]) ?_
      refine cw_ret ⟨_, _, (by simp only [go_sem, Nat.reduceLT, Nat.reduceBEq, Nat.reduceLeDiff, Nat.reduceAdd, Nat.reduceMul, Nat.reduceSub, Nat.reduceEqDiff, Int.reduceNeg, Int.reduceToNat, Int.reduceAdd, Int.reduceSub]; try exact rfl), by simp [go_sem], _, .inr (.inl rfl), ?_⟩
      subst h32 h24
      have hk := eq_of_beq h
      simp [touches, hk, cond_and]
    · refine cw_go tabOK 99 (by simp only [go_sem, Nat.reduceLT, Nat.reduceBEq, Nat.reduceLeDiff, Nat.reduceAdd, Nat.reduceMul, Nat.reduceSub, Nat.reduceEqDiff, Int.reduceNeg, Int.reduceToNat, Int.reduceAdd, Int.reduceSub]; try exact rfl) (by simp [go_sem]) ?_
      refine cw_cond (by simp only [go_sem, Nat.reduceLT, Nat.reduceBEq, Nat.reduceLeDiff, Nat.reduceAdd, Nat.reduceMul, Nat.reduceSub, Nat.reduceEqDiff, Int.reduceNeg, Int.reduceToNat, Int.reduceAdd, Int.reduceSub]; try exact rfl) trivial (fun h => ?_) (fun h => ?_)
      · refine cw_goR 99 (by simp only [go_sem, Nat.reduceLT, Nat.reduceBEq, Nat.reduceLeDiff, Nat.reduceAdd, Nat.reduceMul, Nat.reduceSub, Nat.reduceEqDiff, Int.reduceNeg, Int.reduceToNat, Int.reduceAdd, Int.reduceSub]; try exact rfl) ?_
        refine cw_runN tabOK 6 (by simp only [go_sem, Nat.reduceLT, Nat.reduceBEq, Nat.reduceLeDiff, Nat.reduceAdd, Nat.reduceMul, Nat.reduceSub, Nat.reduceEqDiff, Int.reduceNeg, Int.reduceToNat, Int.reduceAdd, Int.reduceSub]; exact rfl) (by simp only [go_sem, Nat.reduceLT, Nat.reduceBEq, Nat.reduceLeDiff, Nat.reduceAdd, Nat.reduceMul, Nat.reduceSub, Nat.reduceEqDiff, Int.reduceNeg, Int.reduceToNat, Int.reduceAdd, Int.reduceSub]; exact rfl) (by simp only [go_sem, Nat.reduceLT, Nat.reduceBEq, Nat.reduceLeDiff, Nat.reduceAdd, Nat.reduceMul, Nat.reduceSub, Nat.reduceEqDiff, Int.reduceNeg, Int.reduceToNat, Int.reduceAdd, Int.reduceSub]; try exact rfl) (by simp [go_sem]) ?_
        refine cw_name 24 (by simp only [go_sem, Nat.reduceLT, Nat.reduceBEq, Nat.reduceLeDiff, Nat.reduceAdd, Nat.reduceMul, Nat.reduceSub, Nat.reduceEqDiff, Int.reduceNeg, Int.reduceToNat, Int.reduceAdd, Int.reduceSub]; exact rfl) (fun c24 h24 => ?_)
        simp only [go_sem, Nat.reduceLT, Nat.reduceBEq, Nat.reduceLeDiff, Nat.reduceAdd, Nat.reduceMul, Nat.reduceSub, Nat.reduceEqDiff, Int.reduceNeg, Int.reduceToNat, Int.reduceAdd, Int.reduceSub]
        refine cw_runN tabOK 8 (by simp only [go_sem, Nat.reduceLT, Nat.reduceBEq, Nat.reduceLeDiff, Nat.reduceAdd, Nat.reduceMul, Nat.reduceSub, Nat.reduceEqDiff, Int.reduceNeg, Int.reduceToNat, Int.reduceAdd, Int.reduceSub]; exact rfl) (by simp only [go_sem, Nat.reduceLT, Nat.reduceBEq, Nat.reduceLeDiff, Nat.reduceAdd, Nat.reduceMul, Nat.reduceSub, Nat.reduceEqDiff, Int.reduceNeg, Int.reduceToNat, Int.reduceAdd, Int.reduceSub]; exact rfl) (by simp only [go_sem, Nat.reduceLT, Nat.reduceBEq, Nat.reduceLeDiff, Nat.reduceAdd, Nat.reduceMul, Nat.reduceSub, Nat.reduceEqDiff, Int.reduceNeg, Int.reduceToNat, Int.reduceAdd, Int.reduceSub]; try exact rfl) (by simp [go_sem]) ?_
        refine cw_name 32 (by simp only [go_sem, Nat.reduceLT, Nat.reduceBEq, Nat.reduceLeDiff, Nat.reduceAdd, Nat.reduceMul, Nat.reduceSub, Nat.reduceEqDiff, Int.reduceNeg, Int.reduceToNat, Int.reduceAdd, Int.reduceSub]; exact rfl) (fun c32 h32 => ?_)
        simp only [go_sem, Nat.reduceLT, Nat.reduceBEq, Nat.reduceLeDiff, Nat.reduceAdd, Nat.reduceMul, Nat.reduceSub, Nat.reduceEqDiff, Int.reduceNeg, Int.reduceToNat, Int.reduceAdd, Int.reduceSub]
        refine cw_go tabOK 99 (by simp only [go_sem, Nat.reduceLT, Nat.reduceBEq, Nat.reduceLeDiff, Nat.reduceAdd, Nat.reduceMul, Nat.reduceSub, Nat.reduceEqDiff, Int.reduceNeg, Int.reduceToNat, Int.reduceAdd, Int.reduceSub]; try exact rfl) (by simp [go_sem]) ?_
        refine cw_ret ⟨_, _, (by simp only [go_sem, Nat.reduceLT, Nat.reduceBEq, Nat.reduceLeDiff, Nat.reduceAdd, Nat.reduceMul, Nat.reduceSub, Nat.reduceEqDiff, Int.reduceNeg, Int.reduceToNat, Int.reduceAdd, Int.reduceSub]; try exact rfl), by simp [go_sem], _, .inr (.inl rfl), ?_⟩
        subst h32 h24
        have hk := eq_of_beq h
        simp [touches, hk, cond_and]
      · refine cw_go tabOK 99 (by simp only [go_sem, Nat.reduceLT, Nat.reduceBEq, Nat.reduceLeDiff, Nat.reduceAdd, Nat.reduceMul, Nat.reduceSub, Nat.reduceEqDiff, Int.reduceNeg, Int.reduceToNat, Int.reduceAdd, Int.reduceSub]; try exact rfl) (by simp [go_sem]) ?_
        refine cw_cond (by simp only [go_sem, Nat.reduceLT, Nat.reduceBEq, Nat.reduceLeDiff, Nat.reduceAdd, Nat.reduceMul, Nat.reduceSub, Nat.reduceEqDiff, Int.reduceNeg, Int.reduceToNat, Int.reduceAdd, Int.reduceSub]; try exact rfl) trivial (fun h => ?_) (fun h => ?_)
        · have hk := eq_of_beq h
          refine cw_goR 99 (by simp only [go_sem, Nat.reduceLT, Nat.reduceBEq, Nat.reduceLeDiff, Nat.reduceAdd, Nat.reduceMul, Nat.reduceSub, Nat.reduceEqDiff, Int.reduceNeg, Int.reduceToNat, Int.reduceAdd, Int.reduceSub]; try exact rfl) ?_
          refine cw_runN tabOK 6 (by simp only [go_sem, Nat.reduceLT, Nat.reduceBEq, Nat.reduceLeDiff, Nat.reduceAdd, Nat.reduceMul, Nat.reduceSub, Nat.reduceEqDiff, Int.reduceNeg, Int.reduceToNat, Int.reduceAdd, Int.reduceSub]; exact rfl) (by simp only [go_sem, Nat.reduceLT, Nat.reduceBEq, Nat.reduceLeDiff, Nat.reduceAdd, Nat.reduceMul, Nat.reduceSub, Nat.reduceEqDiff, Int.reduceNeg, Int.reduceToNat, Int.reduceAdd, Int.reduceSub]; exact rfl) (by simp only [go_sem, Nat.reduceLT, Nat.reduceBEq, Nat.reduceLeDiff, Nat.reduceAdd, Nat.reduceMul, Nat.reduceSub, Nat.reduceEqDiff, Int.reduceNeg, Int.reduceToNat, Int.reduceAdd, Int.reduceSub]; try exact rfl) (by simp [go_sem]) ?_
          refine cw_name 40 (by simp only [go_sem, Nat.reduceLT, Nat.reduceBEq, Nat.reduceLeDiff, Nat.reduceAdd, Nat.reduceMul, Nat.reduceSub, Nat.reduceEqDiff, Int.reduceNeg, Int.reduceToNat, Int.reduceAdd, Int.reduceSub]; exact rfl) (fun c40 h40 => ?_)
          simp only [go_sem, Nat.reduceLT, Nat.reduceBEq, Nat.reduceLeDiff, Nat.reduceAdd, Nat.reduceMul, Nat.reduceSub, Nat.reduceEqDiff, Int.reduceNeg, Int.reduceToNat, Int.reduceAdd, Int.reduceSub]
          refine cw_runN tabOK 8 (by simp only [go_sem, Nat.reduceLT, Nat.reduceBEq, Nat.reduceLeDiff, Nat.reduceAdd, Nat.reduceMul, Nat.reduceSub, Nat.reduceEqDiff, Int.reduceNeg, Int.reduceToNat, Int.reduceAdd, Int.reduceSub]; exact rfl) (by simp only [go_sem, Nat.reduceLT, Nat.reduceBEq, Nat.reduceLeDiff, Nat.reduceAdd, Nat.reduceMul, Nat.reduceSub, Nat.reduceEqDiff, Int.reduceNeg, Int.reduceToNat, Int.reduceAdd, Int.reduceSub]; exact rfl) (by simp only [go_sem, Nat.reduceLT, Nat.reduceBEq, Nat.reduceLeDiff, Nat.reduceAdd, Nat.reduceMul, Nat.reduceSub, Nat.reduceEqDiff, Int.reduceNeg, Int.reduceToNat, Int.reduceAdd, Int.reduceSub]; try exact rfl) (by simp [go_sem]) ?_
          refine cw_name 48 (by simp only [go_sem, Nat.reduceLT, Nat.reduceBEq, Nat.reduceLeDiff, Nat.reduceAdd, Nat.reduceMul, Nat.reduceSub, Nat.reduceEqDiff, Int.reduceNeg, Int.reduceToNat, Int.reduceAdd, Int.reduceSub]; exact rfl) (fun c48 h48 => ?_)
          simp only [go_sem, Nat.reduceLT, Nat.reduceBEq, Nat.reduceLeDiff, Nat.reduceAdd, Nat.reduceMul, Nat.reduceSub, Nat.reduceEqDiff, Int.reduceNeg, Int.reduceToNat, Int.reduceAdd, Int.reduceSub]
          cases c48
          · cases e3 : (r.act.to == d) <;> cases e4 : (r.act.toName == n)
            all_goals refine cw_go tabOK 99 (by simp only [go_sem, Nat.reduceLT, Nat.reduceBEq, Nat.reduceLeDiff, Nat.reduceAdd, Nat.reduceMul, Nat.reduceSub, Nat.reduceEqDiff, Int.reduceNeg, Int.reduceToNat, Int.reduceAdd, Int.reduceSub, e3, e4]; try exact rfl) (by simp [go_sem, e3, e4]) ?_
            all_goals refine cw_ret ⟨_, _, (by simp only [go_sem, Nat.reduceLT, Nat.reduceBEq, Nat.reduceLeDiff, Nat.reduceAdd, Nat.reduceMul, Nat.reduceSub, Nat.reduceEqDiff, Int.reduceNeg, Int.reduceToNat, Int.reduceAdd, Int.reduceSub]; try exact rfl), by simp [go_sem], _, .inr (.inl rfl), ?_⟩
            all_goals rw [← h40, cond_and] at h48
            all_goals simp [touches, hk, h48, e3, e4]
          · refine cw_go tabOK 99 (by simp only [go_sem, Nat.reduceLT, Nat.reduceBEq, Nat.reduceLeDiff, Nat.reduceAdd, Nat.reduceMul, Nat.reduceSub, Nat.reduceEqDiff, Int.reduceNeg, Int.reduceToNat, Int.reduceAdd, Int.reduceSub]; try exact rfl) (by simp [go_sem]) ?_
            refine cw_ret ⟨_, _, (by simp only [go_sem, Nat.reduceLT, Nat.reduceBEq, Nat.reduceLeDiff, Nat.reduceAdd, Nat.reduceMul, Nat.reduceSub, Nat.reduceEqDiff, Int.reduceNeg, Int.reduceToNat, Int.reduceAdd, Int.reduceSub]; try exact rfl), by simp [go_sem], _, .inr (.inl rfl), ?_⟩
            rw [← h40, cond_and] at h48
            simp [touches, hk, h48]
        · refine cw_go tabOK 99 (by simp only [go_sem, Nat.reduceLT, Nat.reduceBEq, Nat.reduceLeDiff, Nat.reduceAdd, Nat.reduceMul, Nat.reduceSub, Nat.reduceEqDiff, Int.reduceNeg, Int.reduceToNat, Int.reduceAdd, Int.reduceSub]; try exact rfl) (by simp [go_sem]) ?_
          refine cw_ret ⟨_, _, (by simp only [go_sem, Nat.reduceLT, Nat.reduceBEq, Nat.reduceLeDiff, Nat.reduceAdd, Nat.reduceMul, Nat.reduceSub, Nat.reduceEqDiff, Int.reduceNeg, Int.reduceToNat, Int.reduceAdd, Int.reduceSub]; try exact rfl), by simp [go_sem], _, .inr (.inl rfl), ?_⟩
          simp_all [touches]
end La

namespace La
open Go Go.Eng Go.Proofs
set_option maxRecDepth 10000
set_option linter.unusedSimpArgs false

def Act.Small (a : Act) : Prop := a.data.length ≤ 100000000
structure SmallL (l : List Rec) : Prop where
  len : l.length ≤ 100000000
  each : ∀ r, r ∈ l → r.act.Small

theorem acts_own (a : Act) (ha : a.Small) : FnOK Try.prog 72 [.agg (actRow a)] [] (fun r _ => r = .agg (actRow a)) := by
  unfold actRow
  refine fn_of_cwW tabOK (Go.Proofs.Try.func72) rfl (fun C => ?_)
  simp only [Go.Proofs.Try.ntmps72, Go.Proofs.Try.results72, go_sem, Nat.reduceLT, Nat.reduceBEq, Nat.reduceLeDiff, Nat.reduceAdd, Nat.reduceMul, Nat.reduceSub, Nat.reduceEqDiff, Int.reduceNeg, Int.reduceToNat, Int.reduceAdd, Int.reduceSub]
  refine cw_go tabOK 99 (by simp only [go_sem, Nat.reduceLT, Nat.reduceBEq, Nat.reduceLeDiff, Nat.reduceAdd, Nat.reduceMul, Nat.reduceSub, Nat.reduceEqDiff, Int.reduceNeg, Int.reduceToNat, Int.reduceAdd, Int.reduceSub]; try exact rfl) (by simp [go_sem]) ?_
  refine cw_call rfl rfl (by simp only [go_sem, Nat.reduceLT, Nat.reduceBEq, Nat.reduceLeDiff, Nat.reduceAdd, Nat.reduceMul, Nat.reduceSub, Nat.reduceEqDiff, Int.reduceNeg, Int.reduceToNat, Int.reduceAdd, Int.reduceSub]; try exact rfl) (by simp [go_sem]) ⟨_, Go.Proofs.Try.func128, by kernel_rfl, rfl⟩ (by simp [go_sem]) (clone_bytes _ ha) (by simp [go_sem]) (by simp only [go_sem, Nat.reduceLT, Nat.reduceBEq, Nat.reduceLeDiff, Nat.reduceAdd, Nat.reduceMul, Nat.reduceSub, Nat.reduceEqDiff, Int.reduceNeg, Int.reduceToNat, Int.reduceAdd, Int.reduceSub]; exact rfl) ?_
  refine cw_go tabOK 99 (by simp only [go_sem, Nat.reduceLT, Nat.reduceBEq, Nat.reduceLeDiff, Nat.reduceAdd, Nat.reduceMul, Nat.reduceSub, Nat.reduceEqDiff, Int.reduceNeg, Int.reduceToNat, Int.reduceAdd, Int.reduceSub]; try exact rfl) (by simp [go_sem]) ?_
  refine cw_ret ⟨_, _, (by simp only [go_sem, Nat.reduceLT, Nat.reduceBEq, Nat.reduceLeDiff, Nat.reduceAdd, Nat.reduceMul, Nat.reduceSub, Nat.reduceEqDiff, Int.reduceNeg, Int.reduceToNat, Int.reduceAdd, Int.reduceSub]; try exact rfl), by simp [go_sem], _, .inr (.inl rfl), ?_⟩
  rfl

theorem logs_ownH (l : List Rec) (hl : SmallL l) : FnOK Try.prog 19 [.sl (l.map recRow)] [] (fun r H => r = .osl 19 9 0 (l.map recRow).length ∧ ∀ i b, hget [(19, .cells 27 9 (l.map recRow))] i = some b → hget H i = some b) := by
  have hlen := hl.len
  refine fn_of_cwW tabOK (Go.Proofs.Try.func19) rfl (fun C => ?_)
  simp only [Go.Proofs.Try.ntmps19, Go.Proofs.Try.results19, go_sem, Nat.reduceLT, Nat.reduceBEq, Nat.reduceLeDiff, Nat.reduceAdd, Nat.reduceMul, Nat.reduceSub, Nat.reduceEqDiff, Int.reduceNeg, Int.reduceToNat, Int.reduceAdd, Int.reduceSub]
  refine cw_go tabOK 99 (by simp only [go_sem, Nat.reduceLT, Nat.reduceBEq, Nat.reduceLeDiff, Nat.reduceAdd, Nat.reduceMul, Nat.reduceSub, Nat.reduceEqDiff, Int.reduceNeg, Int.reduceToNat, Int.reduceAdd, Int.reduceSub]; try exact rfl) (by simp [go_sem]) ?_
  refine cw_loopS (fun i : Nat => i ≤ l.length) (fun i => l.length - i) (fun i => [(3, .osl 19 9 0 i), (5, .any), (8, .int .i64 i), (9, .any), (10, .any), (11, .any), (12, .any), (13, .any), (14, .any), (15, .any), (16, .any), (17, .any), (18, .any), (19, .any), (20, .any)])
    (fun i => [(19, .cells 27 9 ((l.take i).map recRow))]) 0 (by omega) ?_ fun i hi => ?_
  · simp only [go_sem, Nat.reduceLT, Nat.reduceBEq, Nat.reduceLeDiff, Nat.reduceAdd, Nat.reduceMul, Nat.reduceSub, Nat.reduceEqDiff, Int.reduceNeg, Int.reduceToNat, Int.reduceAdd, Int.reduceSub]
    exact le_sub (by simp [go_sem]) (by simp [go_sem]) (by simp only [go_sem, Nat.reduceLT, Nat.reduceBEq, Nat.reduceLeDiff, Nat.reduceAdd, Nat.reduceMul, Nat.reduceSub, Nat.reduceEqDiff, Int.reduceNeg, Int.reduceToNat, Int.reduceAdd, Int.reduceSub])
  simp only [go_sem, Nat.reduceLT, Nat.reduceBEq, Nat.reduceLeDiff, Nat.reduceAdd, Nat.reduceMul, Nat.reduceSub, Nat.reduceEqDiff, Int.reduceNeg, Int.reduceToNat, Int.reduceAdd, Int.reduceSub]
  refine cw_go tabOK 99 (by simp only [go_sem, Nat.reduceLT, Nat.reduceBEq, Nat.reduceLeDiff, Nat.reduceAdd, Nat.reduceMul, Nat.reduceSub, Nat.reduceEqDiff, Int.reduceNeg, Int.reduceToNat, Int.reduceAdd, Int.reduceSub]; try exact rfl) (by simp [go_sem]) ?_
  refine cw_cond (by simp only [go_sem, Nat.reduceLT, Nat.reduceBEq, Nat.reduceLeDiff, Nat.reduceAdd, Nat.reduceMul, Nat.reduceSub, Nat.reduceEqDiff, Int.reduceNeg, Int.reduceToNat, Int.reduceAdd, Int.reduceSub]; try exact rfl) trivial (fun h => ?_) (fun h => ?_)
  · have hlt : i < l.length := by simp at h; omega
    have hn := hl.each _ (getD_mem hlt)
    have hg : (l.map recRow).getD i [] = recRow (l.getD i default) := Fam.getD hlt
    have hs := take_succ_map recRow hlt
    generalize l.getD i default = n at hn hg hs
    refine cw_go tabOK 99 (by simp only [go_sem, Nat.reduceLT, Nat.reduceBEq, Nat.reduceLeDiff, Nat.reduceAdd, Nat.reduceMul, Nat.reduceSub, Nat.reduceEqDiff, Int.reduceNeg, Int.reduceToNat, Int.reduceAdd, Int.reduceSub, hg, recRow]; try exact rfl) ?_ ?_
    · simp [hlt, recRow]
    refine cw_call rfl rfl (by simp only [go_sem, Nat.reduceLT, Nat.reduceBEq, Nat.reduceLeDiff, Nat.reduceAdd, Nat.reduceMul, Nat.reduceSub, Nat.reduceEqDiff, Int.reduceNeg, Int.reduceToNat, Int.reduceAdd, Int.reduceSub]; try exact rfl) (by simp [go_sem]) ⟨_, Go.Proofs.Try.func72, by kernel_rfl, rfl⟩ (by simp [go_sem]) (acts_own n.act hn) (by simp [go_sem]) (by simp only [go_sem, Nat.reduceLT, Nat.reduceBEq, Nat.reduceLeDiff, Nat.reduceAdd, Nat.reduceMul, Nat.reduceSub, Nat.reduceEqDiff, Int.reduceNeg, Int.reduceToNat, Int.reduceAdd, Int.reduceSub]; exact rfl) ?_
    have ht : List.take i (List.map recRow (List.take i l)) = List.map recRow (List.take i l) := List.take_of_length_le (by simp; omega)
    have hw : IntKind.i64.wrap ((i : Int) + 1) = (i : Int) + 1 := wrap_small (by omega) (by omega)
    refine cw_go tabOK 99 (by simp only [go_sem, Nat.reduceLT, Nat.reduceBEq, Nat.reduceLeDiff, Nat.reduceAdd, Nat.reduceMul, Nat.reduceSub, Nat.reduceEqDiff, Int.reduceNeg, Int.reduceToNat, Int.reduceAdd, Int.reduceSub, ht, hw, actRow]; try exact rfl) ?_ ?_
    · simp [rowsOf]; omega
    refine cw_back ⟨i + 1, by omega, by omega, le_sub ?_ ?_ ?_⟩
    · simp [go_sem]
    · simp [go_sem, hs, recRow]
    · simp only [go_sem, Nat.reduceLT, Nat.reduceBEq, Nat.reduceLeDiff, Nat.reduceAdd, Nat.reduceMul, Nat.reduceSub, Nat.reduceEqDiff, Int.reduceNeg, Int.reduceToNat, Int.reduceAdd, Int.reduceSub]
  · have e : i = l.length := by simp at h; omega
    subst e
    refine cw_go tabOK 99 (by simp only [go_sem, Nat.reduceLT, Nat.reduceBEq, Nat.reduceLeDiff, Nat.reduceAdd, Nat.reduceMul, Nat.reduceSub, Nat.reduceEqDiff, Int.reduceNeg, Int.reduceToNat, Int.reduceAdd, Int.reduceSub]; try exact rfl) (by simp [go_sem]) ?_
    refine cw_ret ⟨_, _, (by simp only [go_sem, Nat.reduceLT, Nat.reduceBEq, Nat.reduceLeDiff, Nat.reduceAdd, Nat.reduceMul, Nat.reduceSub, Nat.reduceEqDiff, Int.reduceNeg, Int.reduceToNat, Int.reduceAdd, Int.reduceSub]; try exact rfl), by simp [go_sem], _, .inr (.inl rfl), ?_⟩
    simp [go_sem]

theorem logs_own (l : List Rec) (hl : SmallL l) : FnOK Try.prog 19 [.sl (l.map recRow)] [] (fun r _ => r = .sl (l.map recRow)) := FnOK.read (logs_ownH l hl) (recRow_pure _)

theorem logs_acts (l : List Rec) (hl : SmallL l) : FnOK Try.prog 20 [.sl (l.map recRow)] [] (fun r _ => r = .sl ((l.map Rec.act).map actRow)) := by
  have hlen := hl.len
  refine fn_of_cwW tabOK (Go.Proofs.Try.func20) rfl (fun C => ?_)
  simp only [Go.Proofs.Try.ntmps20, Go.Proofs.Try.results20, go_sem, Nat.reduceLT, Nat.reduceBEq, Nat.reduceLeDiff, Nat.reduceAdd, Nat.reduceMul, Nat.reduceSub, Nat.reduceEqDiff, Int.reduceNeg, Int.reduceToNat, Int.reduceAdd, Int.reduceSub]
  refine cw_go tabOK 99 (by simp only [go_sem, Nat.reduceLT, Nat.reduceBEq, Nat.reduceLeDiff, Nat.reduceAdd, Nat.reduceMul, Nat.reduceSub, Nat.reduceEqDiff, Int.reduceNeg, Int.reduceToNat, Int.reduceAdd, Int.reduceSub]; try exact rfl) (by simp [go_sem]) ?_
  refine cw_loopS (fun i : Nat => i ≤ l.length) (fun i => l.length - i) (fun i => [(3, .osl 17 7 0 i), (5, .any), (8, .int .i64 i), (9, .any), (10, .any), (11, .any), (12, .any), (13, .any), (14, .any), (15, .any), (16, .any), (17, .any), (18, .any)])
    (fun i => [(17, .cells 25 7 (((l.map Rec.act).take i).map actRow))]) 0 (by omega) ?_ fun i hi => ?_
  · simp only [go_sem, Nat.reduceLT, Nat.reduceBEq, Nat.reduceLeDiff, Nat.reduceAdd, Nat.reduceMul, Nat.reduceSub, Nat.reduceEqDiff, Int.reduceNeg, Int.reduceToNat, Int.reduceAdd, Int.reduceSub]
    exact le_sub (by simp [go_sem]) (by simp [go_sem]) (by simp only [go_sem, Nat.reduceLT, Nat.reduceBEq, Nat.reduceLeDiff, Nat.reduceAdd, Nat.reduceMul, Nat.reduceSub, Nat.reduceEqDiff, Int.reduceNeg, Int.reduceToNat, Int.reduceAdd, Int.reduceSub])
  simp only [go_sem, Nat.reduceLT, Nat.reduceBEq, Nat.reduceLeDiff, Nat.reduceAdd, Nat.reduceMul, Nat.reduceSub, Nat.reduceEqDiff, Int.reduceNeg, Int.reduceToNat, Int.reduceAdd, Int.reduceSub]
  refine cw_go tabOK 99 (by simp only [go_sem, Nat.reduceLT, Nat.reduceBEq, Nat.reduceLeDiff, Nat.reduceAdd, Nat.reduceMul, Nat.reduceSub, Nat.reduceEqDiff, Int.reduceNeg, Int.reduceToNat, Int.reduceAdd, Int.reduceSub]; try exact rfl) (by simp [go_sem]) ?_
  refine cw_cond (by simp only [go_sem, Nat.reduceLT, Nat.reduceBEq, Nat.reduceLeDiff, Nat.reduceAdd, Nat.reduceMul, Nat.reduceSub, Nat.reduceEqDiff, Int.reduceNeg, Int.reduceToNat, Int.reduceAdd, Int.reduceSub]; try exact rfl) trivial (fun h => ?_) (fun h => ?_)
  · have hlt : i < l.length := by simp at h; omega
    have hn := hl.each _ (getD_mem hlt)
    have hg : (l.map recRow).getD i [] = recRow (l.getD i default) := Fam.getD hlt
    have hs := take_succ_map actRow (l := l.map Rec.act) (i := i) (by simpa using hlt)
    have he : (l.map Rec.act).getD i default = (l.getD i default).act := by
      rw [List.getD_eq_getElem?_getD, List.getD_eq_getElem?_getD, List.getElem?_map, List.getElem?_eq_getElem hlt]; rfl
    rw [he] at hs
    generalize l.getD i default = n at hn hg hs
    refine cw_go tabOK 99 (by simp only [go_sem, Nat.reduceLT, Nat.reduceBEq, Nat.reduceLeDiff, Nat.reduceAdd, Nat.reduceMul, Nat.reduceSub, Nat.reduceEqDiff, Int.reduceNeg, Int.reduceToNat, Int.reduceAdd, Int.reduceSub, hg, recRow]; try exact rfl) ?_ ?_
    · simp [hlt, recRow]
    refine cw_call rfl rfl (by simp only [go_sem, Nat.reduceLT, Nat.reduceBEq, Nat.reduceLeDiff, Nat.reduceAdd, Nat.reduceMul, Nat.reduceSub, Nat.reduceEqDiff, Int.reduceNeg, Int.reduceToNat, Int.reduceAdd, Int.reduceSub]; try exact rfl) (by simp [go_sem]) ⟨_, Go.Proofs.Try.func72, by kernel_rfl, rfl⟩ (by simp [go_sem]) (acts_own n.act hn) (by simp [go_sem]) (by simp only [go_sem, Nat.reduceLT, Nat.reduceBEq, Nat.reduceLeDiff, Nat.reduceAdd, Nat.reduceMul, Nat.reduceSub, Nat.reduceEqDiff, Int.reduceNeg, Int.reduceToNat, Int.reduceAdd, Int.reduceSub]; exact rfl) ?_
    have ht : List.take i (List.map actRow (List.take i (l.map Rec.act))) = List.map actRow (List.take i (l.map Rec.act)) := List.take_of_length_le (by simp; omega)
    have hw : IntKind.i64.wrap ((i : Int) + 1) = (i : Int) + 1 := wrap_small (by omega) (by omega)
    refine cw_go tabOK 99 (by simp only [go_sem, Nat.reduceLT, Nat.reduceBEq, Nat.reduceLeDiff, Nat.reduceAdd, Nat.reduceMul, Nat.reduceSub, Nat.reduceEqDiff, Int.reduceNeg, Int.reduceToNat, Int.reduceAdd, Int.reduceSub, ht, hw, actRow]; try exact rfl) ?_ ?_
    · simp [rowsOf]; omega
    refine cw_back ⟨i + 1, by omega, by omega, le_sub ?_ ?_ ?_⟩
    · simp [go_sem]
    · simp [go_sem, hs, actRow]
    · simp only [go_sem, Nat.reduceLT, Nat.reduceBEq, Nat.reduceLeDiff, Nat.reduceAdd, Nat.reduceMul, Nat.reduceSub, Nat.reduceEqDiff, Int.reduceNeg, Int.reduceToNat, Int.reduceAdd, Int.reduceSub]
  · have e : i = l.length := by simp at h; omega
    subst e
    have e2 : List.take l.length (l.map Rec.act) = l.map Rec.act := List.take_of_length_le (by simp)
    rw [e2]
    refine cw_freeze 17 rfl (actRow_pure _) ?_
    simp only [go_sem, Nat.reduceLT, Nat.reduceBEq, Nat.reduceLeDiff, Nat.reduceAdd, Nat.reduceMul, Nat.reduceSub, Nat.reduceEqDiff, Int.reduceNeg, Int.reduceToNat, Int.reduceAdd, Int.reduceSub]
    refine cw_go tabOK 99 (by simp only [go_sem, Nat.reduceLT, Nat.reduceBEq, Nat.reduceLeDiff, Nat.reduceAdd, Nat.reduceMul, Nat.reduceSub, Nat.reduceEqDiff, Int.reduceNeg, Int.reduceToNat, Int.reduceAdd, Int.reduceSub]; try exact rfl) (by simp [go_sem]) ?_
    refine cw_ret ⟨_, _, (by simp only [go_sem, Nat.reduceLT, Nat.reduceBEq, Nat.reduceLeDiff, Nat.reduceAdd, Nat.reduceMul, Nat.reduceSub, Nat.reduceEqDiff, Int.reduceNeg, Int.reduceToNat, Int.reduceAdd, Int.reduceSub]; try exact rfl), by simp [go_sem], _, .inr (.inl rfl), ?_⟩
    simp
end La

namespace La
open Go Go.Eng Go.Proofs
set_option maxRecDepth 10000
set_option linter.unusedSimpArgs false
set_option linter.unusedVariables false

set_option maxHeartbeats 1000000 in
theorem all_good (l : List Node) (al : List Act) (v : Int) (st : Nat → List Node) (hl : Small l) (hlen : al.length ≤ 100000000) (h0 : st 0 = l)
    (hs : ∀ i, i < al.length → FitA (st i) (al.getD i default) ∧ (al.getD i default).kind ≠ 5 ∧ applyE (st i) (al.getD i default) = 0 ∧ st (i + 1) = applyL (st i) (al.getD i default) v) :
    FnOK Try.prog 98 [.sl (l.map nodeRow), .sl (al.map actRow), .int .i64 v] [] (fun r _ => r = .tup [.sl ((st al.length).map nodeRow), .int .i64 al.length, .int .i64 0]) := by
  refine fn_of_cwW tabOK (Go.Proofs.Try.func98) rfl (fun C => ?_)
  simp only [Go.Proofs.Try.ntmps98, Go.Proofs.Try.results98, go_sem, Nat.reduceLT, Nat.reduceBEq, Nat.reduceLeDiff, Nat.reduceAdd, Nat.reduceMul, Nat.reduceSub, Nat.reduceEqDiff, Int.reduceNeg, Int.reduceToNat, Int.reduceAdd, Int.reduceSub]
  refine cw_go tabOK 99 (by simp only [go_sem, Nat.reduceLT, Nat.reduceBEq, Nat.reduceLeDiff, Nat.reduceAdd, Nat.reduceMul, Nat.reduceSub, Nat.reduceEqDiff, Int.reduceNeg, Int.reduceToNat, Int.reduceAdd, Int.reduceSub]; try exact rfl) (by simp [go_sem]) ?_
  refine cw_call rfl rfl (by simp only [go_sem, Nat.reduceLT, Nat.reduceBEq, Nat.reduceLeDiff, Nat.reduceAdd, Nat.reduceMul, Nat.reduceSub, Nat.reduceEqDiff, Int.reduceNeg, Int.reduceToNat, Int.reduceAdd, Int.reduceSub]; try exact rfl) (by simp [go_sem]) ⟨_, Go.Proofs.Try.func86, by kernel_rfl, rfl⟩ (by simp [go_sem]) (own_ok l hl) (by simp [go_sem]) (by simp only [go_sem, Nat.reduceLT, Nat.reduceBEq, Nat.reduceLeDiff, Nat.reduceAdd, Nat.reduceMul, Nat.reduceSub, Nat.reduceEqDiff, Int.reduceNeg, Int.reduceToNat, Int.reduceAdd, Int.reduceSub]; exact rfl) ?_
  refine cw_go tabOK 99 (by simp only [go_sem, Nat.reduceLT, Nat.reduceBEq, Nat.reduceLeDiff, Nat.reduceAdd, Nat.reduceMul, Nat.reduceSub, Nat.reduceEqDiff, Int.reduceNeg, Int.reduceToNat, Int.reduceAdd, Int.reduceSub]; try exact rfl) (by simp [go_sem]) ?_
  rw [← h0]
  refine cw_loopS (fun i : Nat => i ≤ al.length) (fun i => al.length - i) (fun i => [(9, .sl ((st i).map nodeRow)), (10, .any), (11, .any), (12, .any), (13, .any), (18, .int .i64 i), (19, .any), (20, .any), (21, .any), (22, .any), (23, .any), (24, .any), (25, .any), (26, .any), (27, .any), (28, .any), (29, .any), (30, .any), (31, .any), (32, .any), (33, .any), (34, .any), (35, .any)]) (fun _ => []) 0 (by omega) ?_ fun i hi => ?_
  · simp only [go_sem, Nat.reduceLT, Nat.reduceBEq, Nat.reduceLeDiff, Nat.reduceAdd, Nat.reduceMul, Nat.reduceSub, Nat.reduceEqDiff, Int.reduceNeg, Int.reduceToNat, Int.reduceAdd, Int.reduceSub]
    exact le_sub (by simp [go_sem]) (by simp [go_sem]) (by simp [go_sem])
  simp only [go_sem, Nat.reduceLT, Nat.reduceBEq, Nat.reduceLeDiff, Nat.reduceAdd, Nat.reduceMul, Nat.reduceSub, Nat.reduceEqDiff, Int.reduceNeg, Int.reduceToNat, Int.reduceAdd, Int.reduceSub]
  refine cw_go tabOK 99 (by simp only [go_sem, Nat.reduceLT, Nat.reduceBEq, Nat.reduceLeDiff, Nat.reduceAdd, Nat.reduceMul, Nat.reduceSub, Nat.reduceEqDiff, Int.reduceNeg, Int.reduceToNat, Int.reduceAdd, Int.reduceSub]; try exact rfl) (by simp [go_sem]) ?_
  refine cw_cond (by simp only [go_sem, Nat.reduceLT, Nat.reduceBEq, Nat.reduceLeDiff, Nat.reduceAdd, Nat.reduceMul, Nat.reduceSub, Nat.reduceEqDiff, Int.reduceNeg, Int.reduceToNat, Int.reduceAdd, Int.reduceSub]; try exact rfl) trivial (fun h => ?_) (fun h => ?_)
  · have hlt : i < al.length := by simp at h; omega
    have hg : (al.map actRow).getD i [] = actRow (al.getD i default) := Fam.getD hlt
    have hw : IntKind.i64.wrap ((i : Int) + 1) = ((i + 1 : Nat) : Int) := by rw [Eng.wrap_small (by omega) (by omega)]; rfl
    obtain ⟨h1, h2, h3, h4⟩ := hs i hlt
    have hap := apply_ok (st i) (al.getD i default) v h1 (fun h => absurd h h2)
    unfold applyR at hap
    rw [if_pos h3, ← h4] at hap
    generalize al.getD i default = a at hg hap
    refine cw_go tabOK 99 (by simp only [go_sem, Nat.reduceLT, Nat.reduceBEq, Nat.reduceLeDiff, Nat.reduceAdd, Nat.reduceMul, Nat.reduceSub, Nat.reduceEqDiff, Int.reduceNeg, Int.reduceToNat, Int.reduceAdd, Int.reduceSub, hg, actRow]; try exact rfl) ?_ ?_
    · simp [hg, hlt, actRow]
    refine cw_call rfl rfl (by simp only [go_sem, Nat.reduceLT, Nat.reduceBEq, Nat.reduceLeDiff, Nat.reduceAdd, Nat.reduceMul, Nat.reduceSub, Nat.reduceEqDiff, Int.reduceNeg, Int.reduceToNat, Int.reduceAdd, Int.reduceSub]; try exact rfl) (by simp [go_sem]) ⟨_, Go.Proofs.Try.func40, by kernel_rfl, rfl⟩ (by simp [go_sem]) (hap) (by simp [go_sem]) (by simp only [go_sem, Nat.reduceLT, Nat.reduceBEq, Nat.reduceLeDiff, Nat.reduceAdd, Nat.reduceMul, Nat.reduceSub, Nat.reduceEqDiff, Int.reduceNeg, Int.reduceToNat, Int.reduceAdd, Int.reduceSub]; exact rfl) ?_
    refine cw_go tabOK 99 (by simp only [go_sem, Nat.reduceLT, Nat.reduceBEq, Nat.reduceLeDiff, Nat.reduceAdd, Nat.reduceMul, Nat.reduceSub, Nat.reduceEqDiff, Int.reduceNeg, Int.reduceToNat, Int.reduceAdd, Int.reduceSub]; try exact rfl) (by simp [go_sem]) ?_
    refine cw_cond (by simp only [go_sem, Nat.reduceLT, Nat.reduceBEq, Nat.reduceLeDiff, Nat.reduceAdd, Nat.reduceMul, Nat.reduceSub, Nat.reduceEqDiff, Int.reduceNeg, Int.reduceToNat, Int.reduceAdd, Int.reduceSub]; try exact rfl) trivial (fun h => ?_) (fun h => ?_)
    · cases h
    refine cw_go tabOK 99 (by simp only [go_sem, Nat.reduceLT, Nat.reduceBEq, Nat.reduceLeDiff, Nat.reduceAdd, Nat.reduceMul, Nat.reduceSub, Nat.reduceEqDiff, Int.reduceNeg, Int.reduceToNat, Int.reduceAdd, Int.reduceSub, hw]; try exact rfl) (by simp [go_sem, hw]) ?_
    refine cw_back ⟨i + 1, by omega, by omega, le_sub ?_ ?_ ?_⟩
    · simp [go_sem]
    · simp [go_sem]
    · simp [go_sem]
  · have e : i = al.length := by simp at h; omega
    subst e
    refine cw_go tabOK 99 (by simp only [go_sem, Nat.reduceLT, Nat.reduceBEq, Nat.reduceLeDiff, Nat.reduceAdd, Nat.reduceMul, Nat.reduceSub, Nat.reduceEqDiff, Int.reduceNeg, Int.reduceToNat, Int.reduceAdd, Int.reduceSub]; try exact rfl) (by simp [go_sem]) ?_
    refine cw_ret ⟨_, _, (by simp only [go_sem, Nat.reduceLT, Nat.reduceBEq, Nat.reduceLeDiff, Nat.reduceAdd, Nat.reduceMul, Nat.reduceSub, Nat.reduceEqDiff, Int.reduceNeg, Int.reduceToNat, Int.reduceAdd, Int.reduceSub]; try exact rfl), by simp [go_sem], _, .inr (.inl rfl), ?_⟩
    rfl

def a3M : Act := ⟨1, 1, 0, [97], 0, [], []⟩
def a3S : Act := ⟨3, 1, 0, [], 0, [], [113]⟩
theorem a3fit (l : List Node) (a : Act) (h : l.length ≤ 1000) (h2 : ∀ n, n ∈ l → n.data.length ≤ 1000 ∧ n.entries.length ≤ 1000) (h3 : a.name.length ≤ 1000) (h4 : a.toName.length ≤ 1000) (h5 : a.data.length ≤ 1000) : FitA l a :=
  ⟨smallC_of l h h2, by omega, fun n hn => by have := (h2 n hn).2; omega, by omega, by omega, by omega⟩
theorem a3p1 : FnOK Try.prog 40 [.sl ([rootN].map nodeRow), .agg (actRow a3M), .int .i64 4] [] (fun r _ => r = .tup [.sl ([⟨0, true, [], [⟨[97], 1⟩], 4⟩, ⟨1, false, [], [], 4⟩].map nodeRow), .int .i64 0]) :=
  apply_ok [rootN] a3M 4 (a3fit _ _ (by decide) (by decide) (by decide) (by decide) (by decide)) (fun h => absurd h (by decide))
def a3st : Nat → List Node
  | 0 => [rootN]
  | 1 => [⟨0, true, [], [⟨[97], 1⟩], 1⟩, ⟨1, false, [], [], 1⟩]
  | _ => [⟨0, true, [], [⟨[97], 1⟩], 1⟩, ⟨1, false, [113], [], 1⟩]
theorem a3p2 : FnOK Try.prog 98 [.sl ([rootN].map nodeRow), .sl ([a3M, a3S].map actRow), .int .i64 1] [] (fun r _ => r = .tup [.sl ([⟨0, true, [], [⟨[97], 1⟩], 1⟩, ⟨1, false, [113], [], 1⟩].map nodeRow), .int .i64 2, .int .i64 0]) :=
  all_good [rootN] [a3M, a3S] 1 a3st a2s0 (by decide) rfl (fun i hi => by
    have : i = 0 ∨ i = 1 := by simp at hi; omega
    rcases this with rfl | rfl
    · exact ⟨a3fit _ _ (by decide) (by decide) (by decide) (by decide) (by decide), by decide, by decide, by decide⟩
    · exact ⟨a3fit _ _ (by decide) (by decide) (by decide) (by decide) (by decide), by decide, by decide, by decide⟩)
theorem a3p3 : FnOK Try.prog 99 [.agg (actRow ⟨5, 0, 0, [], 0, [], []⟩)] [] (fun r _ => r = .sl ([0, 0, 0].map intRow)) := fids_ok ⟨5, 0, 0, [], 0, [], []⟩
theorem a3p4 : FnOK Try.prog 72 [.agg (actRow ⟨0, 0, 0, [], 0, [], [120]⟩)] [] (fun r _ => r = .agg (actRow ⟨0, 0, 0, [], 0, [], [120]⟩)) := acts_own ⟨0, 0, 0, [], 0, [], [120]⟩ (by unfold Act.Small; decide)

set_option maxHeartbeats 2000000 in
theorem alive3 : FnOK Try.prog 39 [] [] (fun r _ => r = .bool true) := by
  refine fn_of_cwW tabOK (Go.Proofs.Try.func39) rfl (fun C => ?_)
  simp only [Go.Proofs.Try.ntmps39, Go.Proofs.Try.results39, go_sem, Nat.reduceLT, Nat.reduceBEq, Nat.reduceLeDiff, Nat.reduceAdd, Nat.reduceMul, Nat.reduceSub, Nat.reduceEqDiff, Int.reduceNeg, Int.reduceToNat, Int.reduceAdd, Int.reduceSub]
  refine cw_go tabOK 99 (by simp only [go_sem, Nat.reduceLT, Nat.reduceBEq, Nat.reduceLeDiff, Nat.reduceAdd, Nat.reduceMul, Nat.reduceSub, Nat.reduceEqDiff, Int.reduceNeg, Int.reduceToNat, Int.reduceAdd, Int.reduceSub]; try exact rfl) (by simp [go_sem]) ?_
  refine cw_freeze 8 rfl (rfl) ?_
  simp only [go_sem, Nat.reduceLT, Nat.reduceBEq, Nat.reduceLeDiff, Nat.reduceAdd, Nat.reduceMul, Nat.reduceSub, Nat.reduceEqDiff, Int.reduceNeg, Int.reduceToNat, Int.reduceAdd, Int.reduceSub]
  refine cw_call rfl rfl (by simp only [go_sem, Nat.reduceLT, Nat.reduceBEq, Nat.reduceLeDiff, Nat.reduceAdd, Nat.reduceMul, Nat.reduceSub, Nat.reduceEqDiff, Int.reduceNeg, Int.reduceToNat, Int.reduceAdd, Int.reduceSub]; try exact rfl) (by simp [go_sem]) ⟨_, Go.Proofs.Try.func40, by kernel_rfl, rfl⟩ (by simp [go_sem]) (by exact FnOK.nrm rfl (a3p1)) (by simp [go_sem]) (by simp only [go_sem, Nat.reduceLT, Nat.reduceBEq, Nat.reduceLeDiff, Nat.reduceAdd, Nat.reduceMul, Nat.reduceSub, Nat.reduceEqDiff, Int.reduceNeg, Int.reduceToNat, Int.reduceAdd, Int.reduceSub]; exact rfl) ?_
  refine cw_go tabOK 99 (by simp only [go_sem, Nat.reduceLT, Nat.reduceBEq, Nat.reduceLeDiff, Nat.reduceAdd, Nat.reduceMul, Nat.reduceSub, Nat.reduceEqDiff, Int.reduceNeg, Int.reduceToNat, Int.reduceAdd, Int.reduceSub]; try exact rfl) (by simp [go_sem]) ?_
  refine cw_step rfl (trip_bytes tabOK rfl rfl rfl (id := 17) (n := 1) (by simp only [go_sem, Nat.reduceLT, Nat.reduceBEq, Nat.reduceLeDiff, Nat.reduceAdd, Nat.reduceMul, Nat.reduceSub, Nat.reduceEqDiff, Int.reduceNeg, Int.reduceToNat, Int.reduceAdd, Int.reduceSub]; try exact rfl) (by simp only [go_sem, Nat.reduceLT, Nat.reduceBEq, Nat.reduceLeDiff, Nat.reduceAdd, Nat.reduceMul, Nat.reduceSub, Nat.reduceEqDiff, Int.reduceNeg, Int.reduceToNat, Int.reduceAdd, Int.reduceSub]; exact rfl) (by decide) rfl rfl) ?_
  simp only [go_sem, Nat.reduceLT, Nat.reduceBEq, Nat.reduceLeDiff, Nat.reduceAdd, Nat.reduceMul, Nat.reduceSub, Nat.reduceEqDiff, Int.reduceNeg, Int.reduceToNat, Int.reduceAdd, Int.reduceSub]
  refine cw_go tabOK 99 (by simp only [go_sem, Nat.reduceLT, Nat.reduceBEq, Nat.reduceLeDiff, Nat.reduceAdd, Nat.reduceMul, Nat.reduceSub, Nat.reduceEqDiff, Int.reduceNeg, Int.reduceToNat, Int.reduceAdd, Int.reduceSub]; try exact rfl) (by simp [go_sem]) ?_
  refine cw_freeze 15 rfl (rfl) ?_
  refine cw_freeze 20 rfl (rfl) ?_
  simp only [go_sem, Nat.reduceLT, Nat.reduceBEq, Nat.reduceLeDiff, Nat.reduceAdd, Nat.reduceMul, Nat.reduceSub, Nat.reduceEqDiff, Int.reduceNeg, Int.reduceToNat, Int.reduceAdd, Int.reduceSub]
  refine cw_call rfl rfl (by simp only [go_sem, Nat.reduceLT, Nat.reduceBEq, Nat.reduceLeDiff, Nat.reduceAdd, Nat.reduceMul, Nat.reduceSub, Nat.reduceEqDiff, Int.reduceNeg, Int.reduceToNat, Int.reduceAdd, Int.reduceSub]; try exact rfl) (by simp [go_sem]) ⟨_, Go.Proofs.Try.func98, by kernel_rfl, rfl⟩ (by simp [go_sem]) (by exact FnOK.nrm rfl (a3p2)) (by simp [go_sem]) (by simp only [go_sem, Nat.reduceLT, Nat.reduceBEq, Nat.reduceLeDiff, Nat.reduceAdd, Nat.reduceMul, Nat.reduceSub, Nat.reduceEqDiff, Int.reduceNeg, Int.reduceToNat, Int.reduceAdd, Int.reduceSub]; exact rfl) ?_
  refine cw_go tabOK 99 (by simp only [go_sem, Nat.reduceLT, Nat.reduceBEq, Nat.reduceLeDiff, Nat.reduceAdd, Nat.reduceMul, Nat.reduceSub, Nat.reduceEqDiff, Int.reduceNeg, Int.reduceToNat, Int.reduceAdd, Int.reduceSub, nodeRow]; try exact rfl) ?_ ?_
  · simp [go_sem, nodeRow]
  refine cw_callC rfl (by simp only [go_sem, Nat.reduceLT, Nat.reduceBEq, Nat.reduceLeDiff, Nat.reduceAdd, Nat.reduceMul, Nat.reduceSub, Nat.reduceEqDiff, Int.reduceNeg, Int.reduceToNat, Int.reduceAdd, Int.reduceSub]; try exact rfl) (by simp only [go_sem, Nat.reduceLT, Nat.reduceBEq, Nat.reduceLeDiff, Nat.reduceAdd, Nat.reduceMul, Nat.reduceSub, Nat.reduceEqDiff, Int.reduceNeg, Int.reduceToNat, Int.reduceAdd, Int.reduceSub]; try exact rfl) (by simp [go_sem]) ⟨_, Go.Proofs.Try.func99, by kernel_rfl, rfl⟩ (by simp [go_sem]) (fun hb => (by exact FnOK.nrm rfl (a3p3))) (by simp [go_sem]) (by simp only [go_sem, Nat.reduceLT, Nat.reduceBEq, Nat.reduceLeDiff, Nat.reduceAdd, Nat.reduceMul, Nat.reduceSub, Nat.reduceEqDiff, Int.reduceNeg, Int.reduceToNat, Int.reduceAdd, Int.reduceSub]; exact rfl) ?_
  refine cw_go tabOK 99 (by simp only [go_sem, Nat.reduceLT, Nat.reduceBEq, Nat.reduceLeDiff, Nat.reduceAdd, Nat.reduceMul, Nat.reduceSub, Nat.reduceEqDiff, Int.reduceNeg, Int.reduceToNat, Int.reduceAdd, Int.reduceSub]; try exact rfl) (by simp [go_sem]) ?_
  refine cw_step (by simp only [go_sem, Nat.reduceLT, Nat.reduceBEq, Nat.reduceLeDiff, Nat.reduceAdd, Nat.reduceMul, Nat.reduceSub, Nat.reduceEqDiff, Int.reduceNeg, Int.reduceToNat, Int.reduceAdd, Int.reduceSub]; try exact rfl) (trip_bytes tabOK rfl rfl rfl (id := 62) (n := 1) (by simp only [go_sem, Nat.reduceLT, Nat.reduceBEq, Nat.reduceLeDiff, Nat.reduceAdd, Nat.reduceMul, Nat.reduceSub, Nat.reduceEqDiff, Int.reduceNeg, Int.reduceToNat, Int.reduceAdd, Int.reduceSub]; try exact rfl) (by simp only [go_sem, Nat.reduceLT, Nat.reduceBEq, Nat.reduceLeDiff, Nat.reduceAdd, Nat.reduceMul, Nat.reduceSub, Nat.reduceEqDiff, Int.reduceNeg, Int.reduceToNat, Int.reduceAdd, Int.reduceSub]; exact rfl) (by decide) rfl rfl) ?_
  simp only [go_sem, Nat.reduceLT, Nat.reduceBEq, Nat.reduceLeDiff, Nat.reduceAdd, Nat.reduceMul, Nat.reduceSub, Nat.reduceEqDiff, Int.reduceNeg, Int.reduceToNat, Int.reduceAdd, Int.reduceSub]
  refine cw_go tabOK 99 (by simp only [go_sem, Nat.reduceLT, Nat.reduceBEq, Nat.reduceLeDiff, Nat.reduceAdd, Nat.reduceMul, Nat.reduceSub, Nat.reduceEqDiff, Int.reduceNeg, Int.reduceToNat, Int.reduceAdd, Int.reduceSub]; try exact rfl) (by simp [go_sem]) ?_
  refine cw_callC rfl (by simp only [go_sem, Nat.reduceLT, Nat.reduceBEq, Nat.reduceLeDiff, Nat.reduceAdd, Nat.reduceMul, Nat.reduceSub, Nat.reduceEqDiff, Int.reduceNeg, Int.reduceToNat, Int.reduceAdd, Int.reduceSub]; try exact rfl) (by simp only [go_sem, Nat.reduceLT, Nat.reduceBEq, Nat.reduceLeDiff, Nat.reduceAdd, Nat.reduceMul, Nat.reduceSub, Nat.reduceEqDiff, Int.reduceNeg, Int.reduceToNat, Int.reduceAdd, Int.reduceSub]; try exact rfl) (by simp [go_sem]) ⟨_, Go.Proofs.Try.func72, by kernel_rfl, rfl⟩ (by simp [go_sem]) (fun hb => (by exact FnOK.nrm rfl (a3p4))) (by simp [go_sem]) (by simp only [go_sem, Nat.reduceLT, Nat.reduceBEq, Nat.reduceLeDiff, Nat.reduceAdd, Nat.reduceMul, Nat.reduceSub, Nat.reduceEqDiff, Int.reduceNeg, Int.reduceToNat, Int.reduceAdd, Int.reduceSub]; exact rfl) ?_
  refine cw_go tabOK 99 (by simp only [go_sem, Nat.reduceLT, Nat.reduceBEq, Nat.reduceLeDiff, Nat.reduceAdd, Nat.reduceMul, Nat.reduceSub, Nat.reduceEqDiff, Int.reduceNeg, Int.reduceToNat, Int.reduceAdd, Int.reduceSub, actRow]; try exact rfl) ?_ ?_
  · simp [go_sem, actRow]
  refine cw_ret ⟨_, _, (by simp only [go_sem, Nat.reduceLT, Nat.reduceBEq, Nat.reduceLeDiff, Nat.reduceAdd, Nat.reduceMul, Nat.reduceSub, Nat.reduceEqDiff, Int.reduceNeg, Int.reduceToNat, Int.reduceAdd, Int.reduceSub]; try exact rfl), by simp [go_sem], _, .inr (.inl rfl), ?_⟩
  rfl
end La

namespace La
open Go Go.Eng Go.Proofs
set_option maxRecDepth 10000
set_option linter.unusedSimpArgs false
set_option linter.unusedVariables false

theorem putN_mem {l : List Node} {n x : Node} (h : x ∈ putN l n) : x = n ∨ x ∈ l := by
  unfold putN at h
  split at h
  · rcases List.mem_or_eq_of_mem_set h with h | h
    · exact .inr h
    · exact .inl h
  · rcases List.mem_append.1 h with h | h
    · exact .inr (List.mem_of_mem_take h)
    · rcases List.mem_cons.1 h with h | h
      · exact .inl h
      · exact .inr (List.mem_of_mem_drop h)
theorem enterE_length (l : List Entry) (s : List UInt8) (f : Int) : (enterE l s f).length ≤ l.length + 1 := by
  unfold enterE
  split
  · simp
  · have := eplace_le l s
    simp; omega

/-- what fits has room for some more -/
structure FitN (K : Nat) (l : List Node) : Prop where
  len : l.length ≤ K
  data : ∀ n, n ∈ l → n.data.length ≤ 100000000
  ent : ∀ n, n ∈ l → n.entries.length ≤ K
theorem FitN.small {K : Nat} {l : List Node} (h : FitN K l) (hK : K ≤ 99999990) : Small l := ⟨by have := h.len; omega, fun n hn => ⟨h.data n hn, by have := h.ent n hn; omega⟩⟩
theorem FitN.fit {K : Nat} {l : List Node} (h : FitN K l) (hK : K ≤ 99999990) {a : Act} (h1 : a.name.length ≤ 100000000) (h2 : a.toName.length ≤ 100000000) (h3 : a.data.length ≤ 100000000) : FitA l a :=
  ⟨h.small hK, by have := h.len; omega, fun n hn => by have := h.ent n hn; omega, h1, h2, h3⟩
theorem FitN.put {K : Nat} {l : List Node} (h : FitN K l) {n : Node} (h1 : n.data.length ≤ 100000000) (h2 : n.entries.length ≤ K + 1) : FitN (K + 1) (putN l n) :=
  ⟨by have := putN_length l n; have := h.len; omega, fun x hx => by
    rcases putN_mem hx with rfl | hx
    · exact h1
    · exact h.data x hx, fun x hx => by
    rcases putN_mem hx with rfl | hx
    · exact h2
    · have := h.ent x hx; omega⟩
theorem FitN.get {K : Nat} {l : List Node} (h : FitN K l) (k : Int) : (getN l k).data.length ≤ 100000000 ∧ (getN l k).entries.length ≤ K := by
  unfold getN
  cases e : findN l k with
  | none => simp [zeroN]
  | some n => exact ⟨h.data n (findN_mem e), h.ent n (findN_mem e)⟩
theorem FitN.make {K : Nat} {l : List Node} (h : FitN K l) (a : Act) (v : Int) : FitN (K + 2) (makeL l a v) := by
  unfold makeL
  split
  · refine FitN.put (FitN.put h ?_ ?_) (by simp [madeN]) (by simp [madeN])
    · exact (h.get a.dir).1
    · show (enterE (getN l a.dir).entries a.name a.fid).length ≤ K + 1
      have := enterE_length (getN l a.dir).entries a.name a.fid
      have := (h.get a.dir).2
      omega
  · exact ⟨by have := h.len; omega, h.data, fun n hn => by have := h.ent n hn; omega⟩

theorem nrm_nodes (l : List Node) : nrmR (l.map nodeRow) = l.map nodeRow := by
  rw [nrmR_map, List.map_map]
  exact List.map_congr_left fun n _ => nrm_nodeRow n

def backA (dir : Int) (name : List UInt8) (fid : Int) (d : Bool) : Act := ⟨if d then 2 else 1, fid, dir, name, 0, [], []⟩


set_option maxHeartbeats 2000000 in
theorem back_ok (l : List Node) (dir : Int) (name : List UInt8) (fid : Int) (d : Bool) (hl : FitN 90000000 l) (hname : name.length ≤ 100000000) :
    FnOK Try.prog 8 [.sl (l.map nodeRow), .int .i64 dir, .str name, .int .i64 fid, .bool d] [] (fun r _ => r = .bool true) := by
  have hsl := hl.small (by omega)
  have hk : (backA dir name fid d).kind = 1 ∨ (backA dir name fid d).kind = 2 := by cases d <;> simp [backA]
  have hfit := hl.fit (a := backA dir name fid d) (by omega) hname (by simp [backA]) (by simp [backA])
  have c1 := apply_ok l (backA dir name fid d) 7 hfit (fun h => by rcases hk with h2 | h2 <;> rw [h2] at h <;> cases h)
  have hE : applyE l (backA dir name fid d) = makeE l (backA dir name fid d) := by
    unfold applyE
    rcases hk with h2 | h2 <;> rw [h2] <;> simp
  have hL : applyL l (backA dir name fid d) 7 = makeL l (backA dir name fid d) 7 := by
    unfold applyL
    rcases hk with h2 | h2 <;> rw [h2] <;> simp
  unfold applyR at c1
  rw [hE, hL] at c1
  have hplain := fun hr he => back_plain hk (l := l) hr he
  have hfx := hl.make (backA dir name fid d) 7
  have hsx := hfx.small (by omega)
  generalize hx : makeL l (backA dir name fid d) 7 = x at c1 hplain hfx hsx
  have c2 := apply_ok x { backA dir name fid d with kind := 4 } 8 (hfx.fit (by omega) hname (by simp [backA]) (by simp [backA])) (fun h => by simp at h)
  have hE2 : applyE x { backA dir name fid d with kind := 4 } = removeE x { backA dir name fid d with kind := 4 } := by simp [applyE]
  have hL2 : applyL x { backA dir name fid d with kind := 4 } 8 = removeL x { backA dir name fid d with kind := 4 } 8 := by simp [applyL]
  unfold applyR at c2
  rw [hE2, hL2] at c2
  have hsy : removeE x { backA dir name fid d with kind := 4 } = 0 → Small (removeL x { backA dir name fid d with kind := 4 } 8) := fun h => by
    unfold removeL
    rw [if_pos h]
    refine dropN_small (FitN.small (K := 90000003) (FitN.put hfx ?_ ?_) (by omega)) _
    · exact (hfx.get _).1
    · show (leaveE _ _).length ≤ _
      have h1 := List.length_filter_le (fun e : Entry => !(e.name == name)) (getN x dir).entries
      have h2 := (hfx.get dir).2
      have h3 : (leaveE (getN x dir).entries name).length ≤ (getN x dir).entries.length := h1
      exact Nat.le_trans h3 (by omega)
  generalize removeL x { backA dir name fid d with kind := 4 } 8 = y at c2 hplain hsy
  generalize removeE x { backA dir name fid d with kind := 4 } = e2 at c2 hplain hsy
  generalize makeE l (backA dir name fid d) = e1 at c1 hplain
  have d1 : FnOK Try.prog 40 [.sl (l.map nodeRow), .agg [.int .i64 (if d then 2 else 1), .int .i64 fid, .int .i64 dir, .str name, .int .i64 0, .str [], .nils], .int .i64 7] [] _ := FnOK.nrm (by
    simp only [nrmL, nrm, nrm_nodes]; rfl) c1
  have d2 : FnOK Try.prog 40 [.sl (x.map nodeRow), .agg [.int .i64 4, .int .i64 fid, .int .i64 dir, .str name, .int .i64 0, .str [], .nils], .int .i64 8] [] _ := FnOK.nrm (by
    simp only [nrmL, nrm, nrm_nodes]; rfl) c2
  clear c1 c2 hE hL hE2 hL2 hx hfit hk
  refine fn_of_cwW tabOK (Go.Proofs.Try.func8) rfl (fun C => ?_)
  simp only [Go.Proofs.Try.ntmps8, Go.Proofs.Try.results8, go_sem, Nat.reduceLT, Nat.reduceBEq, Nat.reduceLeDiff, Nat.reduceAdd, Nat.reduceMul, Nat.reduceSub, Nat.reduceEqDiff, Int.reduceNeg, Int.reduceToNat, Int.reduceAdd, Int.reduceSub]
  refine cw_go tabOK 99 (by simp only [go_sem, Nat.reduceLT, Nat.reduceBEq, Nat.reduceLeDiff, Nat.reduceAdd, Nat.reduceMul, Nat.reduceSub, Nat.reduceEqDiff, Int.reduceNeg, Int.reduceToNat, Int.reduceAdd, Int.reduceSub]; try exact rfl) (by simp [go_sem]) ?_
  refine cw_call rfl rfl (by simp only [go_sem, Nat.reduceLT, Nat.reduceBEq, Nat.reduceLeDiff, Nat.reduceAdd, Nat.reduceMul, Nat.reduceSub, Nat.reduceEqDiff, Int.reduceNeg, Int.reduceToNat, Int.reduceAdd, Int.reduceSub]; try exact rfl) (by simp [go_sem]) ⟨_, Go.Proofs.Try.func39, by kernel_rfl, rfl⟩ (by simp [go_sem]) (alive3) (by simp [go_sem]) (by simp only [go_sem, Nat.reduceLT, Nat.reduceBEq, Nat.reduceLeDiff, Nat.reduceAdd, Nat.reduceMul, Nat.reduceSub, Nat.reduceEqDiff, Int.reduceNeg, Int.reduceToNat, Int.reduceAdd, Int.reduceSub]; exact rfl) ?_
  refine cw_go tabOK 99 (by simp only [go_sem, Nat.reduceLT, Nat.reduceBEq, Nat.reduceLeDiff, Nat.reduceAdd, Nat.reduceMul, Nat.reduceSub, Nat.reduceEqDiff, Int.reduceNeg, Int.reduceToNat, Int.reduceAdd, Int.reduceSub]; try exact rfl) (by simp [go_sem]) ?_
  refine cw_condF (by simp only [go_sem, Nat.reduceLT, Nat.reduceBEq, Nat.reduceLeDiff, Nat.reduceAdd, Nat.reduceMul, Nat.reduceSub, Nat.reduceEqDiff, Int.reduceNeg, Int.reduceToNat, Int.reduceAdd, Int.reduceSub]; try exact rfl) trivial (by rfl) ?_
  refine cw_go tabOK 99 (by simp only [go_sem, Nat.reduceLT, Nat.reduceBEq, Nat.reduceLeDiff, Nat.reduceAdd, Nat.reduceMul, Nat.reduceSub, Nat.reduceEqDiff, Int.reduceNeg, Int.reduceToNat, Int.reduceAdd, Int.reduceSub]; try exact rfl) (by simp [go_sem]) ?_
  cases d with
  | true =>
    refine cw_condT (by simp only [go_sem, Nat.reduceLT, Nat.reduceBEq, Nat.reduceLeDiff, Nat.reduceAdd, Nat.reduceMul, Nat.reduceSub, Nat.reduceEqDiff, Int.reduceNeg, Int.reduceToNat, Int.reduceAdd, Int.reduceSub]; try exact rfl) trivial (by rfl) ?_
    simp only [if_true] at d1
    refine cw_go tabOK 99 (by simp only [go_sem, Nat.reduceLT, Nat.reduceBEq, Nat.reduceLeDiff, Nat.reduceAdd, Nat.reduceMul, Nat.reduceSub, Nat.reduceEqDiff, Int.reduceNeg, Int.reduceToNat, Int.reduceAdd, Int.reduceSub]; try exact rfl) (by simp [go_sem]) ?_
    by_cases he1 : e1 = 0
    · subst he1
      simp only [if_true] at d1
      refine cw_call rfl rfl (by simp only [go_sem, Nat.reduceLT, Nat.reduceBEq, Nat.reduceLeDiff, Nat.reduceAdd, Nat.reduceMul, Nat.reduceSub, Nat.reduceEqDiff, Int.reduceNeg, Int.reduceToNat, Int.reduceAdd, Int.reduceSub]; try exact rfl) (by simp [go_sem]) ⟨_, Go.Proofs.Try.func40, by kernel_rfl, rfl⟩ (by simp [go_sem]) (d1) (by simp [go_sem]) (by simp only [go_sem, Nat.reduceLT, Nat.reduceBEq, Nat.reduceLeDiff, Nat.reduceAdd, Nat.reduceMul, Nat.reduceSub, Nat.reduceEqDiff, Int.reduceNeg, Int.reduceToNat, Int.reduceAdd, Int.reduceSub]; exact rfl) ?_
      refine cw_go tabOK 99 (by simp only [go_sem, Nat.reduceLT, Nat.reduceBEq, Nat.reduceLeDiff, Nat.reduceAdd, Nat.reduceMul, Nat.reduceSub, Nat.reduceEqDiff, Int.reduceNeg, Int.reduceToNat, Int.reduceAdd, Int.reduceSub]; try exact rfl) (by simp [go_sem]) ?_
      refine cw_callC rfl (by simp only [go_sem, Nat.reduceLT, Nat.reduceBEq, Nat.reduceLeDiff, Nat.reduceAdd, Nat.reduceMul, Nat.reduceSub, Nat.reduceEqDiff, Int.reduceNeg, Int.reduceToNat, Int.reduceAdd, Int.reduceSub]; try exact rfl) (by simp only [go_sem, Nat.reduceLT, Nat.reduceBEq, Nat.reduceLeDiff, Nat.reduceAdd, Nat.reduceMul, Nat.reduceSub, Nat.reduceEqDiff, Int.reduceNeg, Int.reduceToNat, Int.reduceAdd, Int.reduceSub]; try exact rfl) (by simp [go_sem]) ⟨_, Go.Proofs.Try.func27, by kernel_rfl, rfl⟩ (by simp [go_sem]) (fun hb => (rises_ok l hsl)) (by simp [go_sem]) (by simp only [go_sem, Nat.reduceLT, Nat.reduceBEq, Nat.reduceLeDiff, Nat.reduceAdd, Nat.reduceMul, Nat.reduceSub, Nat.reduceEqDiff, Int.reduceNeg, Int.reduceToNat, Int.reduceAdd, Int.reduceSub]; exact rfl) ?_
      refine cw_go tabOK 99 (by simp only [go_sem, Nat.reduceLT, Nat.reduceBEq, Nat.reduceLeDiff, Nat.reduceAdd, Nat.reduceMul, Nat.reduceSub, Nat.reduceEqDiff, Int.reduceNeg, Int.reduceToNat, Int.reduceAdd, Int.reduceSub]; try exact rfl) (by simp [go_sem]) ?_
      refine cw_cond (by simp only [go_sem, Nat.reduceLT, Nat.reduceBEq, Nat.reduceLeDiff, Nat.reduceAdd, Nat.reduceMul, Nat.reduceSub, Nat.reduceEqDiff, Int.reduceNeg, Int.reduceToNat, Int.reduceAdd, Int.reduceSub]; try exact rfl) trivial (fun h => ?_) (fun h => ?_)
      · refine cw_go tabOK 99 (by simp only [go_sem, Nat.reduceLT, Nat.reduceBEq, Nat.reduceLeDiff, Nat.reduceAdd, Nat.reduceMul, Nat.reduceSub, Nat.reduceEqDiff, Int.reduceNeg, Int.reduceToNat, Int.reduceAdd, Int.reduceSub]; try exact rfl) (by simp [go_sem]) ?_
        refine cw_ret ⟨_, _, (by simp only [go_sem, Nat.reduceLT, Nat.reduceBEq, Nat.reduceLeDiff, Nat.reduceAdd, Nat.reduceMul, Nat.reduceSub, Nat.reduceEqDiff, Int.reduceNeg, Int.reduceToNat, Int.reduceAdd, Int.reduceSub]; try exact rfl), by simp [go_sem], _, .inr (.inl rfl), ?_⟩
        rfl
      have hr : risesB l = true := by
        revert h
        cases risesB l <;> simp
      obtain ⟨p1, p2⟩ := hplain hr rfl
      subst p1
      have hs := same_ok y l false (hsy rfl) hsl
      rw [p2] at hs
      simp only [if_true] at d2
      refine cw_go tabOK 99 (by simp only [go_sem, Nat.reduceLT, Nat.reduceBEq, Nat.reduceLeDiff, Nat.reduceAdd, Nat.reduceMul, Nat.reduceSub, Nat.reduceEqDiff, Int.reduceNeg, Int.reduceToNat, Int.reduceAdd, Int.reduceSub]; try exact rfl) (by simp [go_sem]) ?_
      refine cw_call rfl rfl (by simp only [go_sem, Nat.reduceLT, Nat.reduceBEq, Nat.reduceLeDiff, Nat.reduceAdd, Nat.reduceMul, Nat.reduceSub, Nat.reduceEqDiff, Int.reduceNeg, Int.reduceToNat, Int.reduceAdd, Int.reduceSub]; try exact rfl) (by simp [go_sem]) ⟨_, Go.Proofs.Try.func40, by kernel_rfl, rfl⟩ (by simp [go_sem]) (d2) (by simp [go_sem]) (by simp only [go_sem, Nat.reduceLT, Nat.reduceBEq, Nat.reduceLeDiff, Nat.reduceAdd, Nat.reduceMul, Nat.reduceSub, Nat.reduceEqDiff, Int.reduceNeg, Int.reduceToNat, Int.reduceAdd, Int.reduceSub]; exact rfl) ?_
      refine cw_go tabOK 99 (by simp only [go_sem, Nat.reduceLT, Nat.reduceBEq, Nat.reduceLeDiff, Nat.reduceAdd, Nat.reduceMul, Nat.reduceSub, Nat.reduceEqDiff, Int.reduceNeg, Int.reduceToNat, Int.reduceAdd, Int.reduceSub]; try exact rfl) (by simp [go_sem]) ?_
      refine cw_callC rfl (by simp only [go_sem, Nat.reduceLT, Nat.reduceBEq, Nat.reduceLeDiff, Nat.reduceAdd, Nat.reduceMul, Nat.reduceSub, Nat.reduceEqDiff, Int.reduceNeg, Int.reduceToNat, Int.reduceAdd, Int.reduceSub]; try exact rfl) (by simp only [go_sem, Nat.reduceLT, Nat.reduceBEq, Nat.reduceLeDiff, Nat.reduceAdd, Nat.reduceMul, Nat.reduceSub, Nat.reduceEqDiff, Int.reduceNeg, Int.reduceToNat, Int.reduceAdd, Int.reduceSub]; try exact rfl) (by simp [go_sem]) ⟨_, Go.Proofs.Try.func29, by kernel_rfl, rfl⟩ (by simp [go_sem]) (fun hb => (hs)) (by simp [go_sem]) (by simp only [go_sem, Nat.reduceLT, Nat.reduceBEq, Nat.reduceLeDiff, Nat.reduceAdd, Nat.reduceMul, Nat.reduceSub, Nat.reduceEqDiff, Int.reduceNeg, Int.reduceToNat, Int.reduceAdd, Int.reduceSub]; exact rfl) ?_
      refine cw_go tabOK 99 (by simp only [go_sem, Nat.reduceLT, Nat.reduceBEq, Nat.reduceLeDiff, Nat.reduceAdd, Nat.reduceMul, Nat.reduceSub, Nat.reduceEqDiff, Int.reduceNeg, Int.reduceToNat, Int.reduceAdd, Int.reduceSub]; try exact rfl) (by simp [go_sem]) ?_
      refine cw_ret ⟨_, _, (by simp only [go_sem, Nat.reduceLT, Nat.reduceBEq, Nat.reduceLeDiff, Nat.reduceAdd, Nat.reduceMul, Nat.reduceSub, Nat.reduceEqDiff, Int.reduceNeg, Int.reduceToNat, Int.reduceAdd, Int.reduceSub]; try exact rfl), by simp [go_sem], _, .inr (.inl rfl), ?_⟩
      rfl
    · simp only [if_neg he1] at d1
      refine cw_call rfl rfl (by simp only [go_sem, Nat.reduceLT, Nat.reduceBEq, Nat.reduceLeDiff, Nat.reduceAdd, Nat.reduceMul, Nat.reduceSub, Nat.reduceEqDiff, Int.reduceNeg, Int.reduceToNat, Int.reduceAdd, Int.reduceSub]; try exact rfl) (by simp [go_sem]) ⟨_, Go.Proofs.Try.func40, by kernel_rfl, rfl⟩ (by simp [go_sem]) (d1) (by simp [go_sem]) (by simp only [go_sem, Nat.reduceLT, Nat.reduceBEq, Nat.reduceLeDiff, Nat.reduceAdd, Nat.reduceMul, Nat.reduceSub, Nat.reduceEqDiff, Int.reduceNeg, Int.reduceToNat, Int.reduceAdd, Int.reduceSub]; exact rfl) ?_
      have hne : (e1 != 0) = true := by simpa using he1
      refine cw_goR 99 (by simp only [go_sem, Nat.reduceLT, Nat.reduceBEq, Nat.reduceLeDiff, Nat.reduceAdd, Nat.reduceMul, Nat.reduceSub, Nat.reduceEqDiff, Int.reduceNeg, Int.reduceToNat, Int.reduceAdd, Int.reduceSub]; try exact rfl) ?_
      refine cw_runN tabOK 5 (by simp only [go_sem, Nat.reduceLT, Nat.reduceBEq, Nat.reduceLeDiff, Nat.reduceAdd, Nat.reduceMul, Nat.reduceSub, Nat.reduceEqDiff, Int.reduceNeg, Int.reduceToNat, Int.reduceAdd, Int.reduceSub]; exact rfl) (by simp only [go_sem, Nat.reduceLT, Nat.reduceBEq, Nat.reduceLeDiff, Nat.reduceAdd, Nat.reduceMul, Nat.reduceSub, Nat.reduceEqDiff, Int.reduceNeg, Int.reduceToNat, Int.reduceAdd, Int.reduceSub]; exact rfl) (by simp only [go_sem, Nat.reduceLT, Nat.reduceBEq, Nat.reduceLeDiff, Nat.reduceAdd, Nat.reduceMul, Nat.reduceSub, Nat.reduceEqDiff, Int.reduceNeg, Int.reduceToNat, Int.reduceAdd, Int.reduceSub]; try exact rfl) (by simp [go_sem]) ?_
      refine cw_goR 99 (by simp only [go_sem, Nat.reduceLT, Nat.reduceBEq, Nat.reduceLeDiff, Nat.reduceAdd, Nat.reduceMul, Nat.reduceSub, Nat.reduceEqDiff, Int.reduceNeg, Int.reduceToNat, Int.reduceAdd, Int.reduceSub]; try exact rfl) ?_
      refine cw_runN tabOK 2 (by simp only [go_sem, Nat.reduceLT, Nat.reduceBEq, Nat.reduceLeDiff, Nat.reduceAdd, Nat.reduceMul, Nat.reduceSub, Nat.reduceEqDiff, Int.reduceNeg, Int.reduceToNat, Int.reduceAdd, Int.reduceSub]; exact rfl) (by simp only [go_sem, Nat.reduceLT, Nat.reduceBEq, Nat.reduceLeDiff, Nat.reduceAdd, Nat.reduceMul, Nat.reduceSub, Nat.reduceEqDiff, Int.reduceNeg, Int.reduceToNat, Int.reduceAdd, Int.reduceSub]; exact rfl) (by simp only [go_sem, Nat.reduceLT, Nat.reduceBEq, Nat.reduceLeDiff, Nat.reduceAdd, Nat.reduceMul, Nat.reduceSub, Nat.reduceEqDiff, Int.reduceNeg, Int.reduceToNat, Int.reduceAdd, Int.reduceSub]; try exact rfl) (by simp [go_sem]) ?_
      refine cw_name 30 (by simp only [go_sem, Nat.reduceLT, Nat.reduceBEq, Nat.reduceLeDiff, Nat.reduceAdd, Nat.reduceMul, Nat.reduceSub, Nat.reduceEqDiff, Int.reduceNeg, Int.reduceToNat, Int.reduceAdd, Int.reduceSub]; exact rfl) (fun c30 h30 => ?_)
      simp only [go_sem, Nat.reduceLT, Nat.reduceBEq, Nat.reduceLeDiff, Nat.reduceAdd, Nat.reduceMul, Nat.reduceSub, Nat.reduceEqDiff, Int.reduceNeg, Int.reduceToNat, Int.reduceAdd, Int.reduceSub]
      have hc : c30 = true := by rw [← h30]; exact hne
      subst hc
      refine cw_go tabOK 99 (by simp only [go_sem, Nat.reduceLT, Nat.reduceBEq, Nat.reduceLeDiff, Nat.reduceAdd, Nat.reduceMul, Nat.reduceSub, Nat.reduceEqDiff, Int.reduceNeg, Int.reduceToNat, Int.reduceAdd, Int.reduceSub]; try exact rfl) (by simp [go_sem]) ?_
      refine cw_pass (.bool false) rfl ?_
      simp only [go_sem, Nat.reduceLT, Nat.reduceBEq, Nat.reduceLeDiff, Nat.reduceAdd, Nat.reduceMul, Nat.reduceSub, Nat.reduceEqDiff, Int.reduceNeg, Int.reduceToNat, Int.reduceAdd, Int.reduceSub]
      refine cw_go tabOK 99 (by simp only [go_sem, Nat.reduceLT, Nat.reduceBEq, Nat.reduceLeDiff, Nat.reduceAdd, Nat.reduceMul, Nat.reduceSub, Nat.reduceEqDiff, Int.reduceNeg, Int.reduceToNat, Int.reduceAdd, Int.reduceSub]; try exact rfl) (by simp [go_sem]) ?_
      refine cw_cond (by simp only [go_sem, Nat.reduceLT, Nat.reduceBEq, Nat.reduceLeDiff, Nat.reduceAdd, Nat.reduceMul, Nat.reduceSub, Nat.reduceEqDiff, Int.reduceNeg, Int.reduceToNat, Int.reduceAdd, Int.reduceSub]; try exact rfl) trivial (fun h => ?_) (fun h => ?_)
      · refine cw_go tabOK 99 (by simp only [go_sem, Nat.reduceLT, Nat.reduceBEq, Nat.reduceLeDiff, Nat.reduceAdd, Nat.reduceMul, Nat.reduceSub, Nat.reduceEqDiff, Int.reduceNeg, Int.reduceToNat, Int.reduceAdd, Int.reduceSub]; try exact rfl) (by simp [go_sem]) ?_
        refine cw_ret ⟨_, _, (by simp only [go_sem, Nat.reduceLT, Nat.reduceBEq, Nat.reduceLeDiff, Nat.reduceAdd, Nat.reduceMul, Nat.reduceSub, Nat.reduceEqDiff, Int.reduceNeg, Int.reduceToNat, Int.reduceAdd, Int.reduceSub]; try exact rfl), by simp [go_sem], _, .inr (.inl rfl), ?_⟩
        rfl
      · simp at h
  | false =>
    refine cw_condF (by simp only [go_sem, Nat.reduceLT, Nat.reduceBEq, Nat.reduceLeDiff, Nat.reduceAdd, Nat.reduceMul, Nat.reduceSub, Nat.reduceEqDiff, Int.reduceNeg, Int.reduceToNat, Int.reduceAdd, Int.reduceSub]; try exact rfl) trivial (by rfl) ?_
    simp only [Bool.false_eq_true, if_false] at d1
    refine cw_go tabOK 99 (by simp only [go_sem, Nat.reduceLT, Nat.reduceBEq, Nat.reduceLeDiff, Nat.reduceAdd, Nat.reduceMul, Nat.reduceSub, Nat.reduceEqDiff, Int.reduceNeg, Int.reduceToNat, Int.reduceAdd, Int.reduceSub]; try exact rfl) (by simp [go_sem]) ?_
    by_cases he1 : e1 = 0
    · subst he1
      simp only [if_true] at d1
      refine cw_call rfl rfl (by simp only [go_sem, Nat.reduceLT, Nat.reduceBEq, Nat.reduceLeDiff, Nat.reduceAdd, Nat.reduceMul, Nat.reduceSub, Nat.reduceEqDiff, Int.reduceNeg, Int.reduceToNat, Int.reduceAdd, Int.reduceSub]; try exact rfl) (by simp [go_sem]) ⟨_, Go.Proofs.Try.func40, by kernel_rfl, rfl⟩ (by simp [go_sem]) (d1) (by simp [go_sem]) (by simp only [go_sem, Nat.reduceLT, Nat.reduceBEq, Nat.reduceLeDiff, Nat.reduceAdd, Nat.reduceMul, Nat.reduceSub, Nat.reduceEqDiff, Int.reduceNeg, Int.reduceToNat, Int.reduceAdd, Int.reduceSub]; exact rfl) ?_
      refine cw_go tabOK 99 (by simp only [go_sem, Nat.reduceLT, Nat.reduceBEq, Nat.reduceLeDiff, Nat.reduceAdd, Nat.reduceMul, Nat.reduceSub, Nat.reduceEqDiff, Int.reduceNeg, Int.reduceToNat, Int.reduceAdd, Int.reduceSub]; try exact rfl) (by simp [go_sem]) ?_
      refine cw_callC rfl (by simp only [go_sem, Nat.reduceLT, Nat.reduceBEq, Nat.reduceLeDiff, Nat.reduceAdd, Nat.reduceMul, Nat.reduceSub, Nat.reduceEqDiff, Int.reduceNeg, Int.reduceToNat, Int.reduceAdd, Int.reduceSub]; try exact rfl) (by simp only [go_sem, Nat.reduceLT, Nat.reduceBEq, Nat.reduceLeDiff, Nat.reduceAdd, Nat.reduceMul, Nat.reduceSub, Nat.reduceEqDiff, Int.reduceNeg, Int.reduceToNat, Int.reduceAdd, Int.reduceSub]; try exact rfl) (by simp [go_sem]) ⟨_, Go.Proofs.Try.func27, by kernel_rfl, rfl⟩ (by simp [go_sem]) (fun hb => (rises_ok l hsl)) (by simp [go_sem]) (by simp only [go_sem, Nat.reduceLT, Nat.reduceBEq, Nat.reduceLeDiff, Nat.reduceAdd, Nat.reduceMul, Nat.reduceSub, Nat.reduceEqDiff, Int.reduceNeg, Int.reduceToNat, Int.reduceAdd, Int.reduceSub]; exact rfl) ?_
      refine cw_go tabOK 99 (by simp only [go_sem, Nat.reduceLT, Nat.reduceBEq, Nat.reduceLeDiff, Nat.reduceAdd, Nat.reduceMul, Nat.reduceSub, Nat.reduceEqDiff, Int.reduceNeg, Int.reduceToNat, Int.reduceAdd, Int.reduceSub]; try exact rfl) (by simp [go_sem]) ?_
      refine cw_cond (by simp only [go_sem, Nat.reduceLT, Nat.reduceBEq, Nat.reduceLeDiff, Nat.reduceAdd, Nat.reduceMul, Nat.reduceSub, Nat.reduceEqDiff, Int.reduceNeg, Int.reduceToNat, Int.reduceAdd, Int.reduceSub]; try exact rfl) trivial (fun h => ?_) (fun h => ?_)
      · refine cw_go tabOK 99 (by simp only [go_sem, Nat.reduceLT, Nat.reduceBEq, Nat.reduceLeDiff, Nat.reduceAdd, Nat.reduceMul, Nat.reduceSub, Nat.reduceEqDiff, Int.reduceNeg, Int.reduceToNat, Int.reduceAdd, Int.reduceSub]; try exact rfl) (by simp [go_sem]) ?_
        refine cw_ret ⟨_, _, (by simp only [go_sem, Nat.reduceLT, Nat.reduceBEq, Nat.reduceLeDiff, Nat.reduceAdd, Nat.reduceMul, Nat.reduceSub, Nat.reduceEqDiff, Int.reduceNeg, Int.reduceToNat, Int.reduceAdd, Int.reduceSub]; try exact rfl), by simp [go_sem], _, .inr (.inl rfl), ?_⟩
        rfl
      have hr : risesB l = true := by
        revert h
        cases risesB l <;> simp
      obtain ⟨p1, p2⟩ := hplain hr rfl
      subst p1
      have hs := same_ok y l false (hsy rfl) hsl
      rw [p2] at hs
      simp only [if_true] at d2
      refine cw_go tabOK 99 (by simp only [go_sem, Nat.reduceLT, Nat.reduceBEq, Nat.reduceLeDiff, Nat.reduceAdd, Nat.reduceMul, Nat.reduceSub, Nat.reduceEqDiff, Int.reduceNeg, Int.reduceToNat, Int.reduceAdd, Int.reduceSub]; try exact rfl) (by simp [go_sem]) ?_
      refine cw_call rfl rfl (by simp only [go_sem, Nat.reduceLT, Nat.reduceBEq, Nat.reduceLeDiff, Nat.reduceAdd, Nat.reduceMul, Nat.reduceSub, Nat.reduceEqDiff, Int.reduceNeg, Int.reduceToNat, Int.reduceAdd, Int.reduceSub]; try exact rfl) (by simp [go_sem]) ⟨_, Go.Proofs.Try.func40, by kernel_rfl, rfl⟩ (by simp [go_sem]) (d2) (by simp [go_sem]) (by simp only [go_sem, Nat.reduceLT, Nat.reduceBEq, Nat.reduceLeDiff, Nat.reduceAdd, Nat.reduceMul, Nat.reduceSub, Nat.reduceEqDiff, Int.reduceNeg, Int.reduceToNat, Int.reduceAdd, Int.reduceSub]; exact rfl) ?_
      refine cw_go tabOK 99 (by simp only [go_sem, Nat.reduceLT, Nat.reduceBEq, Nat.reduceLeDiff, Nat.reduceAdd, Nat.reduceMul, Nat.reduceSub, Nat.reduceEqDiff, Int.reduceNeg, Int.reduceToNat, Int.reduceAdd, Int.reduceSub]; try exact rfl) (by simp [go_sem]) ?_
      refine cw_callC rfl (by simp only [go_sem, Nat.reduceLT, Nat.reduceBEq, Nat.reduceLeDiff, Nat.reduceAdd, Nat.reduceMul, Nat.reduceSub, Nat.reduceEqDiff, Int.reduceNeg, Int.reduceToNat, Int.reduceAdd, Int.reduceSub]; try exact rfl) (by simp only [go_sem, Nat.reduceLT, Nat.reduceBEq, Nat.reduceLeDiff, Nat.reduceAdd, Nat.reduceMul, Nat.reduceSub, Nat.reduceEqDiff, Int.reduceNeg, Int.reduceToNat, Int.reduceAdd, Int.reduceSub]; try exact rfl) (by simp [go_sem]) ⟨_, Go.Proofs.Try.func29, by kernel_rfl, rfl⟩ (by simp [go_sem]) (fun hb => (hs)) (by simp [go_sem]) (by simp only [go_sem, Nat.reduceLT, Nat.reduceBEq, Nat.reduceLeDiff, Nat.reduceAdd, Nat.reduceMul, Nat.reduceSub, Nat.reduceEqDiff, Int.reduceNeg, Int.reduceToNat, Int.reduceAdd, Int.reduceSub]; exact rfl) ?_
      refine cw_go tabOK 99 (by simp only [go_sem, Nat.reduceLT, Nat.reduceBEq, Nat.reduceLeDiff, Nat.reduceAdd, Nat.reduceMul, Nat.reduceSub, Nat.reduceEqDiff, Int.reduceNeg, Int.reduceToNat, Int.reduceAdd, Int.reduceSub]; try exact rfl) (by simp [go_sem]) ?_
      refine cw_ret ⟨_, _, (by simp only [go_sem, Nat.reduceLT, Nat.reduceBEq, Nat.reduceLeDiff, Nat.reduceAdd, Nat.reduceMul, Nat.reduceSub, Nat.reduceEqDiff, Int.reduceNeg, Int.reduceToNat, Int.reduceAdd, Int.reduceSub]; try exact rfl), by simp [go_sem], _, .inr (.inl rfl), ?_⟩
      rfl
    · simp only [if_neg he1] at d1
      refine cw_call rfl rfl (by simp only [go_sem, Nat.reduceLT, Nat.reduceBEq, Nat.reduceLeDiff, Nat.reduceAdd, Nat.reduceMul, Nat.reduceSub, Nat.reduceEqDiff, Int.reduceNeg, Int.reduceToNat, Int.reduceAdd, Int.reduceSub]; try exact rfl) (by simp [go_sem]) ⟨_, Go.Proofs.Try.func40, by kernel_rfl, rfl⟩ (by simp [go_sem]) (d1) (by simp [go_sem]) (by simp only [go_sem, Nat.reduceLT, Nat.reduceBEq, Nat.reduceLeDiff, Nat.reduceAdd, Nat.reduceMul, Nat.reduceSub, Nat.reduceEqDiff, Int.reduceNeg, Int.reduceToNat, Int.reduceAdd, Int.reduceSub]; exact rfl) ?_
      have hne : (e1 != 0) = true := by simpa using he1
      refine cw_goR 99 (by simp only [go_sem, Nat.reduceLT, Nat.reduceBEq, Nat.reduceLeDiff, Nat.reduceAdd, Nat.reduceMul, Nat.reduceSub, Nat.reduceEqDiff, Int.reduceNeg, Int.reduceToNat, Int.reduceAdd, Int.reduceSub]; try exact rfl) ?_
      refine cw_runN tabOK 5 (by simp only [go_sem, Nat.reduceLT, Nat.reduceBEq, Nat.reduceLeDiff, Nat.reduceAdd, Nat.reduceMul, Nat.reduceSub, Nat.reduceEqDiff, Int.reduceNeg, Int.reduceToNat, Int.reduceAdd, Int.reduceSub]; exact rfl) (by simp only [go_sem, Nat.reduceLT, Nat.reduceBEq, Nat.reduceLeDiff, Nat.reduceAdd, Nat.reduceMul, Nat.reduceSub, Nat.reduceEqDiff, Int.reduceNeg, Int.reduceToNat, Int.reduceAdd, Int.reduceSub]; exact rfl) (by simp only [go_sem, Nat.reduceLT, Nat.reduceBEq, Nat.reduceLeDiff, Nat.reduceAdd, Nat.reduceMul, Nat.reduceSub, Nat.reduceEqDiff, Int.reduceNeg, Int.reduceToNat, Int.reduceAdd, Int.reduceSub]; try exact rfl) (by simp [go_sem]) ?_
      refine cw_goR 99 (by simp only [go_sem, Nat.reduceLT, Nat.reduceBEq, Nat.reduceLeDiff, Nat.reduceAdd, Nat.reduceMul, Nat.reduceSub, Nat.reduceEqDiff, Int.reduceNeg, Int.reduceToNat, Int.reduceAdd, Int.reduceSub]; try exact rfl) ?_
      refine cw_runN tabOK 2 (by simp only [go_sem, Nat.reduceLT, Nat.reduceBEq, Nat.reduceLeDiff, Nat.reduceAdd, Nat.reduceMul, Nat.reduceSub, Nat.reduceEqDiff, Int.reduceNeg, Int.reduceToNat, Int.reduceAdd, Int.reduceSub]; exact rfl) (by simp only [go_sem, Nat.reduceLT, Nat.reduceBEq, Nat.reduceLeDiff, Nat.reduceAdd, Nat.reduceMul, Nat.reduceSub, Nat.reduceEqDiff, Int.reduceNeg, Int.reduceToNat, Int.reduceAdd, Int.reduceSub]; exact rfl) (by simp only [go_sem, Nat.reduceLT, Nat.reduceBEq, Nat.reduceLeDiff, Nat.reduceAdd, Nat.reduceMul, Nat.reduceSub, Nat.reduceEqDiff, Int.reduceNeg, Int.reduceToNat, Int.reduceAdd, Int.reduceSub]; try exact rfl) (by simp [go_sem]) ?_
      refine cw_name 30 (by simp only [go_sem, Nat.reduceLT, Nat.reduceBEq, Nat.reduceLeDiff, Nat.reduceAdd, Nat.reduceMul, Nat.reduceSub, Nat.reduceEqDiff, Int.reduceNeg, Int.reduceToNat, Int.reduceAdd, Int.reduceSub]; exact rfl) (fun c30 h30 => ?_)
      simp only [go_sem, Nat.reduceLT, Nat.reduceBEq, Nat.reduceLeDiff, Nat.reduceAdd, Nat.reduceMul, Nat.reduceSub, Nat.reduceEqDiff, Int.reduceNeg, Int.reduceToNat, Int.reduceAdd, Int.reduceSub]
      have hc : c30 = true := by rw [← h30]; exact hne
      subst hc
      refine cw_go tabOK 99 (by simp only [go_sem, Nat.reduceLT, Nat.reduceBEq, Nat.reduceLeDiff, Nat.reduceAdd, Nat.reduceMul, Nat.reduceSub, Nat.reduceEqDiff, Int.reduceNeg, Int.reduceToNat, Int.reduceAdd, Int.reduceSub]; try exact rfl) (by simp [go_sem]) ?_
      refine cw_pass (.bool false) rfl ?_
      simp only [go_sem, Nat.reduceLT, Nat.reduceBEq, Nat.reduceLeDiff, Nat.reduceAdd, Nat.reduceMul, Nat.reduceSub, Nat.reduceEqDiff, Int.reduceNeg, Int.reduceToNat, Int.reduceAdd, Int.reduceSub]
      refine cw_go tabOK 99 (by simp only [go_sem, Nat.reduceLT, Nat.reduceBEq, Nat.reduceLeDiff, Nat.reduceAdd, Nat.reduceMul, Nat.reduceSub, Nat.reduceEqDiff, Int.reduceNeg, Int.reduceToNat, Int.reduceAdd, Int.reduceSub]; try exact rfl) (by simp [go_sem]) ?_
      refine cw_cond (by simp only [go_sem, Nat.reduceLT, Nat.reduceBEq, Nat.reduceLeDiff, Nat.reduceAdd, Nat.reduceMul, Nat.reduceSub, Nat.reduceEqDiff, Int.reduceNeg, Int.reduceToNat, Int.reduceAdd, Int.reduceSub]; try exact rfl) trivial (fun h => ?_) (fun h => ?_)
      · refine cw_go tabOK 99 (by simp only [go_sem, Nat.reduceLT, Nat.reduceBEq, Nat.reduceLeDiff, Nat.reduceAdd, Nat.reduceMul, Nat.reduceSub, Nat.reduceEqDiff, Int.reduceNeg, Int.reduceToNat, Int.reduceAdd, Int.reduceSub]; try exact rfl) (by simp [go_sem]) ?_
        refine cw_ret ⟨_, _, (by simp only [go_sem, Nat.reduceLT, Nat.reduceBEq, Nat.reduceLeDiff, Nat.reduceAdd, Nat.reduceMul, Nat.reduceSub, Nat.reduceEqDiff, Int.reduceNeg, Int.reduceToNat, Int.reduceAdd, Int.reduceSub]; try exact rfl), by simp [go_sem], _, .inr (.inl rfl), ?_⟩
        rfl
      · simp at h
end La

namespace La
open Go Go.Eng Go.Proofs Go.Proofs.Ytldpfleilffanaa

/-- cells that read so, in blocks that are there -/
def RdC (w : World) (cs : List Value) (xs : List AV) : Prop := cs.length = xs.length ∧ ∀ (j : Nat) y, xs[j]? = some y → RdP (fun b => b < w.heap.size) w (cs.getD j undef) y

theorem rdc_nil {w : World} {cs : List Value} {off : Nat} (h : cs.length = off) : RdC w (cs.drop off) [] :=
  ⟨by simp; omega, fun j y hj => by simp at hj⟩

theorem rdc_cons {w : World} {cs : List Value} {xs ys : List AV} (off s : Nat) (h : RdC w ((cs.drop off).take s) xs) (hs : xs.length = s) (k : RdC w (cs.drop (off + s)) ys) : RdC w (cs.drop off) (xs ++ ys) := by
  obtain ⟨h1, h2⟩ := h
  obtain ⟨k1, k2⟩ := k
  have hl : (cs.drop off).length = s + (cs.drop (off + s)).length := by
    simp only [List.length_take, List.length_drop] at h1 k1 ⊢
    omega
  refine ⟨by rw [List.length_append, hl, hs, k1], fun j y hj => ?_⟩
  by_cases hjs : j < s
  · rw [List.getElem?_append_left (by omega)] at hj
    have := h2 j y hj
    rwa [List.getD_eq_getElem?_getD, List.getElem?_take, if_pos hjs, ← List.getD_eq_getElem?_getD] at this
  · rw [List.getElem?_append_right (by omega), hs] at hj
    have := k2 (j - s) y hj
    rw [List.getD_eq_getElem?_getD, List.getElem?_drop] at this
    rw [List.getD_eq_getElem?_getD, List.getElem?_drop]
    rwa [show off + s + (j - s) = off + j from by omega] at this

/-- A TYPE's VALUES, AS LEAN HAS THEM: the cells read as 'f x', 'q' holds of it, and it is no larger than what was read. -/
structure Rep (t : TypeId) {α : Type} (f : α → List AV) (q : α → Prop) (sz : α → Nat) : Prop where
  size : ∀ x, (f x).length = (Try.prog).cellsOf t
  opn : ∀ {H : Type} (enc : TypeId × Value → H) (w : World) (n : Nat) (cs : List Value) (y : DataW H × List MemPlace), DataW.trod enc Try.prog w 0 (fun _ => true) true n t cs = some y →
    ∃ x : α, q x ∧ sz x ≤ Rows.uptoBulk y.1 ∧ RdC w cs (f x)

theorem cells_tab {t : TypeId} {n : Nat} (h : tab.siz t = n) (h0 : n ≠ 0) : (Try.prog).cellsOf t = n := by
  obtain ⟨i, h1, h2, _⟩ := tabOK.siz t (by rw [h]; exact h0)
  unfold Program.cellsOf
  rw [h1]
  simp [h2, h]

theorem rep_int {t : TypeId} (ht : (Try.prog).underlying t = some (.int .i64)) (hs : (Try.prog).cellsOf t = 1) : Rep t (fun n : Int => [AV.int .i64 n]) (fun n => -9223372036854775808 ≤ n ∧ n ≤ 9223372036854775807) (fun _ => 1) where
  size := fun _ => by rw [hs]; rfl
  opn := fun enc w n cs y h => by
    obtain ⟨m, rfl, rfl, hw⟩ := DataW.trod_int ht h
    refine ⟨m, ?_, by simp [Rows.uptoBulk], rfl, fun j y hj => ?_⟩
    · simpa [Lit.wf, IntKind.min, IntKind.max, IntKind.bits, IntKind.signed] using hw
    · cases j with
      | zero => simp only [List.getElem?_cons_zero, Option.some.injEq] at hj; subst hj; exact .int _ _
      | succ j => simp at hj

theorem rep_bool {t : TypeId} (ht : (Try.prog).underlying t = some .bool) (hs : (Try.prog).cellsOf t = 1) : Rep t (fun b : Bool => [AV.bool b]) (fun _ => True) (fun _ => 1) where
  size := fun _ => by rw [hs]; rfl
  opn := fun enc w n cs y h => by
    obtain ⟨b, rfl, rfl⟩ := DataW.trod_bool ht h
    refine ⟨b, trivial, by simp [Rows.uptoBulk], rfl, fun j y hj => ?_⟩
    cases j with
    | zero => simp only [List.getElem?_cons_zero, Option.some.injEq] at hj; subst hj; exact .bool _
    | succ j => simp at hj

theorem rep_str {t : TypeId} (ht : (Try.prog).underlying t = some .string) (hs : (Try.prog).cellsOf t = 1) : Rep t (fun s : List UInt8 => [AV.str s]) (fun _ => True) (fun s => s.length + 1) where
  size := fun _ => by rw [hs]; rfl
  opn := fun enc w n cs y h => by
    obtain ⟨s, rfl, rfl, _⟩ := DataW.trod_string ht h
    refine ⟨s.data.toList, trivial, by simp [Rows.uptoBulk], rfl, fun j y hj => ?_⟩
    cases j with
    | zero => simp only [List.getElem?_cons_zero, Option.some.injEq] at hj; subst hj; exact .str _ _ rfl
    | succ j => simp at hj

theorem rep_byte {t : TypeId} (ht : (Try.prog).underlying t = some (.int .u8)) (hs : (Try.prog).cellsOf t = 1) : Rep t byteRow (fun _ => True) (fun _ => 1) where
  size := fun _ => by rw [hs]; rfl
  opn := fun enc w n cs y h => by
    obtain ⟨m, rfl, rfl, hw⟩ := DataW.trod_int ht h
    have hb : 0 ≤ m ∧ m ≤ 255 := by simpa [Lit.wf, IntKind.min, IntKind.max, IntKind.bits, IntKind.signed] using hw
    refine ⟨UInt8.ofNat m.toNat, trivial, by simp [Rows.uptoBulk], rfl, fun j y hj => ?_⟩
    cases j with
    | zero =>
      simp only [byteRow, List.getElem?_cons_zero, Option.some.injEq] at hj
      subst hj
      have : ((UInt8.ofNat m.toNat).toNat : Int) = m := by
        rw [UInt8.toNat_ofNat']
        omega
      rw [this]; exact .int _ _
    | succ j => simp [byteRow] at hj

/-- how much a list holds -/
def szL {α : Type} (sz : α → Nat) : List α → Nat
  | [] => 0
  | x :: r => sz x + szL sz r

theorem szL_mem {α : Type} {sz : α → Nat} {x : α} : ∀ {l : List α}, x ∈ l → sz x ≤ szL sz l
  | y :: r, h => by
    rcases List.mem_cons.1 h with rfl | h
    · simp only [szL]; omega
    · have := szL_mem (sz := sz) h; simp only [szL]; omega

theorem szL_len {α : Type} {sz : α → Nat} (h : ∀ x, 1 ≤ sz x) : ∀ (l : List α), l.length ≤ szL sz l
  | [] => Nat.le_refl _
  | x :: r => by have := szL_len h r; have := h x; simp only [szL, List.length_cons]; omega

theorem bulkAll_append {H : Type} : ∀ (a b : List (DataW H)), Rows.uptoBulkAll (a ++ b) = Rows.uptoBulkAll a + Rows.uptoBulkAll b
  | [], b => by simp [Rows.uptoBulkAll]
  | x :: a, b => by simp only [List.cons_append, Rows.uptoBulkAll, bulkAll_append a b]; omega

/-- what each element is, one by one -/
theorem pick_list {α H : Type} {q : α → Prop} {sz : α → Nat} {R : Nat → α → Prop} : ∀ (elems : List (DataW H × List MemPlace)) (i0 : Nat), (∀ (i : Nat) y, elems[i]? = some y → ∃ x, q x ∧ sz x ≤ Rows.uptoBulk y.1 ∧ R (i0 + i) x) →
    ∃ l : List α, l.length = elems.length ∧ (∀ x, x ∈ l → q x) ∧ szL sz l ≤ Rows.uptoBulkAll (elems.map (·.1)) ∧ ∀ (i : Nat) x, l[i]? = some x → R (i0 + i) x
  | [], _, _ => ⟨[], rfl, fun x h => by simp at h, by simp [szL], fun i x h => by simp at h⟩
  | y :: r, i0, h => by
    obtain ⟨x, h1, h2, h3⟩ := h 0 y rfl
    obtain ⟨l, k1, k2, k3, k4⟩ := pick_list (R := R) r (i0 + 1) (fun i z hz => by rw [show i0 + 1 + i = i0 + (i + 1) from by omega]; exact h (i + 1) z (by simpa using hz))
    refine ⟨x :: l, by simp [k1], fun z hz => ?_, ?_, fun i z hz => ?_⟩
    · rcases List.mem_cons.1 hz with rfl | hz
      · exact h1
      · exact k2 z hz
    · simp only [szL, List.map_cons, Rows.uptoBulkAll]; omega
    · cases i with
      | zero => simp only [List.getElem?_cons_zero, Option.some.injEq] at hz; subst hz; exact h3
      | succ i => rw [show i0 + (i + 1) = i0 + 1 + i from by omega]; exact k4 i z (by simpa using hz)

theorem cells_some {w : World} {a : Addr} {n : Nat} {cs : List Value} (h : w.cells? 0 a n = some cs) : cs.length = n ∧ ∀ i, i < n → w.cell? (a.add i) = cs[i]? := by
  unfold World.cells? at h
  rw [if_pos (Nat.zero_le _)] at h
  have hl := mapM_some_length h
  refine ⟨by simpa using hl, fun i hi => ?_⟩
  exact mapM_some_get h i i (by simp [hi])

theorem rep_slice {t e : TypeId} {α : Type} {f : α → List AV} {q : α → Prop} {sz : α → Nat} (ht : (Try.prog).underlying t = some (.slice e)) (hs : (Try.prog).cellsOf t = 1) (he : Rep e f q sz) (hsz : (Try.prog).cellsOf e ≠ 0) :
    Rep t (fun l : List α => [AV.sl (l.map f)]) (fun l => ∀ x, x ∈ l → q x) (fun l => szL sz l + 1) where
  size := fun _ => by rw [hs]; rfl
  opn := fun enc w n cs y h => by
    rcases DataW.trod_slice ht h with ⟨rfl, rfl⟩ | ⟨a, len, cap, elems, rest, m, rfl, rfl, rfl, h1, h2, h3, h4, h5, _⟩
    · refine ⟨[], fun x hx => by simp at hx, by simp [szL, Rows.uptoBulk], rfl, fun j y hj => ?_⟩
      cases j with
      | zero =>
        simp only [List.map_nil, List.getElem?_cons_zero, Option.some.injEq] at hj; subst hj
        exact .sl none 0 0 [] 0 0 0 (fun _ _ => undef) rfl (Nat.le_refl _) (fun row h => by simp at h) (fun h => by omega) (fun i j h => by omega) (fun i row h => by simp at h)
      | succ j => simp at hj
    · have key : ∀ (i : Nat) y, elems[i]? = some y → ∃ x, q x ∧ sz x ≤ Rows.uptoBulk y.1 ∧ (∃ cs, w.cells? 0 (a.add ((0 + i) * (Try.prog).cellsOf e)) ((Try.prog).cellsOf e) = some cs ∧ RdC w cs (f x)) := fun i y hy => by
        have hi : i < len := by rw [← h4]; exact (List.getElem?_eq_some_iff.1 hy).1
        have := h5 i hi
        rw [hy] at this
        obtain ⟨cs, k1, k2⟩ := Option.bind_eq_some_iff.1 this
        obtain ⟨x, q1, q2, q3⟩ := he.opn enc w m cs y k2
        exact ⟨x, q1, q2, cs, by rw [Nat.zero_add]; exact k1, q3⟩
      obtain ⟨l, l1, l2, l3, l4⟩ := pick_list (q := q) (sz := sz) (R := fun i x => ∃ cs, w.cells? 0 (a.add (i * (Try.prog).cellsOf e)) ((Try.prog).cellsOf e) = some cs ∧ RdC w cs (f x)) elems 0 key
      refine ⟨l, l2, by simp only [Rows.uptoBulk]; omega, rfl, fun j y hj => ?_⟩
      cases j with
      | succ j => simp at hj
      | zero =>
        simp only [List.getElem?_cons_zero, Option.some.injEq] at hj
        subst hj
        have hcell : ∀ i j, i < l.length → j < (Try.prog).cellsOf e → ∃ (b : a.spot = none ∨ True) (x : α) (cs : List Value), l[i]? = some x ∧ RdC w cs (f x) ∧ w.cell? (a.add (i * (Try.prog).cellsOf e) |>.add j) = cs[j]? ∧ j < cs.length := fun i j hi hj => by
          obtain ⟨cs, k1, k2⟩ := l4 i l[i] (List.getElem?_eq_getElem hi)
          obtain ⟨c1, c2⟩ := cells_some k1
          rw [Nat.zero_add] at c2
          exact ⟨.inr trivial, l[i], cs, List.getElem?_eq_getElem hi, k2, c2 j hj, by omega⟩
        by_cases h0 : l.length = 0
        · have : l = [] := List.eq_nil_of_length_eq_zero h0
          subst this
          simp only [List.map_nil]
          have e0 : len = 0 := by rw [← h4, ← l1]; rfl
          subst e0
          exact .sl (some a) 0 cap [] 0 0 0 (fun _ _ => undef) rfl (Nat.zero_le _) (fun row h => by simp at h) (fun h => by omega) (fun i j h => by omega) (fun i row h => by simp at h)
        · have hspot : a.spot = none ∧ a.block < w.heap.size := by
            obtain ⟨_, x, cs, _, _, c3, c4⟩ := hcell 0 0 (by omega) (by omega)
            rw [List.getElem?_eq_getElem c4] at c3
            have c3' : w.cell? a = some cs[0] := by simpa [Addr.add] using c3
            unfold World.cell? at c3'
            split at c3'
            · rename_i c e' f' hb
              split at c3'
              · cases c3'
              · rename_i hsp
                refine ⟨?_, ?_⟩
                · cases e : a.spot with
                  | none => rfl
                  | some k => rw [e] at hsp; simp at hsp
                · exact (Array.getElem?_eq_some_iff.1 hb).1
            · cases c3'
          obtain ⟨ab, ao, asp⟩ := a
          simp only at hspot
          obtain ⟨rfl, hlt⟩ := hspot
          have hadd : ∀ (i j : Nat), ((⟨ab, ao, none⟩ : Addr).add (i * (Try.prog).cellsOf e) |>.add j) = ⟨ab, ao + (i * (Try.prog).cellsOf e + j), none⟩ := fun i j => by
            rw [add_plain, add_plain, Nat.add_assoc]
          refine .sl (some ⟨ab, ao, none⟩) len cap (l.map f) ((Try.prog).cellsOf e) ab ao (fun i j => (w.cell? ⟨ab, ao + (i * (Try.prog).cellsOf e + j), none⟩).getD undef) (by simp [l1, h4]) h2 (fun row hr => ?_) (fun _ => ⟨rfl, hlt⟩) (fun i j hi hj => ?_) (fun i row hrow j x hx => ?_)
          · obtain ⟨x, _, rfl⟩ := List.mem_map.1 hr
            exact he.size x
          · obtain ⟨_, x, cs, _, _, c3, c4⟩ := hcell i j (by omega) hj
            rw [hadd, List.getElem?_eq_getElem c4] at c3
            rw [c3]; rfl
          · rw [List.getElem?_map] at hrow
            cases e1 : l[i]? with
            | none => rw [e1] at hrow; cases hrow
            | some x0 =>
              rw [e1] at hrow
              simp only [Option.map_some, Option.some.injEq] at hrow
              subst hrow
              have hi : i < l.length := (List.getElem?_eq_some_iff.1 e1).1
              have hj : j < (Try.prog).cellsOf e := by rw [← he.size x0]; exact (List.getElem?_eq_some_iff.1 hx).1
              obtain ⟨_, x1, cs, c1, c2, c3, c4⟩ := hcell i j hi hj
              rw [e1] at c1
              injection c1 with c1
              subst c1
              have := c2.2 j x hx
              rw [hadd, List.getElem?_eq_getElem c4] at c3
              simp only [c3, Option.getD_some]
              rwa [List.getD_eq_getElem?_getD, List.getElem?_eq_getElem c4] at this

/-! ### The program's types -/

theorem rep_i (t : TypeId) (ht : (Try.prog).underlying t = some (.int .i64)) (hs : tab.siz t = 1) : Rep t (fun n : Int => [AV.int .i64 n]) (fun n => -9223372036854775808 ≤ n ∧ n ≤ 9223372036854775807) (fun _ => 1) := rep_int ht (cells_tab hs (by decide))

theorem rep_bytes : Rep 23 (fun d : List UInt8 => [AV.sl (d.map byteRow)]) (fun l => ∀ x, x ∈ l → True) (fun l => szL (fun _ => 1) l + 1) :=
  rep_slice Try.underlying23 (cells_tab (t := 23) (n := 1) rfl (by decide)) (rep_byte Try.underlying5 (cells_tab (t := 5) (n := 1) rfl (by decide))) (by rw [cells_tab (t := 5) (n := 1) rfl (by decide)]; decide)

def i64 (n : Int) : Prop := -9223372036854775808 ≤ n ∧ n ≤ 9223372036854775807

structure Entry.Ok (e : Entry) : Prop where
  fid : i64 e.fid
structure Node.Ok (n : Node) : Prop where
  fid : i64 n.fid
  entries : ∀ e, e ∈ n.entries → e.Ok
  version : i64 n.version
structure Act.Ok (a : Act) : Prop where
  kind : i64 a.kind
  fid : i64 a.fid
  dir : i64 a.dir
  to : i64 a.to
structure Rec.Ok (r : Rec) : Prop where
  act : r.act.Ok
  version : i64 r.version
  id : i64 r.id
def Entry.sz (e : Entry) : Nat := e.name.length + 1
def Node.sz (n : Node) : Nat := n.data.length + szL Entry.sz n.entries + 1
def Act.sz (a : Act) : Nat := a.name.length + a.toName.length + a.data.length + 1
def Rec.sz (r : Rec) : Nat := r.act.sz + 1
theorem szL_ones {α : Type} : ∀ (l : List α), szL (fun _ => 1) l = l.length
  | [] => rfl
  | x :: r => by simp only [szL, szL_ones r, List.length_cons]; omega

theorem rep_entry : Rep 115 entryRow Entry.Ok Entry.sz where
  size := fun x => by rw [cells_tab (t := 115) (n := 2) rfl (by decide)]; rfl
  opn := fun enc w n cs y h => by
    obtain ⟨xs, m, rfl, rfl, hl, hxl, hf⟩ := DataW.trod_struct Try.underlying115 h
    obtain ⟨y0, y1, rfl⟩ : ∃ y0 y1, xs = [y0, y1] := by
      have hxl : xs.length = 2 := hxl
      match xs, hxl with
      | [a0, a1], _ => exact ⟨a0, a1, rfl⟩
    have e0 : DataW.trod enc Try.prog w 0 (fun _ => true) true m 9 ((cs.drop 0).take ((Try.prog).cellsOf 9)) = some y0 := hf 0 _ rfl
    obtain ⟨x0, q0, s0, r0⟩ := (rep_str Try.underlying9 (cells_tab (t := 9) (n := 1) rfl (by decide))).opn enc w m _ _ e0
    rw [cells_tab (t := 9) (n := 1) rfl (by decide)] at r0
    have e1 : DataW.trod enc Try.prog w 0 (fun _ => true) true m 3 ((cs.drop 1).take ((Try.prog).cellsOf 3)) = some y1 := hf 1 _ rfl
    obtain ⟨x1, q1, s1, r1⟩ := (rep_i 3 Try.underlying3 rfl).opn enc w m _ _ e1
    rw [cells_tab (t := 3) (n := 1) rfl (by decide)] at r1
    refine ⟨⟨x0, x1⟩, ⟨q1⟩, ?_, ?_⟩
    · simp only [Entry.sz, Rows.uptoBulk, Rows.uptoBulkAll, List.map_cons, List.map_nil]; omega
    · have hl : cs.length = 2 := by rw [hl, cells_tab (t := 115) (n := 2) rfl (by decide)]
      have := rdc_cons 0 1 r0 rfl (rdc_cons 1 1 r1 rfl (rdc_nil hl))
      rw [List.drop_zero] at this
      exact this

theorem rep_entries : Rep 44 (fun l : List Entry => [AV.sl (l.map entryRow)]) (fun l => ∀ x, x ∈ l → x.Ok) (fun l => szL Entry.sz l + 1) :=
  rep_slice Try.underlying44 (cells_tab (t := 44) (n := 1) rfl (by decide)) rep_entry (by rw [cells_tab (t := 115) (n := 2) rfl (by decide)]; decide)

theorem rep_node : Rep 46 nodeRow Node.Ok Node.sz where
  size := fun x => by rw [cells_tab (t := 46) (n := 5) rfl (by decide)]; rfl
  opn := fun enc w n cs y h => by
    obtain ⟨xs, m, rfl, rfl, hl, hxl, hf⟩ := DataW.trod_struct Try.underlying46 h
    obtain ⟨y0, y1, y2, y3, y4, rfl⟩ : ∃ y0 y1 y2 y3 y4, xs = [y0, y1, y2, y3, y4] := by
      have hxl : xs.length = 5 := hxl
      match xs, hxl with
      | [a0, a1, a2, a3, a4], _ => exact ⟨a0, a1, a2, a3, a4, rfl⟩
    have e0 : DataW.trod enc Try.prog w 0 (fun _ => true) true m 3 ((cs.drop 0).take ((Try.prog).cellsOf 3)) = some y0 := hf 0 _ rfl
    obtain ⟨x0, q0, s0, r0⟩ := (rep_i 3 Try.underlying3 rfl).opn enc w m _ _ e0
    rw [cells_tab (t := 3) (n := 1) rfl (by decide)] at r0
    have e1 : DataW.trod enc Try.prog w 0 (fun _ => true) true m 4 ((cs.drop 1).take ((Try.prog).cellsOf 4)) = some y1 := hf 1 _ rfl
    obtain ⟨x1, q1, s1, r1⟩ := (rep_bool Try.underlying4 (cells_tab (t := 4) (n := 1) rfl (by decide))).opn enc w m _ _ e1
    rw [cells_tab (t := 4) (n := 1) rfl (by decide)] at r1
    have e2 : DataW.trod enc Try.prog w 0 (fun _ => true) true m 23 ((cs.drop 2).take ((Try.prog).cellsOf 23)) = some y2 := hf 2 _ rfl
    obtain ⟨x2, q2, s2, r2⟩ := (rep_bytes).opn enc w m _ _ e2
    rw [cells_tab (t := 23) (n := 1) rfl (by decide)] at r2
    have e3 : DataW.trod enc Try.prog w 0 (fun _ => true) true m 44 ((cs.drop 3).take ((Try.prog).cellsOf 44)) = some y3 := hf 3 _ rfl
    obtain ⟨x3, q3, s3, r3⟩ := (rep_entries).opn enc w m _ _ e3
    rw [cells_tab (t := 44) (n := 1) rfl (by decide)] at r3
    have e4 : DataW.trod enc Try.prog w 0 (fun _ => true) true m 3 ((cs.drop 4).take ((Try.prog).cellsOf 3)) = some y4 := hf 4 _ rfl
    obtain ⟨x4, q4, s4, r4⟩ := (rep_i 3 Try.underlying3 rfl).opn enc w m _ _ e4
    rw [cells_tab (t := 3) (n := 1) rfl (by decide)] at r4
    refine ⟨⟨x0, x1, x2, x3, x4⟩, ⟨q0, q3, q4⟩, ?_, ?_⟩
    · simp only [szL_ones] at s2
      simp only [Node.sz, Rows.uptoBulk, Rows.uptoBulkAll, List.map_cons, List.map_nil]; omega
    · have hl : cs.length = 5 := by rw [hl, cells_tab (t := 46) (n := 5) rfl (by decide)]
      have := rdc_cons 0 1 r0 rfl (rdc_cons 1 1 r1 rfl (rdc_cons 2 1 r2 rfl (rdc_cons 3 1 r3 rfl (rdc_cons 4 1 r4 rfl (rdc_nil hl)))))
      rw [List.drop_zero] at this
      exact this

theorem rep_nodes : Rep 39 (fun l : List Node => [AV.sl (l.map nodeRow)]) (fun l => ∀ x, x ∈ l → x.Ok) (fun l => szL Node.sz l + 1) :=
  rep_slice Try.underlying39 (cells_tab (t := 39) (n := 1) rfl (by decide)) rep_node (by rw [cells_tab (t := 46) (n := 5) rfl (by decide)]; decide)

theorem rep_act : Rep 25 actRow Act.Ok Act.sz where
  size := fun x => by rw [cells_tab (t := 25) (n := 7) rfl (by decide)]; rfl
  opn := fun enc w n cs y h => by
    obtain ⟨xs, m, rfl, rfl, hl, hxl, hf⟩ := DataW.trod_struct Try.underlying25 h
    obtain ⟨y0, y1, y2, y3, y4, y5, y6, rfl⟩ : ∃ y0 y1 y2 y3 y4 y5 y6, xs = [y0, y1, y2, y3, y4, y5, y6] := by
      have hxl : xs.length = 7 := hxl
      match xs, hxl with
      | [a0, a1, a2, a3, a4, a5, a6], _ => exact ⟨a0, a1, a2, a3, a4, a5, a6, rfl⟩
    have e0 : DataW.trod enc Try.prog w 0 (fun _ => true) true m 3 ((cs.drop 0).take ((Try.prog).cellsOf 3)) = some y0 := hf 0 _ rfl
    obtain ⟨x0, q0, s0, r0⟩ := (rep_i 3 Try.underlying3 rfl).opn enc w m _ _ e0
    rw [cells_tab (t := 3) (n := 1) rfl (by decide)] at r0
    have e1 : DataW.trod enc Try.prog w 0 (fun _ => true) true m 3 ((cs.drop 1).take ((Try.prog).cellsOf 3)) = some y1 := hf 1 _ rfl
    obtain ⟨x1, q1, s1, r1⟩ := (rep_i 3 Try.underlying3 rfl).opn enc w m _ _ e1
    rw [cells_tab (t := 3) (n := 1) rfl (by decide)] at r1
    have e2 : DataW.trod enc Try.prog w 0 (fun _ => true) true m 3 ((cs.drop 2).take ((Try.prog).cellsOf 3)) = some y2 := hf 2 _ rfl
    obtain ⟨x2, q2, s2, r2⟩ := (rep_i 3 Try.underlying3 rfl).opn enc w m _ _ e2
    rw [cells_tab (t := 3) (n := 1) rfl (by decide)] at r2
    have e3 : DataW.trod enc Try.prog w 0 (fun _ => true) true m 9 ((cs.drop 3).take ((Try.prog).cellsOf 9)) = some y3 := hf 3 _ rfl
    obtain ⟨x3, q3, s3, r3⟩ := (rep_str Try.underlying9 (cells_tab (t := 9) (n := 1) rfl (by decide))).opn enc w m _ _ e3
    rw [cells_tab (t := 9) (n := 1) rfl (by decide)] at r3
    have e4 : DataW.trod enc Try.prog w 0 (fun _ => true) true m 3 ((cs.drop 4).take ((Try.prog).cellsOf 3)) = some y4 := hf 4 _ rfl
    obtain ⟨x4, q4, s4, r4⟩ := (rep_i 3 Try.underlying3 rfl).opn enc w m _ _ e4
    rw [cells_tab (t := 3) (n := 1) rfl (by decide)] at r4
    have e5 : DataW.trod enc Try.prog w 0 (fun _ => true) true m 9 ((cs.drop 5).take ((Try.prog).cellsOf 9)) = some y5 := hf 5 _ rfl
    obtain ⟨x5, q5, s5, r5⟩ := (rep_str Try.underlying9 (cells_tab (t := 9) (n := 1) rfl (by decide))).opn enc w m _ _ e5
    rw [cells_tab (t := 9) (n := 1) rfl (by decide)] at r5
    have e6 : DataW.trod enc Try.prog w 0 (fun _ => true) true m 23 ((cs.drop 6).take ((Try.prog).cellsOf 23)) = some y6 := hf 6 _ rfl
    obtain ⟨x6, q6, s6, r6⟩ := (rep_bytes).opn enc w m _ _ e6
    rw [cells_tab (t := 23) (n := 1) rfl (by decide)] at r6
    refine ⟨⟨x0, x1, x2, x3, x4, x5, x6⟩, ⟨q0, q1, q2, q4⟩, ?_, ?_⟩
    · simp only [szL_ones] at s6
      simp only [Act.sz, Rows.uptoBulk, Rows.uptoBulkAll, List.map_cons, List.map_nil]; omega
    · have hl : cs.length = 7 := by rw [hl, cells_tab (t := 25) (n := 7) rfl (by decide)]
      have := rdc_cons 0 1 r0 rfl (rdc_cons 1 1 r1 rfl (rdc_cons 2 1 r2 rfl (rdc_cons 3 1 r3 rfl (rdc_cons 4 1 r4 rfl (rdc_cons 5 1 r5 rfl (rdc_cons 6 1 r6 rfl (rdc_nil hl)))))))
      rw [List.drop_zero] at this
      exact this

theorem rep_acts : Rep 33 (fun l : List Act => [AV.sl (l.map actRow)]) (fun l => ∀ x, x ∈ l → x.Ok) (fun l => szL Act.sz l + 1) :=
  rep_slice Try.underlying33 (cells_tab (t := 33) (n := 1) rfl (by decide)) rep_act (by rw [cells_tab (t := 25) (n := 7) rfl (by decide)]; decide)

theorem rep_rec : Rep 27 recRow Rec.Ok Rec.sz where
  size := fun x => by rw [cells_tab (t := 27) (n := 9) rfl (by decide)]; rfl
  opn := fun enc w n cs y h => by
    obtain ⟨xs, m, rfl, rfl, hl, hxl, hf⟩ := DataW.trod_struct Try.underlying27 h
    obtain ⟨y0, y1, y2, rfl⟩ : ∃ y0 y1 y2, xs = [y0, y1, y2] := by
      have hxl : xs.length = 3 := hxl
      match xs, hxl with
      | [a0, a1, a2], _ => exact ⟨a0, a1, a2, rfl⟩
    have e0 : DataW.trod enc Try.prog w 0 (fun _ => true) true m 25 ((cs.drop 0).take ((Try.prog).cellsOf 25)) = some y0 := hf 0 _ rfl
    obtain ⟨x0, q0, s0, r0⟩ := (rep_act).opn enc w m _ _ e0
    rw [cells_tab (t := 25) (n := 7) rfl (by decide)] at r0
    have e1 : DataW.trod enc Try.prog w 0 (fun _ => true) true m 3 ((cs.drop 7).take ((Try.prog).cellsOf 3)) = some y1 := hf 1 _ rfl
    obtain ⟨x1, q1, s1, r1⟩ := (rep_i 3 Try.underlying3 rfl).opn enc w m _ _ e1
    rw [cells_tab (t := 3) (n := 1) rfl (by decide)] at r1
    have e2 : DataW.trod enc Try.prog w 0 (fun _ => true) true m 3 ((cs.drop 8).take ((Try.prog).cellsOf 3)) = some y2 := hf 2 _ rfl
    obtain ⟨x2, q2, s2, r2⟩ := (rep_i 3 Try.underlying3 rfl).opn enc w m _ _ e2
    rw [cells_tab (t := 3) (n := 1) rfl (by decide)] at r2
    refine ⟨⟨x0, x1, x2⟩, ⟨q0, q1, q2⟩, ?_, ?_⟩
    · simp only [Rec.sz, Rows.uptoBulk, Rows.uptoBulkAll, List.map_cons, List.map_nil]; omega
    · have hl : cs.length = 9 := by rw [hl, cells_tab (t := 27) (n := 9) rfl (by decide)]
      have := rdc_cons 0 7 r0 rfl (rdc_cons 7 1 r1 rfl (rdc_cons 8 1 r2 rfl (rdc_nil hl)))
      rw [List.drop_zero] at this
      exact this

theorem rep_recs : Rep 22 (fun l : List Rec => [AV.sl (l.map recRow)]) (fun l => ∀ x, x ∈ l → x.Ok) (fun l => szL Rec.sz l + 1) :=
  rep_slice Try.underlying22 (cells_tab (t := 22) (n := 1) rfl (by decide)) rep_rec (by rw [cells_tab (t := 27) (n := 9) rfl (by decide)]; decide)

/-! ### Arguments -/

/-- an argument, opened -/
theorem open_arg {t : TypeId} {α : Type} {f : α → List AV} {q : α → Prop} {sz : α → Nat} (h : Rep t f q sz) {H : Type} {enc : TypeId × Value → H} {w : World} {v : Value} {d : DataW H} {ps : List MemPlace}
    (hd : DataW.Trod enc Try.prog w 0 (fun _ => true) true t v d ps) : ∃ x, q x ∧ sz x ≤ Rows.uptoBulk d ∧ RdC w v.cells.toList (f x) := by
  obtain ⟨n, hn⟩ := hd
  exact h.opn enc w n _ _ hn

/-- of one cell -/
theorem rdc_one {w : World} {v : Value} {x : AV} (h : RdC w v.cells.toList [x]) (hv : ∀ cs, v ≠ .agg cs) : RdP (fun b => b < w.heap.size) w v x := by
  have := h.2 0 x rfl
  cases v with
  | agg cs => exact absurd rfl (hv cs)
  | _ => exact this

theorem rdc_agg {w : World} {cs : Array Value} {xs : List AV} (h : RdC w (Value.agg cs).cells.toList xs) : RdP (fun b => b < w.heap.size) w (.agg cs) (.agg xs) := by
  refine .agg cs xs (by have h1 : cs.toList.length = xs.length := h.1; simpa using h1) fun j y hj => ?_
  have := h.2 j y hj
  rwa [List.getD_eq_getElem?_getD, Array.getElem?_toList, ← Array.getD_eq_getD_getElem?] at this

/-! ### What is not large -/
theorem Act.sz_data (a : Act) : a.data.length ≤ a.sz := by unfold Act.sz; omega
theorem actSmall_of {a : Act} (h : a.sz ≤ 1048576) : a.Small := by unfold Act.Small; have := a.sz_data; omega
theorem recSmall_of {r : Rec} (h : r.sz ≤ 1048576) : r.act.Small := actSmall_of (by unfold Rec.sz at h; omega)
theorem smallL_of {l : List Rec} (h : szL Rec.sz l ≤ 1048576) : SmallL l :=
  ⟨by have := szL_len (sz := Rec.sz) (fun r => by unfold Rec.sz; omega) l; omega, fun r hr => recSmall_of (by have := szL_mem (sz := Rec.sz) hr; omega)⟩
theorem nodeSmall_of {n : Node} (h : n.sz ≤ 1048576) : n.Small := by
  have h1 := szL_len (sz := Entry.sz) (fun e => by unfold Entry.sz; omega) n.entries
  unfold Node.sz at h
  exact ⟨by omega, by omega⟩
theorem small_of {l : List Node} (h : szL Node.sz l ≤ 1048576) : Small l :=
  ⟨by have := szL_len (sz := Node.sz) (fun r => by unfold Node.sz; omega) l; omega, fun r hr => nodeSmall_of (by have := szL_mem (sz := Node.sz) hr; omega)⟩
theorem nodes_len {l : List Node} (h : szL Node.sz l ≤ 1048576) : l.length ≤ 99999999 := by
  have := szL_len (sz := Node.sz) (fun r => by unfold Node.sz; omega) l; omega
theorem entries_len {n : Node} (h : n.sz ≤ 1048576) : n.entries.length ≤ 99999999 := by
  have h1 := szL_len (sz := Entry.sz) (fun e => by unfold Entry.sz; omega) n.entries
  unfold Node.sz at h
  omega
end La

namespace La
theorem fitN_of {l : List Node} (h : szL Node.sz l ≤ 1048576) : FitN 90000000 l := by
  refine ⟨by have := szL_len (sz := Node.sz) (fun r => by unfold Node.sz; omega) l; omega, fun n hn => ?_, fun n hn => ?_⟩
  · have := szL_mem (sz := Node.sz) hn
    have h3 : n.data.length + szL Entry.sz n.entries + 1 = n.sz := rfl
    omega
  · have := szL_mem (sz := Node.sz) hn
    have h3 : n.data.length + szL Entry.sz n.entries + 1 = n.sz := rfl
    have h1 := szL_len (sz := Entry.sz) (fun e => by unfold Entry.sz; omega) n.entries
    omega
end La
namespace Go.Proofs.Ytldpfleilffanaa.actsBack
set_option maxRecDepth 100000
set_option linter.unusedSimpArgs false
open Go Go.ChangeShapes Go.WideShapes Go.ChangeAt Go.RowKit Go.Eng

theorem contract (H : Type) (enc : TypeId × Value → H) (W : World) (base : Nat) (args : Array Value) (ds gs : List (DataW H)) (before : List MemPlace)
    (hval : ∀ (j : Nat) t v, Try.f8.params[j]? = some t → args[j]? = some v → Value.okWide Try.prog W .any base t v)
    (hW : DataW.Whole enc Try.prog Try.f8.params.toList Rows.actsBackSpec.vars false W args.toList ds gs before) (hk : Rows.uptoSmall H (ds ++ gs) = true) :
    Calls Try.prog 8 args W fun e W' => ∃ v, e = .returned v ∧ Rows.actsBackSpec.post enc Try.prog Try.f8 false true false false W args v W' := by
  have hW' := hW
  obtain ⟨p, q, hA0, hV, rfl, hfz, hnd⟩ := hW
  have hA : DataW.TrodAll enc Try.prog W 0 (fun _ => true) true Try.f8.params.toList args.toList ds p := hA0
  rw [Try.params8] at hA hval
  obtain ⟨v0, vs0, d0, ds0, p0, q0, hargs, rfl, rfl, h0, r0⟩ := trodAll_cons hA
  obtain ⟨v1, vs1, d1, ds1, p1, q1, rfl, rfl, rfl, h1, r1⟩ := trodAll_cons r0
  obtain ⟨v2, vs2, d2, ds2, p2, q2, rfl, rfl, rfl, h2, r2⟩ := trodAll_cons r1
  obtain ⟨v3, vs3, d3, ds3, p3, q3, rfl, rfl, rfl, h3, r3⟩ := trodAll_cons r2
  obtain ⟨v4, vs4, d4, ds4, p4, q4, rfl, rfl, rfl, h4, r4⟩ := trodAll_cons r3
  obtain ⟨rfl, rfl, rfl⟩ := trodAll_nil r4
  obtain rfl : args = #[v0, v1, v2, v3, v4] := by cases args; simp_all
  obtain ⟨rfl, rfl⟩ := trodVars_none hV
  have hk2 : Rows.uptoBulkAll [d0, d1, d2, d3, d4] ≤ 1048576 := of_decide_eq_true hk
  simp only [Rows.uptoBulkAll] at hk2
  obtain ⟨x0, o0, s0, c0⟩ := La.open_arg (La.rep_nodes) h0
  obtain ⟨a0, len0, cap0, rfl⟩ := okWide_slice Try.underlying39 (hval 0 39 v0 rfl rfl)
  have R0 := La.rdc_one c0 (fun _ h => nomatch h)
  obtain ⟨x1, o1, s1, c1⟩ := La.open_arg (La.rep_i 3 Try.underlying3 rfl) h1
  obtain ⟨b1, rfl⟩ := okWide_int Try.underlying3 (hval 1 3 v1 rfl rfl)
  have R1 := La.rdc_one c1 (fun _ h => nomatch h)
  obtain ⟨x2, o2, s2, c2⟩ := La.open_arg (La.rep_str Try.underlying9 (La.cells_tab (t := 9) (n := 1) rfl (by decide))) h2
  obtain ⟨b2, rfl⟩ := okWide_string Try.underlying9 (hval 2 9 v2 rfl rfl)
  have R2 := La.rdc_one c2 (fun _ h => nomatch h)
  obtain ⟨x3, o3, s3, c3⟩ := La.open_arg (La.rep_i 3 Try.underlying3 rfl) h3
  obtain ⟨b3, rfl⟩ := okWide_int Try.underlying3 (hval 3 3 v3 rfl rfl)
  have R3 := La.rdc_one c3 (fun _ h => nomatch h)
  obtain ⟨x4, o4, s4, c4⟩ := La.open_arg (La.rep_bool Try.underlying4 (La.cells_tab (t := 4) (n := 1) rfl (by decide))) h4
  obtain ⟨b4, rfl⟩ := okWide_bool Try.underlying4 (hval 4 4 v4 rfl rfl)
  have R4 := La.rdc_one c4 (fun _ h => nomatch h)
  refine (calls_of_fn (La.back_ok x0 x1 x2 x3 x4 (La.fitN_of (by omega)) (by omega)) (w := W) (vs := [.slice a0 len0 cap0, .int .i64 b1, .string b2, .int .i64 b3, .bool b4]) rfl (S := fun b => b < W.heap.size) (fun j x h => ?_) (fun _ h => h)).mono fun e W' ⟨v, μ, S', he, hv, hf⟩ => ?_
  · rcases j with _ | _ | _ | _ | _ | j
    · simp only [List.getElem?_cons_zero, List.getElem?_cons_succ, Option.some.injEq] at h; subst h; exact R0
    · simp only [List.getElem?_cons_zero, List.getElem?_cons_succ, Option.some.injEq] at h; subst h; exact R1
    · simp only [List.getElem?_cons_zero, List.getElem?_cons_succ, Option.some.injEq] at h; subst h; exact R2
    · simp only [List.getElem?_cons_zero, List.getElem?_cons_succ, Option.some.injEq] at h; subst h; exact R3
    · simp only [List.getElem?_cons_zero, List.getElem?_cons_succ, Option.some.injEq] at h; subst h; exact R4
    · simp at h
  subst he
  obtain rfl := hv.inv_bool
  exact ⟨_, rfl, post_true La.laid La.rowed La.full (by rw [Try.params8]; decide) rfl Try.underlying4 rfl hW' hf rfl rfl rfl⟩

theorem lifted (os : Os) (started : os.Started) (H : Type) (enc : TypeId × Value → H) (F : Stop.Interp) :
    ReturnsInHanded {} Try.checked os 8 .any ((Rows.OpenSpec.upto Rows.actsBackSpec).pre6 enc Try.prog Try.f8 Rows.actsBackUptoRow.domain false) (((Rows.OpenSpec.upto Rows.actsBackSpec).at F).post enc Try.prog Try.f8 false true false false) := by
  refine returnsInHanded_of_cond (C := Try.checked) (s := Rows.OpenSpec.upto Rows.actsBackSpec) (k := Rows.uptoSmall) rfl La.own started (by kernel_rfl) Try.func8
    (OpenSpec.witness (enc := enc) (C := Try.checked) (s := Rows.OpenSpec.upto Rows.actsBackSpec) (k := Rows.uptoSmall) rfl false ⟨#[], #[.slice none 0 0, .int .i64 0, .string ⟨#[]⟩, .int .i64 0, .bool false], []⟩ 8 (by kernel_rfl) (by kernel_rfl) (by kernel_rfl)
      (x := ([.nil, .lit (.int .i64 0), .lit (.string []), .lit (.int .i64 0), .lit (.bool false)], [], [])) (by kernel_rfl) rfl (by kernel_rfl)) ?_
  intro W base args ds gs before hval hW _ hk _
  exact contract H enc W base args ds gs before hval hW hk

theorem over : Rows.actsBackUptoRow.holds Try.pinned (Rows.OpenSpec.upto Rows.actsBackSpec) :=
  OpenClaim.holds_of_cond 8 Try.f8 rfl rfl rfl rfl rfl rfl rfl ⟨rfl, rfl, rfl, rfl, rfl⟩ rfl rfl rfl rfl rfl (by kernel_rfl) Try.func8 (by kernel_rfl)
    (of_decide_eq_true (by kernel_rfl)) (by unfold Func.isWrapper; first | (rw [if_pos (by decide +kernel)]; kernel_rfl) | (rw [if_neg (by decide +kernel)]; exact ⟨rfl, rfl⟩))
    (fun os started H enc _ F => lifted os started H enc F)

theorem proved : Rows.ActsBackUptoSaid :=
  over
end Go.Proofs.Ytldpfleilffanaa.actsBack
