/- The law RepairDrop is true of the program: its statement RepairDropUptoSaid, in this seat's Rows. No condition. -/
import Derived.ChangeArms
import Derived.Test.YtldpfleilffanaaX4
namespace La
open Go Go.Eng Go.Proofs
set_option maxRecDepth 10000
set_option linter.unusedSimpArgs false
set_option linter.unusedVariables false

def jRow (j : JS) : List AV := [.sl (j.l.map nodeRow), .int .i64 j.next, .int .i64 j.version, .mp 25, .mp 26, .mp 27]
def jB (j : JS) : List (Nat × Blk) := [(29, .cells 194 6 [jRow j]), (27, .map (mB j.lost)), (26, .map (mB j.ours)), (25, .map (mI j.own))]
def jH (j : JS) (G Y N : Nat → Nat) : List (Nat × Blk) := jB j ++ pins [29, 25, 26, 27] G Y N
/-- with the box of who judges, that a closure holds -/
def jcH (j : JS) (G Y N : Nat → Nat) : List (Nat × Blk) := ([(2, .cells 192 1 [[.ptr 29 6 0 0]])] ++ jB j) ++ pins [29, 25, 26, 27, 2] G Y N
/-- with an act -/
def jaH (j : JS) (a : Act) (G Y N : Nat → Nat) : List (Nat × Blk) := ([(6, .cells 25 7 [actRow a])] ++ jB j) ++ pins [29, 25, 26, 27, 6] G Y N

/-- what is held is held still -/
def Holds (L H : List (Nat × Blk)) : Prop := ∀ i b, hget L i = some b → hget H i = some b
theorem holds_nil (H : List (Nat × Blk)) : Holds [] H := fun _ _ h => nomatch h
theorem holds_cons {L H : List (Nat × Blk)} {k : Nat} {B : Blk} (h : hget H k = some B) (hL : Holds L H) : Holds ((k, B) :: L) H := fun i b hb => by
  simp only [hget] at hb
  split at hb
  · rename_i e; subst e; rw [h]; exact hb
  · exact hL i b hb
theorem fid_ok (j : JS) (f : Int) (G Y N : Nat → Nat) : FnOK Try.prog 172 [.ptr 29 6 0 0, .int .i64 f] (jH j G Y N) (fun r H => r = .int .i64 (atF j.own f) ∧ Holds (jH j G Y N) H) := by
  unfold jH jB jRow atF
  refine fn_of_cwW tabOK (Go.Proofs.Try.func172) rfl (fun C => ?_)
  simp only [Go.Proofs.Try.ntmps172, Go.Proofs.Try.results172, go_sem]
  refine cw_goR 99 (by simp only [go_sem]; try exact rfl) ?_
  refine cw_runN tabOK 1 (by simp only [go_sem]; exact rfl) (by simp only [go_sem]; exact rfl) (by simp only [go_sem]; try exact rfl) (by simp [go_sem]) ?_
  refine cw_goR 99 (by simp only [go_sem]; try exact rfl) ?_
  refine cw_runN tabOK 5 (by simp only [go_sem]; exact rfl) (by simp only [go_sem]; exact rfl) (by simp only [go_sem]; try exact rfl) (by simp [go_sem]) ?_
  refine cw_go tabOK 99 (by simp only [go_sem]; try exact rfl) (by simp [go_sem]) ?_
  cases e : hasI j.own f with
  | true =>
    refine cw_condT (by simp only [go_sem]; try exact rfl) trivial (by simp [e]) ?_
    refine cw_go tabOK 99 (by simp only [go_sem]; try exact rfl) (by simp [go_sem]) ?_
    refine cw_ret ⟨_, _, (by simp only [go_sem]; try exact rfl), by simp [go_sem], _, .inr (.inl rfl), ?_⟩
    exact ⟨rfl, fun i b hb => hb⟩
  | false =>
    refine cw_condF (by simp only [go_sem]; try exact rfl) trivial (by simp [e]) ?_
    refine cw_go tabOK 99 (by simp only [go_sem]; try exact rfl) (by simp [go_sem]) ?_
    refine cw_ret ⟨_, _, (by simp only [go_sem]; try exact rfl), by simp [go_sem], _, .inr (.inl rfl), ?_⟩
    exact ⟨rfl, fun i b hb => hb⟩

theorem lost_ok (j : JS) (f : Int) (G Y N : Nat → Nat) : FnOK Try.prog 181 [.int .i64 f, .ptr 2 1 0 0] (jcH j G Y N) (fun r H => r = .bool (getB j.lost f) ∧ Holds (jcH j G Y N) H) := by
  unfold jcH jB jRow
  refine fn_of_cwW tabOK (Go.Proofs.Try.func181) rfl (fun C => ?_)
  simp only [Go.Proofs.Try.ntmps181, Go.Proofs.Try.results181, go_sem]
  refine cw_go tabOK 99 (by simp only [go_sem]; try exact rfl) (by simp [go_sem]) ?_
  refine cw_ret ⟨_, _, (by simp only [go_sem]; try exact rfl), by simp [go_sem], _, .inr (.inl rfl), ?_⟩
  exact ⟨rfl, fun i b hb => hb⟩

theorem lostIdx_ok (j : JS) (l : List Int) (hlen : l.length ≤ 100000000) (G Y N : Nat → Nat) : FnOK Try.prog 155 [.sl (l.map intRow), .fn 181 [.ptr 2 1 0 0]] (jcH j G Y N)
    (fun r H => r = .int .i64 (idxI (l.findIdx? (getB j.lost))) ∧ Holds (jcH j G Y N) H) := by
  unfold jcH jB jRow
  refine fn_of_cwW tabOK (Go.Proofs.Try.func155) rfl (fun C => ?_)
  simp only [Go.Proofs.Try.ntmps155, Go.Proofs.Try.results155, go_sem]
  refine cw_go tabOK 99 (by simp only [go_sem]; try exact rfl) (by simp [go_sem]) ?_
  refine cw_loopS (fun i : Nat => i ≤ l.length ∧ ∀ x, x ∈ l.take i → getB j.lost x = false) (fun i => l.length - i) (fun i => [(8, .int .i64 i), (5, .any), (9, .any), (10, .any), (11, .any), (12, .any), (13, .any), (14, .any), (15, .any), (16, .any), (17, .any), (18, .any)]) (fun _ => []) 0 ⟨by omega, by simp⟩ ?_ fun i hi => ?_
  · simp only [go_sem]
    exact le_sub (by simp [go_sem]) (by simp [go_sem]) (by simp [go_sem])
  obtain ⟨hi, hno⟩ := hi
  simp only [go_sem]
  refine cw_go tabOK 99 (by simp only [go_sem]; try exact rfl) (by simp [go_sem]) ?_
  refine cw_cond (by simp only [go_sem]; try exact rfl) trivial (fun h => ?_) (fun h => ?_)
  · have hlt : i < l.length := by simp at h; omega
    have hg : (l.map intRow).getD i [] = intRow (l.getD i default) := Fam.getD hlt
    have htk := take_succ_getD hlt
    have hgi : l[i]? = some (l.getD i default) := by rw [List.getD_eq_getElem?_getD, List.getElem?_eq_getElem hlt]; rfl
    have hc := lost_ok j (l.getD i default)
    unfold jcH jB jRow at hc
    generalize l.getD i default = n at hg htk hgi hc
    refine cw_go tabOK 99 (by simp only [go_sem, hg, intRow]; try exact rfl) ?_ ?_
    · simp [hlt, intRow]
    refine cw_step rfl (trip_callP rfl (by simp only [go_sem]; try exact rfl) (by simp [go_sem]) ⟨_, Go.Proofs.Try.func181, by kernel_rfl, rfl⟩ [29, 25, 26, 27, 2] (by simp only [go_sem, Bool.false_or, Bool.or_true, Bool.true_or, Bool.or_false, ↓reduceIte]; try exact rfl) (by simp [go_sem]) (by simp) (by simp [go_sem]) (by simp [go_sem]) (by simp [go_sem]) (hc) (by simp only [go_sem, Bool.false_or, Bool.or_true, Bool.true_or, Bool.or_false, ↓reduceIte]; exact rfl)) ?_
    refine cw_go tabOK 99 (by simp only [go_sem]; try exact rfl) (by simp [go_sem]) ?_
    refine cw_cond (by simp only [go_sem]; try exact rfl) trivial (fun h => ?_) (fun h => ?_)
    · refine cw_go tabOK 99 (by simp only [go_sem]; try exact rfl) (by simp [go_sem]) ?_
      refine cw_ret ⟨_, _, by simp only [go_sem]; try exact rfl, by simp [go_sem], _, .inr (.inl rfl), ?_, ?_⟩
      · rw [findIdx_at hgi hno h]; rfl
      · skip
        simp only [pins, List.cons_append, List.nil_append, List.map_cons, List.map_nil]
        repeat' refine holds_cons ?_ ?_
        all_goals first | exact holds_nil _ | rfl | simp [go_sem]
    · have hw : IntKind.i64.wrap ((i : Int) + 1) = (i : Int) + 1 := wrap_small (by omega) (by omega)
      refine cw_go tabOK 99 (by simp only [go_sem, hw]; try exact rfl) (by simp [go_sem, hw]) ?_
      refine cw_back ⟨i + 1, ⟨by omega, ?_⟩, by omega, le_sub ?_ ?_ ?_⟩
      · rw [htk]
        intro x hx
        rcases List.mem_append.1 hx with hx | hx
        · exact hno x hx
        · rw [List.mem_singleton.1 hx]; exact h
      · simp [go_sem]
      · simp [go_sem]
      · simp [go_sem]
  · have e : i = l.length := by simp at h; omega
    refine cw_go tabOK 99 (by simp only [go_sem]; try exact rfl) (by simp [go_sem]) ?_
    refine cw_ret ⟨_, _, by simp only [go_sem]; try exact rfl, by simp [go_sem], _, .inr (.inl rfl), ?_, ?_⟩
    · rw [e, List.take_length] at hno
      rw [List.findIdx?_eq_none_iff.2 hno]; rfl
    · skip
      simp only [pins, List.cons_append, List.nil_append, List.map_cons, List.map_nil]
      repeat' refine holds_cons ?_ ?_
      all_goals first | exact holds_nil _ | rfl | simp [go_sem]
theorem lostAny_ok (j : JS) (l : List Int) (hlen : l.length ≤ 100000000) (G Y N : Nat → Nat) : FnOK Try.prog 117 [.sl (l.map intRow), .fn 181 [.ptr 2 1 0 0]] (jcH j G Y N)
    (fun r H => r = .bool (l.any (getB j.lost)) ∧ Holds (jcH j G Y N) H) := by
  have hc := lostIdx_ok j l hlen
  unfold jcH jB jRow at hc ⊢
  refine fn_of_cwW tabOK (Go.Proofs.Try.func117) rfl (fun C => ?_)
  simp only [Go.Proofs.Try.ntmps117, Go.Proofs.Try.results117, go_sem]
  refine cw_go tabOK 99 (by simp only [go_sem]; try exact rfl) (by simp [go_sem]) ?_
  refine cw_step rfl (trip_callP rfl (by simp only [go_sem]; try exact rfl) (by simp [go_sem]) ⟨_, Go.Proofs.Try.func155, by kernel_rfl, rfl⟩ [29, 25, 26, 27, 2] (by simp only [go_sem, Bool.false_or, Bool.or_true, Bool.true_or, Bool.or_false, ↓reduceIte]; try exact rfl) (by simp [go_sem]) (by simp) (by simp [go_sem]) (by simp [go_sem]) (by simp [go_sem]) (hc) (by simp only [go_sem, Bool.false_or, Bool.or_true, Bool.true_or, Bool.or_false, ↓reduceIte]; exact rfl)) ?_
  refine cw_go tabOK 99 (by simp only [go_sem]; try exact rfl) (by simp [go_sem]) ?_
  refine cw_ret ⟨_, _, by simp only [go_sem]; try exact rfl, by simp [go_sem], _, .inr (.inl rfl), ?_, ?_⟩
  · rw [idxI_any]
  · skip
    simp only [pins, List.cons_append, List.nil_append, List.map_cons, List.map_nil]
    repeat' refine holds_cons ?_ ?_
    all_goals first | exact holds_nil _ | rfl | simp [go_sem]

theorem rests_ok (j : JS) (a : Act) (G Y N : Nat → Nat) : FnOK Try.prog 171 [.ptr 29 6 0 0, .ptr 6 7 0 0] (jaH j a G Y N) (fun r H => r = .bool (restsB j a) ∧ Holds (jaH j a G Y N) H) := by
  have hc := lostAny_ok j (fids a) (by have := fids_len a; omega)
  have hf := fids_ok a
  unfold restsB
  generalize (fids a).any (getB j.lost) = z at hc ⊢
  generalize fids a = l at hc hf
  unfold jcH jB jRow at hc
  unfold actRow at hf
  unfold jaH jB jRow actRow
  refine fn_of_cwW tabOK (Go.Proofs.Try.func171) rfl (fun C => ?_)
  simp only [Go.Proofs.Try.ntmps171, Go.Proofs.Try.results171, go_sem]
  refine cw_go tabOK 99 (by simp only [go_sem]; try exact rfl) (by simp [go_sem]) ?_
  refine cw_call rfl rfl (by simp only [go_sem]; try exact rfl) (by simp [go_sem]) ⟨_, Go.Proofs.Try.func99, by kernel_rfl, rfl⟩ (by simp [go_sem]) (hf) (by simp [go_sem]) (by simp only [go_sem]; exact rfl) ?_
  refine cw_go tabOK 99 (by simp only [go_sem]; try exact rfl) (by simp [go_sem]) ?_
  refine cw_step rfl (trip_callP rfl (by simp only [go_sem]; try exact rfl) (by simp [go_sem]) ⟨_, Go.Proofs.Try.func117, by kernel_rfl, rfl⟩ [29, 25, 26, 27, 2] (by simp only [go_sem, Bool.false_or, Bool.or_true, Bool.true_or, Bool.or_false, ↓reduceIte]; try exact rfl) (by simp [go_sem]) (by simp) (by simp [go_sem]) (by simp [go_sem]) (by simp [go_sem]) (hc) (by simp only [go_sem, Bool.false_or, Bool.or_true, Bool.true_or, Bool.or_false, ↓reduceIte]; exact rfl)) ?_
  refine cw_go tabOK 99 (by simp only [go_sem]; try exact rfl) (by simp [go_sem]) ?_
  refine cw_ret ⟨_, _, by simp only [go_sem]; try exact rfl, by simp [go_sem], _, .inr (.inl rfl), ?_, ?_⟩
  · rfl
  · skip
    simp only [pins, List.cons_append, List.nil_append, List.map_cons, List.map_nil]
    repeat' refine holds_cons ?_ ?_
    all_goals first | exact holds_nil _ | rfl | simp [go_sem]

set_option maxHeartbeats 1000000 in
theorem stale_ok (j : JS) (r : Rec) (a : Act) (hl : Small j.l) (G Y N : Nat → Nat) : FnOK Try.prog 173 [.ptr 29 6 0 0, .rp (recRow r) 0, .ptr 6 7 0 0] (jaH j a G Y N) (fun x H => x = .bool (staleB j r a) ∧ Holds (jaH j a G Y N) H) := by
  have hf := find_ok j.l a.fid hl
  unfold staleB
  unfold jaH jB jRow actRow recRow
  refine fn_of_cwW tabOK (Go.Proofs.Try.func173) rfl (fun C => ?_)
  simp only [Go.Proofs.Try.ntmps173, Go.Proofs.Try.results173, go_sem]
  refine cw_go tabOK 99 (by simp only [go_sem]; try exact rfl) (by simp [go_sem]) ?_
  refine cw_draw mixed ?_
  refine seg_start rfl ?_
  refine seg_runN tabOK 12 (by simp only [go_sem]; exact rfl) (by simp only [go_sem]; exact rfl) (by simp only [go_sem]; try exact rfl) (by simp [go_sem]) (by simp only [go_sem]; exact rfl) ?_
  refine seg_name 20 (by simp only [go_sem]; exact rfl) (fun c20 h20 => ?_)
  simp only [go_sem]
  refine seg_runN tabOK 7 (by simp only [go_sem]; exact rfl) (by simp only [go_sem]; exact rfl) (by simp only [go_sem]; try exact rfl) (by simp [go_sem]) (by simp only [go_sem]; exact rfl) ?_
  refine seg_name 27 (by simp only [go_sem]; exact rfl) (fun c27 h27 => ?_)
  simp only [go_sem]
  refine seg_run tabOK (by simp only [go_sem]; try exact rfl) (by simp [go_sem]) (by simp only [go_sem]; exact rfl) ?_
  refine seg_end (by kernel_rfl) (by simp only [go_sem]; exact rfl) ?_
  refine draw_close (by kernel_rfl) ?_
  try simp only [go_sem, List.getElem_toArray, List.getElem_cons_succ, List.getElem_cons_zero]
  refine cw_goR 99 (by simp only [go_sem]; try exact rfl) ?_
  refine cw_name 38 (by simp only [go_sem]; exact rfl) (fun c38 h38 => ?_)
  simp only [go_sem]
  have hst : (((a.kind ≠ 3 ∧ a.kind ≠ 4) ∨ r.version < 0) ∨ getB j.ours a.fid = true) ↔ c38 = true := by
    subst h38 h27 h20
    simp [cond_and, cond_or]
  clear h38 h27 h20
  cases c38 with
  | true =>
    rw [if_pos (hst.2 rfl)]
    refine cw_condT (by simp only [go_sem]; try exact rfl) trivial (rfl) ?_
    refine cw_go tabOK 99 (by simp only [go_sem]; try exact rfl) (by simp [go_sem]) ?_
    refine cw_ret ⟨_, _, by simp only [go_sem]; try exact rfl, by simp [go_sem], _, .inr (.inl rfl), ?_, ?_⟩
    · rfl
    · skip
      simp only [pins, List.cons_append, List.nil_append, List.map_cons, List.map_nil]
      repeat' refine holds_cons ?_ ?_
      all_goals first | exact holds_nil _ | rfl | simp [go_sem]
  | false =>
    rw [if_neg (fun h => nomatch hst.1 h)]
    refine cw_condF (by simp only [go_sem]; try exact rfl) trivial (rfl) ?_
    refine cw_go tabOK 99 (by simp only [go_sem]; try exact rfl) (by simp [go_sem]) ?_
    refine cw_draw mixed ?_
    refine seg_start rfl ?_
    refine seg_runN tabOK 8 (by simp only [go_sem]; exact rfl) (by simp only [go_sem]; exact rfl) (by simp only [go_sem]; try exact rfl) (by simp [go_sem]) (by simp only [go_sem]; exact rfl) ?_
    refine seg_call rfl rfl (by simp only [go_sem]; try exact rfl) (by simp [go_sem]) ⟨_, Go.Proofs.Try.func33, by kernel_rfl, rfl⟩ (by simp [go_sem]) (hf) (by simp [go_sem]) (by simp only [go_sem]; exact rfl) (by simp only [go_sem]; exact rfl) ?_
    simp only [go_sem, findR]
    rw [isAt_eq]
    cases findN j.l a.fid with
    | none =>
      simp only [Option.getD_none, Option.isSome_none]
      refine seg_run tabOK (by simp only [go_sem]; try exact rfl) (by simp [go_sem]) (by simp only [go_sem]; exact rfl) ?_
      refine seg_new tabOK rfl (by simp only [go_sem]; try exact rfl) (by simp only [go_sem]; try exact rfl) (by simp [go_sem]) (by simp only [go_sem]; try exact rfl) (by simp only [go_sem]; exact rfl) (by simp only [go_sem]; exact rfl) ?_
      simp only [go_sem, nodeRow, zeroN]
      refine seg_store tabOK rfl rfl (by simp only [go_sem]; try exact rfl) (by simp only [go_sem]; try exact rfl) (by simp only [go_sem]; try exact rfl) (by first | trivial | simp [go_sem]) (by simp only [go_sem]; exact rfl) (by simp [go_sem]) (by simp only [go_sem]; exact rfl) (by simp only [go_sem]; exact rfl) (by simp only [go_sem]; exact rfl) ?_
      refine seg_end (by kernel_rfl) (by simp only [go_sem]; exact rfl) ?_
      refine draw_step tabOK rfl (by kernel_rfl) rfl (by simp only [go_sem]; try exact rfl) (by simp [go_sem]) rfl ?_
      refine draw_close (by kernel_rfl) ?_
      try simp only [go_sem, List.getElem_toArray, List.getElem_cons_succ, List.getElem_cons_zero]
      refine cw_go tabOK 99 (by simp only [go_sem]; try exact rfl) (by simp [go_sem]) ?_
      refine cw_draw mixed ?_
      refine seg_start rfl ?_
      refine seg_run tabOK (by simp only [go_sem]; try exact rfl) (by simp [go_sem]) (by simp only [go_sem]; exact rfl) ?_
      refine seg_end (by kernel_rfl) (by simp only [go_sem]; exact rfl) ?_
      refine draw_close (by kernel_rfl) ?_
      try simp only [go_sem, List.getElem_toArray, List.getElem_cons_succ, List.getElem_cons_zero]
      refine cw_go tabOK 99 (by simp only [go_sem]; try exact rfl) (by simp [go_sem]) ?_
      refine cw_ret ⟨_, _, by simp only [go_sem]; try exact rfl, by simp [go_sem], _, .inr (.inl rfl), ?_, ?_⟩
      · rfl
      · skip
        simp only [pins, List.cons_append, List.nil_append, List.map_cons, List.map_nil]
        repeat' refine holds_cons ?_ ?_
        all_goals first | exact holds_nil _ | rfl | simp [go_sem]
    | some n =>
      simp only [Option.getD_some, Option.isSome_some]
      refine seg_run tabOK (by simp only [go_sem]; try exact rfl) (by simp [go_sem]) (by simp only [go_sem]; exact rfl) ?_
      refine seg_new tabOK rfl (by simp only [go_sem]; try exact rfl) (by simp only [go_sem]; try exact rfl) (by simp [go_sem]) (by simp only [go_sem]; try exact rfl) (by simp only [go_sem]; exact rfl) (by simp only [go_sem]; exact rfl) ?_
      simp only [go_sem, nodeRow]
      refine seg_store tabOK rfl rfl (by simp only [go_sem]; try exact rfl) (by simp only [go_sem]; try exact rfl) (by simp only [go_sem]; try exact rfl) (by first | trivial | simp [go_sem]) (by simp only [go_sem]; exact rfl) (by simp [go_sem]) (by simp only [go_sem]; exact rfl) (by simp only [go_sem]; exact rfl) (by simp only [go_sem]; exact rfl) ?_
      refine seg_end (by kernel_rfl) (by simp only [go_sem]; exact rfl) ?_
      refine draw_step tabOK rfl (by kernel_rfl) rfl (by simp only [go_sem]; try exact rfl) (by simp [go_sem]) rfl ?_
      refine draw_close (by kernel_rfl) ?_
      try simp only [go_sem, List.getElem_toArray, List.getElem_cons_succ, List.getElem_cons_zero]
      refine cw_go tabOK 99 (by simp only [go_sem]; try exact rfl) (by simp [go_sem]) ?_
      refine cw_draw mixed ?_
      refine seg_start rfl ?_
      refine seg_run tabOK (by simp only [go_sem]; try exact rfl) (by simp [go_sem]) (by simp only [go_sem]; exact rfl) ?_
      refine seg_end (by kernel_rfl) (by simp only [go_sem]; exact rfl) ?_
      refine draw_close (by kernel_rfl) ?_
      try simp only [go_sem, List.getElem_toArray, List.getElem_cons_succ, List.getElem_cons_zero]
      refine cw_go tabOK 99 (by simp only [go_sem]; try exact rfl) (by simp [go_sem]) ?_
      refine cw_ret ⟨_, _, by simp only [go_sem]; try exact rfl, by simp [go_sem], _, .inr (.inl rfl), ?_, ?_⟩
      · rfl
      · skip
        simp only [pins, List.cons_append, List.nil_append, List.map_cons, List.map_nil]
        repeat' refine holds_cons ?_ ?_
        all_goals first | exact holds_nil _ | rfl | simp [go_sem]
end La

namespace La
open Go Go.Eng Go.Proofs
set_option maxRecDepth 10000
set_option linter.unusedSimpArgs false
set_option linter.unusedVariables false

def loH (m : List (Int × Bool)) (G Y N : Nat → Nat) : List (Nat × Blk) := [(5, .cells 91 1 [[.mp 16]]), (16, .map (mB m))] ++ pins [5, 16] G Y N
theorem lo_ok (m : List (Int × Bool)) (f : Int) (G Y N : Nat → Nat) : FnOK Try.prog 118 [.int .i64 f, .ptr 5 1 0 0] (loH m G Y N) (fun r H => r = .bool (getB m f) ∧ Holds (loH m G Y N) H) := by
  unfold loH
  refine fn_of_cwW tabOK (Go.Proofs.Try.func118) rfl (fun C => ?_)
  simp only [Go.Proofs.Try.ntmps118, Go.Proofs.Try.results118, go_sem]
  refine cw_go tabOK 99 (by simp only [go_sem]; try exact rfl) (by simp [go_sem]) ?_
  refine cw_ret ⟨_, _, (by simp only [go_sem]; try exact rfl), by simp [go_sem], _, .inr (.inl rfl), ?_⟩
  exact ⟨rfl, fun i b hb => hb⟩
theorem loIdx_ok (m : List (Int × Bool)) (l : List Int) (hlen : l.length ≤ 100000000) (G Y N : Nat → Nat) : FnOK Try.prog 155 [.sl (l.map intRow), .fn 118 [.ptr 5 1 0 0]] (loH m G Y N)
    (fun r H => r = .int .i64 (idxI (l.findIdx? (getB m))) ∧ Holds (loH m G Y N) H) := by
  unfold loH
  refine fn_of_cwW tabOK (Go.Proofs.Try.func155) rfl (fun C => ?_)
  simp only [Go.Proofs.Try.ntmps155, Go.Proofs.Try.results155, go_sem]
  refine cw_go tabOK 99 (by simp only [go_sem]; try exact rfl) (by simp [go_sem]) ?_
  refine cw_loopS (fun i : Nat => i ≤ l.length ∧ ∀ x, x ∈ l.take i → getB m x = false) (fun i => l.length - i) (fun i => [(8, .int .i64 i), (5, .any), (9, .any), (10, .any), (11, .any), (12, .any), (13, .any), (14, .any), (15, .any), (16, .any), (17, .any), (18, .any)]) (fun _ => []) 0 ⟨by omega, by simp⟩ ?_ fun i hi => ?_
  · simp only [go_sem]
    exact le_sub (by simp [go_sem]) (by simp [go_sem]) (by simp [go_sem])
  obtain ⟨hi, hno⟩ := hi
  simp only [go_sem]
  refine cw_go tabOK 99 (by simp only [go_sem]; try exact rfl) (by simp [go_sem]) ?_
  refine cw_cond (by simp only [go_sem]; try exact rfl) trivial (fun h => ?_) (fun h => ?_)
  · have hlt : i < l.length := by simp at h; omega
    have hg : (l.map intRow).getD i [] = intRow (l.getD i default) := Fam.getD hlt
    have htk := take_succ_getD hlt
    have hgi : l[i]? = some (l.getD i default) := by rw [List.getD_eq_getElem?_getD, List.getElem?_eq_getElem hlt]; rfl
    have hc := lo_ok m (l.getD i default)
    unfold loH at hc
    generalize l.getD i default = n at hg htk hgi hc
    refine cw_go tabOK 99 (by simp only [go_sem, hg, intRow]; try exact rfl) ?_ ?_
    · simp [hlt, intRow]
    refine cw_step rfl (trip_callP rfl (by simp only [go_sem]; try exact rfl) (by simp [go_sem]) ⟨_, Go.Proofs.Try.func118, by kernel_rfl, rfl⟩ [5, 16] (by simp only [go_sem, Bool.false_or, Bool.or_true, Bool.true_or, Bool.or_false, ↓reduceIte]; try exact rfl) (by simp [go_sem]) (by simp) (by simp [go_sem]) (by simp [go_sem]) (by simp [go_sem]) (hc) (by simp only [go_sem, Bool.false_or, Bool.or_true, Bool.true_or, Bool.or_false, ↓reduceIte]; exact rfl)) ?_
    refine cw_go tabOK 99 (by simp only [go_sem]; try exact rfl) (by simp [go_sem]) ?_
    refine cw_cond (by simp only [go_sem]; try exact rfl) trivial (fun h => ?_) (fun h => ?_)
    · refine cw_go tabOK 99 (by simp only [go_sem]; try exact rfl) (by simp [go_sem]) ?_
      refine cw_ret ⟨_, _, by simp only [go_sem]; try exact rfl, by simp [go_sem], _, .inr (.inl rfl), ?_, ?_⟩
      · rw [findIdx_at hgi hno h]; rfl
      · skip
        simp only [pins, List.cons_append, List.nil_append, List.map_cons, List.map_nil]
        repeat' refine holds_cons ?_ ?_
        all_goals first | exact holds_nil _ | rfl | simp [go_sem]
    · have hw : IntKind.i64.wrap ((i : Int) + 1) = (i : Int) + 1 := wrap_small (by omega) (by omega)
      refine cw_go tabOK 99 (by simp only [go_sem, hw]; try exact rfl) (by simp [go_sem, hw]) ?_
      refine cw_back ⟨i + 1, ⟨by omega, ?_⟩, by omega, le_sub ?_ ?_ ?_⟩
      · rw [htk]
        intro x hx
        rcases List.mem_append.1 hx with hx | hx
        · exact hno x hx
        · rw [List.mem_singleton.1 hx]; exact h
      · simp [go_sem]
      · simp [go_sem]
      · simp [go_sem]
  · have e : i = l.length := by simp at h; omega
    refine cw_go tabOK 99 (by simp only [go_sem]; try exact rfl) (by simp [go_sem]) ?_
    refine cw_ret ⟨_, _, by simp only [go_sem]; try exact rfl, by simp [go_sem], _, .inr (.inl rfl), ?_, ?_⟩
    · rw [e, List.take_length] at hno
      rw [List.findIdx?_eq_none_iff.2 hno]; rfl
    · skip
      simp only [pins, List.cons_append, List.nil_append, List.map_cons, List.map_nil]
      repeat' refine holds_cons ?_ ?_
      all_goals first | exact holds_nil _ | rfl | simp [go_sem]
theorem loAny_ok (m : List (Int × Bool)) (l : List Int) (hlen : l.length ≤ 100000000) (G Y N : Nat → Nat) : FnOK Try.prog 117 [.sl (l.map intRow), .fn 118 [.ptr 5 1 0 0]] (loH m G Y N)
    (fun r H => r = .bool (l.any (getB m)) ∧ Holds (loH m G Y N) H) := by
  have hc := loIdx_ok m l hlen
  unfold loH at hc ⊢
  refine fn_of_cwW tabOK (Go.Proofs.Try.func117) rfl (fun C => ?_)
  simp only [Go.Proofs.Try.ntmps117, Go.Proofs.Try.results117, go_sem]
  refine cw_go tabOK 99 (by simp only [go_sem]; try exact rfl) (by simp [go_sem]) ?_
  refine cw_step rfl (trip_callP rfl (by simp only [go_sem]; try exact rfl) (by simp [go_sem]) ⟨_, Go.Proofs.Try.func155, by kernel_rfl, rfl⟩ [5, 16] (by simp only [go_sem, Bool.false_or, Bool.or_true, Bool.true_or, Bool.or_false, ↓reduceIte]; try exact rfl) (by simp [go_sem]) (by simp) (by simp [go_sem]) (by simp [go_sem]) (by simp [go_sem]) (hc) (by simp only [go_sem, Bool.false_or, Bool.or_true, Bool.true_or, Bool.or_false, ↓reduceIte]; exact rfl)) ?_
  refine cw_go tabOK 99 (by simp only [go_sem]; try exact rfl) (by simp [go_sem]) ?_
  refine cw_ret ⟨_, _, by simp only [go_sem]; try exact rfl, by simp [go_sem], _, .inr (.inl rfl), ?_, ?_⟩
  · rw [idxI_any]
  · skip
    simp only [pins, List.cons_append, List.nil_append, List.map_cons, List.map_nil]
    repeat' refine holds_cons ?_ ?_
    all_goals first | exact holds_nil _ | rfl | simp [go_sem]

theorem mB_begin (k : Int) : mput ([] : List (Int × AV)) k (.bool true) = mB (mput [] k true) := rfl
set_option maxHeartbeats 2000000 in
theorem rests_held (l : List Rec) (k : Nat) (hk : k < l.length) (hlen : l.length ≤ 80000000) : FnOK Try.prog 58 [.sl (l.map recRow), .int .i64 k] []
    (fun r H => r = .osl 50 1 0 (restTo l k l.length).length ∧ ∀ i b, hget [(50, .cells 3 1 ((restTo l k l.length).map intRow))] i = some b → hget H i = some b) := by
  have hgk : (l.map recRow).getD k [] = recRow (l.getD k default) := Fam.getD hk
  have hst := lostAt_start l k
  have hlow := restTo_low l k (k + 1) (Nat.le_refl _)
  have hlk : k < 100000000 := by omega
  have hwk : IntKind.i64.wrap ((k : Int) + 1) = ((k + 1 : Nat) : Int) := by rw [Eng.wrap_small (by omega) (by omega)]; rfl
  generalize l.getD k default = rk at *
  refine fn_of_cwW tabOK (Go.Proofs.Try.func58) rfl (fun C => ?_)
  simp only [Go.Proofs.Try.ntmps58, Go.Proofs.Try.results58, go_sem]
  refine cw_goR 99 (by simp only [go_sem]; try exact rfl) ?_
  refine cw_runN tabOK 1 (by simp only [go_sem]; exact rfl) (by simp only [go_sem]; exact rfl) (by simp only [go_sem]; try exact rfl) (by simp [go_sem]) ?_
  refine cw_goR 99 (by simp only [go_sem]; try exact rfl) ?_
  refine cw_runN tabOK 8 (by simp only [go_sem]; exact rfl) (by simp only [go_sem]; exact rfl) (by simp only [go_sem]; try exact rfl) (by simp [go_sem]) ?_
  refine cw_name 15 (by simp only [go_sem]; exact rfl) (fun c15 h15 => ?_)
  simp only [go_sem]
  have hc : c15 = false := by
    subst h15
    simp; omega
  refine cw_condF (by simp only [go_sem]; try exact rfl) trivial (hc) ?_
  refine cw_go tabOK 99 (by simp only [go_sem, hgk, recRow, hwk]; try exact rfl) ?_ ?_
  · simp [hgk, recRow, hk, AV.deepB, AV.pureB]
  refine cw_le (le_empty 50 3 1 (by simp only [go_sem]; try exact rfl)) ?_
  simp only [go_sem]
  refine cw_loopS (fun i : Nat => k + 1 ≤ i ∧ i ≤ l.length) (fun i => l.length - i) (fun i => [(6, .osl 50 1 0 (restTo l k i).length), (7, .int .i64 i), (26, .any), (27, .any), (28, .any), (29, .any), (30, .any), (31, .any), (32, .any), (33, .any), (34, .any), (35, .any), (36, .any), (37, .any), (38, .any), (39, .any), (40, .any), (41, .any), (42, .any), (43, .any), (44, .any), (45, .any), (46, .any), (47, .any), (48, .any), (49, .any), (50, .any)]) (fun i => [(16, .map (mB (lostAt l k i))), (50, .cells 3 1 ((restTo l k i).map intRow))]) (k + 1) ⟨by omega, by omega⟩ ?_ fun i hi => ?_
  · rw [hlow, hst]
    simp only [go_sem]
    exact le_sub (by simp [go_sem]) (by simp [go_sem, mB_begin]) (by simp [go_sem])
  obtain ⟨hki, hi⟩ := hi
  refine cw_go tabOK 99 (by simp only [go_sem]; try exact rfl) (by simp [go_sem]) ?_
  refine cw_cond (by simp only [go_sem]; try exact rfl) trivial (fun h => ?_) (fun h => ?_)
  · have hlt : i < l.length := by simp at h; omega
    have hg : (l.map recRow).getD i [] = recRow (l.getD i default) := Fam.getD hlt
    have hwi : IntKind.i64.wrap ((i : Int) + 1) = ((i + 1 : Nat) : Int) := by rw [Eng.wrap_small (by omega) (by omega)]; rfl
    have hgo := goneB_high (l := l) (show k < i by omega)
    have hls := lostAt_succ l k i
    have hrs := restTo_succ l k i
    have hlc := left_count l k i
    rw [show decide (k < i) = true from decide_eq_true (by omega), Bool.true_and] at hrs
    generalize l.getD i default = r at *
    have hfi := fids_ok r.act
    have hf3 := fids_len r.act
    have hany := loAny_ok (lostAt l k i) (fids r.act) (by omega)
    rw [← hgo] at hany
    unfold loH at hany
    unfold actRow at hfi
    refine cw_go tabOK 99 (by simp only [go_sem, hg, recRow]; try exact rfl) ?_ ?_
    · simp [hg, recRow, hlt]
    refine cw_call rfl rfl (by simp only [go_sem]; try exact rfl) (by simp [go_sem]) ⟨_, Go.Proofs.Try.func99, by kernel_rfl, rfl⟩ (by simp [go_sem]) (hfi) (by simp [go_sem]) (by simp only [go_sem]; exact rfl) ?_
    refine cw_go tabOK 99 (by simp only [go_sem]; try exact rfl) (by simp [go_sem]) ?_
    refine cw_step rfl (trip_callP rfl (by simp only [go_sem]; try exact rfl) (by simp [go_sem]) ⟨_, Go.Proofs.Try.func117, by kernel_rfl, rfl⟩ [5, 16] (by simp only [go_sem, Bool.false_or, Bool.or_true, Bool.true_or, Bool.or_false, ↓reduceIte]; try exact rfl) (by simp [go_sem]) (by simp) (by simp [go_sem]) (by simp [go_sem]) (by simp [go_sem]) (hany) (by simp only [go_sem, Bool.false_or, Bool.or_true, Bool.true_or, Bool.or_false, ↓reduceIte]; exact rfl)) ?_
    refine cw_go tabOK 99 (by simp only [go_sem]; try exact rfl) (by simp [go_sem]) ?_
    cases hb : goneB l k i with
    | true =>
      rw [hb, if_pos rfl] at hls hrs
      refine cw_condT (by simp only [go_sem]; try exact rfl) trivial (by simp) ?_
      refine cw_go tabOK 99 (by simp only [go_sem]; try exact rfl) (by simp [go_sem]) ?_
      refine cw_draw mixed ?_
      refine seg_start rfl ?_
      refine seg_runN tabOK 7 (by simp only [go_sem]; exact rfl) (by simp only [go_sem]; exact rfl) (by simp only [go_sem, hg, recRow]; try exact rfl) ?_ (by simp only [go_sem]; exact rfl) ?_
      · simp [hg, recRow, hlt]
      refine seg_end (by kernel_rfl) (by simp only [go_sem]; exact rfl) ?_
      refine draw_step tabOK rfl (by kernel_rfl) rfl (by simp only [go_sem]; try exact rfl) (by simp [go_sem]) rfl ?_
      refine draw_close (by kernel_rfl) ?_
      try simp only [go_sem, List.getElem_toArray, List.getElem_cons_succ, List.getElem_cons_zero]
      refine cw_go tabOK 99 (by simp only [go_sem, hwi]; try exact rfl) ?_ ?_
      · simp [rowsOf]; omega
      refine cw_back ⟨i + 1, by omega, by omega, le_sub ?_ ?_ ?_⟩
      · simp [go_sem, hrs]
      · simp [go_sem, hls, hrs, intRow]
      · simp [go_sem]
    | false =>
      rw [hb, if_neg Bool.false_ne_true] at hls hrs
      refine cw_condF (by simp only [go_sem]; try exact rfl) trivial (by simp) ?_
      refine cw_go tabOK 99 (by simp only [go_sem, hwi]; try exact rfl) (by simp [go_sem, hwi]) ?_
      refine cw_back ⟨i + 1, by omega, by omega, le_sub ?_ ?_ ?_⟩
      · simp [go_sem, hrs]
      · simp [go_sem, hls, hrs]
      · simp [go_sem]
  · have e : i = l.length := by simp at h; omega
    subst e
    refine cw_go tabOK 99 (by simp only [go_sem]; try exact rfl) (by simp [go_sem]) ?_
    refine cw_ret ⟨_, _, (by simp only [go_sem]; try exact rfl), by simp [go_sem], _, .inr (.inl rfl), ?_⟩
    simp [go_sem]

theorem rests_read (l : List Rec) (k : Nat) (hk : k < l.length) (hlen : l.length ≤ 80000000) : FnOK Try.prog 58 [.sl (l.map recRow), .int .i64 k] [] (fun r _ => r = .sl ((restTo l k l.length).map intRow)) := by
  have h := rests_held l k hk hlen
  have e : (restTo l k l.length).length = ((restTo l k l.length).map intRow).length := by simp
  rw [e] at h
  exact FnOK.read h (intRow_pure _)

def outK (l : List Rec) (k : Int) : Prop := k < 0 ∨ k ≥ l.length
theorem drop_out (l : List Rec) (k : Int) (ho : outK l k) (hlen : l.length ≤ 80000000) : FnOK Try.prog 57 [.sl (l.map recRow), .int .i64 k] [] (fun r _ => r = .tup [.nils, .int .i64 6]) := by
  unfold outK at ho
  refine fn_of_cwW tabOK (Go.Proofs.Try.func57) rfl (fun C => ?_)
  simp only [Go.Proofs.Try.ntmps57, Go.Proofs.Try.results57, go_sem]
  refine cw_goR 99 (by simp only [go_sem]; try exact rfl) ?_
  refine cw_runN tabOK 2 (by simp only [go_sem]; exact rfl) (by simp only [go_sem]; exact rfl) (by simp only [go_sem]; try exact rfl) (by simp [go_sem]) ?_
  refine cw_goR 99 (by simp only [go_sem]; try exact rfl) ?_
  refine cw_runN tabOK 8 (by simp only [go_sem]; exact rfl) (by simp only [go_sem]; exact rfl) (by simp only [go_sem]; try exact rfl) (by simp [go_sem]) ?_
  refine cw_name 17 (by simp only [go_sem]; exact rfl) (fun c17 h17 => ?_)
  simp only [go_sem]
  have hc : c17 = true := by
    subst h17
    rcases ho with h | h
    · simp [h]
    · by_cases h2 : k < 0
      · simp [h2]
      · simp [h]
  refine cw_condT (by simp only [go_sem]; try exact rfl) trivial (hc) ?_
  refine cw_go tabOK 99 (by simp only [go_sem]; try exact rfl) (by simp [go_sem]) ?_
  refine cw_ret ⟨_, _, (by simp only [go_sem]; try exact rfl), by simp [go_sem], _, .inr (.inl rfl), ?_⟩
  rfl
set_option maxHeartbeats 2000000 in
theorem drop_raw (l : List Rec) (k : Nat) (hk : k < l.length) (hl : SmallL l) (hlen : l.length ≤ 80000000) : FnOK Try.prog 57 [.sl (l.map recRow), .int .i64 k] []
    (fun r _ => r = .tup [.sl ((leftTo l k l.length).map recRow), .int .i64 0]) := by
  have hre := rests_held l k hk hlen
  have how := logs_own l hl
  have hcl := left_count l k l.length
  have hgl : (goneL l k).length ≤ 100000000 := by unfold goneL; simp; omega
  have hgr : (goneL l k).map intRow = (restTo l k l.length).map intRow ++ [[.int .i64 (k : Int)]] := by unfold goneL; rw [List.map_append]; rfl
  have hgln : (goneL l k).length = (restTo l k l.length).length + 1 := by unfold goneL; simp
  have hlk : k < 100000000 := by omega
  refine fn_of_cwW tabOK (Go.Proofs.Try.func57) rfl (fun C => ?_)
  simp only [Go.Proofs.Try.ntmps57, Go.Proofs.Try.results57, go_sem]
  refine cw_goR 99 (by simp only [go_sem]; try exact rfl) ?_
  refine cw_runN tabOK 2 (by simp only [go_sem]; exact rfl) (by simp only [go_sem]; exact rfl) (by simp only [go_sem]; try exact rfl) (by simp [go_sem]) ?_
  refine cw_goR 99 (by simp only [go_sem]; try exact rfl) ?_
  refine cw_runN tabOK 8 (by simp only [go_sem]; exact rfl) (by simp only [go_sem]; exact rfl) (by simp only [go_sem]; try exact rfl) (by simp [go_sem]) ?_
  refine cw_name 17 (by simp only [go_sem]; exact rfl) (fun c17 h17 => ?_)
  simp only [go_sem]
  have hc : c17 = false := by
    subst h17
    simp; omega
  refine cw_condF (by simp only [go_sem]; try exact rfl) trivial (hc) ?_
  refine cw_go tabOK 99 (by simp only [go_sem]; try exact rfl) (by simp [go_sem]) ?_
  refine cw_callG [] 1000 rfl rfl (by simp only [go_sem]; try exact rfl) (by simp [go_sem]) ⟨_, Go.Proofs.Try.func58, by kernel_rfl, rfl⟩ (by simp only [go_sem, Bool.false_or, Bool.or_true, Bool.true_or, if_true]; try exact rfl) (hre) (by simp [go_sem]) (by simp [go_sem]) (by simp [go_sem]) (by simp only [go_sem]) (by simp [go_sem]) (by simp only [go_sem, Bool.false_or, Bool.or_true, Bool.true_or, Bool.or_false, ↓reduceIte]; exact rfl) ?_
  refine cw_go tabOK 99 (by simp only [go_sem]; try exact rfl) ?_ ?_
  · simp [rowsOf]; omega
  rw [← hgr, ← hgln]
  refine cw_freeze 23 rfl (intRow_pure _) ?_
  simp only [go_sem]
  refine cw_call rfl rfl (by simp only [go_sem]; try exact rfl) (by simp [go_sem]) ⟨_, Go.Proofs.Try.func19, by kernel_rfl, rfl⟩ (by simp [go_sem]) (how) (by simp [go_sem]) (by simp only [go_sem]; exact rfl) ?_
  refine cw_go tabOK 99 (by simp only [go_sem]; try exact rfl) (by simp [go_sem]) ?_
  refine cw_le (le_empty 39 27 9 (by simp only [go_sem]; try exact rfl)) ?_
  simp only [go_sem]
  refine cw_loopS (fun i : Nat => i ≤ l.length) (fun i => l.length - i) (fun i => [(7, .osl 39 9 0 (leftTo l k i).length), (8, .any), (9, .any), (27, .int .i64 i), (28, .any), (29, .any), (30, .any), (31, .any), (32, .any), (33, .any), (34, .any), (35, .any), (36, .any), (37, .any), (38, .any), (39, .any), (40, .any)]) (fun i => [(39, .cells 27 9 ((leftTo l k i).map recRow))]) 0 (by omega) ?_ fun i hi => ?_
  · simp only [go_sem]
    exact le_sub (by simp [go_sem, leftTo]) (by simp [go_sem, leftTo]) (by simp [go_sem])
  simp only [go_sem]
  refine cw_go tabOK 99 (by simp only [go_sem]; try exact rfl) (by simp [go_sem]) ?_
  refine cw_cond (by simp only [go_sem]; try exact rfl) trivial (fun h => ?_) (fun h => ?_)
  · have hlt : i < l.length := by simp at h; omega
    have hg : (l.map recRow).getD i [] = recRow (l.getD i default) := Fam.getD hlt
    have hwi : IntKind.i64.wrap ((i : Int) + 1) = ((i + 1 : Nat) : Int) := by rw [Eng.wrap_small (by omega) (by omega)]; rfl
    have hls := leftTo_succ l k i
    have hlc := left_count l k i
    have hcn := contains_ok (goneL l k) hgl (i : Int)
    rw [goneL_has hlt] at hcn
    generalize l.getD i default = r at *
    refine cw_go tabOK 99 (by simp only [go_sem, hg, recRow]; try exact rfl) ?_ ?_
    · simp [hg, recRow, hlt]
    refine cw_call rfl rfl (by simp only [go_sem]; try exact rfl) (by simp [go_sem]) ⟨_, Go.Proofs.Try.func116, by kernel_rfl, rfl⟩ (by simp [go_sem]) (hcn) (by simp [go_sem]) (by simp only [go_sem]; exact rfl) ?_
    refine cw_go tabOK 99 (by simp only [go_sem]; try exact rfl) (by simp [go_sem]) ?_
    cases hb : goneB l k i with
    | true =>
      rw [hb, if_pos rfl] at hls
      refine cw_condF (by simp only [go_sem]; try exact rfl) trivial (by simp) ?_
      refine cw_go tabOK 99 (by simp only [go_sem, hwi]; try exact rfl) (by simp [go_sem, hwi]) ?_
      refine cw_back ⟨i + 1, by omega, by omega, le_sub ?_ ?_ ?_⟩
      · simp [go_sem, hls]
      · simp [go_sem, hls]
      · simp [go_sem]
    | false =>
      rw [hb, if_neg Bool.false_ne_true] at hls
      refine cw_condT (by simp only [go_sem]; try exact rfl) trivial (by simp) ?_
      refine cw_go tabOK 99 (by simp only [go_sem, hwi]; try exact rfl) ?_ ?_
      · simp [rowsOf]; omega
      refine cw_back ⟨i + 1, by omega, by omega, le_sub ?_ ?_ ?_⟩
      · simp [go_sem, hls]
      · simp [go_sem, hls, recRow]
      · simp [go_sem]
  · have e : i = l.length := by simp at h; omega
    subst e
    refine cw_go tabOK 99 (by simp only [go_sem]; try exact rfl) (by simp [go_sem]) ?_
    refine cw_freeze 39 rfl (recRow_pure _) ?_
    simp only [go_sem]
    refine cw_ret ⟨_, _, (by simp only [go_sem]; try exact rfl), by simp [go_sem], _, .inr (.inl rfl), ?_⟩
    simp
end La

namespace La
open Go Go.Eng Go.Proofs
set_option maxRecDepth 10000
set_option linter.unusedSimpArgs false
set_option linter.unusedVariables false

theorem one_rests {j : JS} {r : Rec} (h : restsB j r.act = true) : oneV j r = ⟨14, 0⟩ ∧ oneA j r = r.act ∧ oneJ j r = j := by
  simp [oneV, oneA, oneJ, oneE, h]
theorem one_form {j : JS} {r : Rec} (h : restsB j r.act = false) (h1 : madeB r.act = true) (h2 : hasI j.own r.act.fid = true ∨ r.act.fid ≥ 0) : oneV j r = ⟨2, 0⟩ ∧ oneA j r = r.act ∧ oneJ j r = j := by
  simp [oneV, oneA, oneJ, oneE, h, h1, h2]
theorem one_stale {j : JS} {r : Rec} (h : restsB j r.act = false) (h1 : ¬ (madeB r.act = true ∧ (hasI j.own r.act.fid = true ∨ r.act.fid ≥ 0))) (h2 : staleB { j with own := own1 j r } r (actJ j r) = true) :
    oneV j r = ⟨13, 0⟩ ∧ oneA j r = actJ j r ∧ oneJ j r = { j with own := own1 j r } := by
  simp [oneV, oneA, oneJ, oneE, h, h1, h2]
theorem one_err {j : JS} {r : Rec} (h : restsB j r.act = false) (h1 : ¬ (madeB r.act = true ∧ (hasI j.own r.act.fid = true ∨ r.act.fid ≥ 0))) (h2 : staleB { j with own := own1 j r } r (actJ j r) = false) (h3 : applyE j.l (actJ j r) ≠ 0) :
    oneV j r = ⟨applyE j.l (actJ j r), 0⟩ ∧ oneA j r = actJ j r ∧ oneJ j r = { j with own := if madeB r.act = true then mdel (own1 j r) r.act.fid else own1 j r } := by
  simp [oneV, oneA, oneJ, oneE, h, h1, h2, h3]
theorem one_done {j : JS} {r : Rec} (h : restsB j r.act = false) (h1 : ¬ (madeB r.act = true ∧ (hasI j.own r.act.fid = true ∨ r.act.fid ≥ 0))) (h2 : staleB { j with own := own1 j r } r (actJ j r) = false) (h3 : applyE j.l (actJ j r) = 0) :
    oneV j r = ⟨0, (actJ j r).fid⟩ ∧ oneA j r = actJ j r ∧ oneJ j r = { j with l := applyL j.l (actJ j r) j.version, next := if madeB r.act = true then j.next + 1 else j.next, version := j.version + 1, own := own1 j r } := by
  simp [oneV, oneA, oneJ, oneE, h, h1, h2, h3]

set_option maxHeartbeats 2000000 in
theorem one_ok (j : JS) (r : Rec) (hg : Good j.l) (hr : ActFit r.act) (hn : j.next.natAbs ≤ 90000000) (hv : j.version.natAbs ≤ 90000000) (G Y N : Nat → Nat) : FnOK Try.prog 156 [.ptr 29 6 0 0, .rp (recRow r) 0] (jH j G Y N)
    (fun x H => x = .tup [.agg (verdictRow (oneV j r)), .agg (actRow (oneA j r))] ∧ Holds (jH (oneJ j r) G Y N) H) := by
  have how := acts_own r.act hr.data
  have hre := rests_ok j r.act
  have q0 := @one_rests j r
  have q1 := @one_form j r
  have q2 := @one_stale j r
  have q3 := @one_err j r
  have q4 := @one_done j r
  have hfid : ∀ f (G Y N : Nat → Nat), FnOK Try.prog 172 [.ptr 29 6 0 0, .int .i64 f] (jH { j with own := own1 j r } G Y N) (fun x H => x = .int .i64 (atF (own1 j r) f) ∧ Holds (jH { j with own := own1 j r } G Y N) H) := fun f => fid_ok { j with own := own1 j r } f
  unfold jH jB jRow at hfid
  simp only at hfid
  have hst := stale_ok { j with own := own1 j r } r (actJ j r) hg.small
  have hap := apply_good hg (actJ j r) j.version (actJ_fit hr)
  have hwn : IntKind.i64.wrap (j.next + 1) = j.next + 1 := Eng.wrap_small (by omega) (by omega)
  have hwv : IntKind.i64.wrap (j.version + 1) = j.version + 1 := Eng.wrap_small (by omega) (by omega)
  unfold jaH jB jRow at hst
  unfold applyR at hap
  generalize staleB { j with own := own1 j r } r (actJ j r) = st at *
  generalize applyE j.l (actJ j r) = E at *
  generalize applyL j.l (actJ j r) j.version = L at *
  simp only [actRow, actJ] at hst hap
  generalize oneV j r = V at *
  generalize oneA j r = A at *
  generalize oneJ j r = J at *
  unfold jaH jB jRow actRow at hre
  unfold actRow at how
  unfold jH jB jRow recRow
  refine fn_of_cwW tabOK (Go.Proofs.Try.func156) rfl (fun C => ?_)
  simp only [Go.Proofs.Try.ntmps156, Go.Proofs.Try.results156, go_sem]
  refine cw_go tabOK 99 (by simp only [go_sem]; try exact rfl) (by simp [go_sem]) ?_
  refine cw_call rfl rfl (by simp only [go_sem]; try exact rfl) (by simp [go_sem]) ⟨_, Go.Proofs.Try.func72, by kernel_rfl, rfl⟩ (by simp [go_sem]) (how) (by simp [go_sem]) (by simp only [go_sem]; exact rfl) ?_
  refine cw_go tabOK 99 (by simp only [go_sem]; try exact rfl) (by simp [go_sem]) ?_
  refine cw_step rfl (trip_callP rfl (by simp only [go_sem]; try exact rfl) (by simp [go_sem]) ⟨_, Go.Proofs.Try.func171, by kernel_rfl, rfl⟩ [29, 25, 26, 27, 6] (by simp only [go_sem, Bool.false_or, Bool.or_true, Bool.true_or, Bool.or_false, ↓reduceIte]; try exact rfl) (by simp [go_sem]) (by simp) (by simp [go_sem]) (by simp [go_sem]) (by simp [go_sem]) (hre) (by simp only [go_sem, Bool.false_or, Bool.or_true, Bool.true_or, Bool.or_false, ↓reduceIte]; exact rfl)) ?_
  cases h0 : restsB j r.act with
  | true =>
    obtain ⟨e1, e2, e3⟩ := q0 h0
    refine cw_go tabOK 99 (by simp only [go_sem]; try exact rfl) (by simp [go_sem]) ?_
    refine cw_condT (by simp only [go_sem]; try exact rfl) trivial (rfl) ?_
    refine cw_go tabOK 99 (by simp only [go_sem]; try exact rfl) (by simp [go_sem]) ?_
    refine cw_draw mixed ?_
    refine seg_start rfl ?_
    refine seg_build tabOK rfl (by simp only [go_sem]; try exact rfl) (by simp only [go_sem]; try exact rfl) (by simp [go_sem]) (by simp only [go_sem, cond_true, cond_false]; exact rfl) (by simp only [go_sem]; exact rfl) (by simp only [go_sem]; exact rfl) ?_
    refine seg_runN tabOK 1 (by simp only [go_sem]; exact rfl) (by simp only [go_sem]; exact rfl) (by simp only [go_sem]; try exact rfl) (by simp [go_sem]) (by simp only [go_sem]; exact rfl) ?_
    refine seg_store tabOK rfl rfl (by simp only [go_sem]; try exact rfl) (by simp only [go_sem]; try exact rfl) (by simp only [go_sem]; try exact rfl) (by first | trivial | simp [go_sem]) (by simp only [go_sem]; exact rfl) (by simp [go_sem]) (by simp only [go_sem]; exact rfl) (by simp only [go_sem]; exact rfl) (by simp only [go_sem]; exact rfl) ?_
    refine seg_store tabOK rfl rfl (by simp only [go_sem]; try exact rfl) (by simp only [go_sem]; try exact rfl) (by simp only [go_sem]; try exact rfl) (by first | trivial | simp [go_sem]) (by simp only [go_sem]; exact rfl) (by simp [go_sem]) (by simp only [go_sem]; exact rfl) (by simp only [go_sem]; exact rfl) (by simp only [go_sem]; exact rfl) ?_
    refine seg_end (by kernel_rfl) (by simp only [go_sem]; exact rfl) ?_
    refine draw_close (by kernel_rfl) ?_
    try simp only [go_sem, List.getElem_toArray, List.getElem_cons_succ, List.getElem_cons_zero]
    refine cw_go tabOK 99 (by simp only [go_sem]; try exact rfl) (by simp [go_sem]) ?_
    refine cw_ret ⟨_, _, by simp only [go_sem]; try exact rfl, by simp [go_sem], _, .inr (.inl rfl), ?_, ?_⟩
    · simp [verdictRow, actRow, e1, e2]
    · rw [e3]
      simp only [pins, List.cons_append, List.nil_append, List.map_cons, List.map_nil]
      repeat' refine holds_cons ?_ ?_
      all_goals first | exact holds_nil _ | rfl | simp [go_sem]
  | false =>
    clear q0
    refine cw_go tabOK 99 (by simp only [go_sem]; try exact rfl) (by simp [go_sem]) ?_
    refine cw_condF (by simp only [go_sem]; try exact rfl) trivial (rfl) ?_
    refine cw_goR 99 (by simp only [go_sem]; try exact rfl) ?_
    refine cw_runN tabOK 8 (by simp only [go_sem]; exact rfl) (by simp only [go_sem]; exact rfl) (by simp only [go_sem]; try exact rfl) (by simp [go_sem]) ?_
    refine cw_name 28 (by simp only [go_sem]; exact rfl) (fun c28 h28 => ?_)
    simp only [go_sem]
    have h28' : c28 = madeB r.act := by rw [← h28, cond_or]; rfl
    clear h28
    subst h28'
    refine cw_go tabOK 99 (by simp only [go_sem]; try exact rfl) (by simp [go_sem]) ?_
    cases h1 : madeB r.act with
    | true =>
      refine cw_condT (by simp only [go_sem]; try exact rfl) trivial (rfl) ?_
      refine cw_go tabOK 99 (by simp only [go_sem]; try exact rfl) (by simp [go_sem]) ?_
      refine cw_draw mixed ?_
      refine seg_start rfl ?_
      refine seg_run tabOK (by simp only [go_sem]; try exact rfl) (by simp [go_sem]) (by simp only [go_sem]; exact rfl) ?_
      refine seg_end (by kernel_rfl) (by simp only [go_sem]; exact rfl) ?_
      refine draw_close (by kernel_rfl) ?_
      try simp only [go_sem, List.getElem_toArray, List.getElem_cons_succ, List.getElem_cons_zero]
      refine cw_go tabOK 99 (by simp only [go_sem]; try exact rfl) (by simp [go_sem]) ?_
      cases h2 : (hasI j.own r.act.fid || decide (r.act.fid ≥ 0)) with
      | true =>
        obtain ⟨e1, e2, e3⟩ := q1 h0 h1 (by simpa using h2)
        refine cw_condT (by simp only [go_sem]; try exact rfl) trivial (by simpa [cond_or] using h2) ?_
        refine cw_go tabOK 99 (by simp only [go_sem]; try exact rfl) (by simp [go_sem]) ?_
        refine cw_draw mixed ?_
        refine seg_start rfl ?_
        refine seg_build tabOK rfl (by simp only [go_sem]; try exact rfl) (by simp only [go_sem]; try exact rfl) (by simp [go_sem]) (by simp only [go_sem, cond_true, cond_false]; exact rfl) (by simp only [go_sem]; exact rfl) (by simp only [go_sem]; exact rfl) ?_
        refine seg_runN tabOK 1 (by simp only [go_sem]; exact rfl) (by simp only [go_sem]; exact rfl) (by simp only [go_sem]; try exact rfl) (by simp [go_sem]) (by simp only [go_sem]; exact rfl) ?_
        refine seg_store tabOK rfl rfl (by simp only [go_sem]; try exact rfl) (by simp only [go_sem]; try exact rfl) (by simp only [go_sem]; try exact rfl) (by first | trivial | simp [go_sem]) (by simp only [go_sem]; exact rfl) (by simp [go_sem]) (by simp only [go_sem]; exact rfl) (by simp only [go_sem]; exact rfl) (by simp only [go_sem]; exact rfl) ?_
        refine seg_store tabOK rfl rfl (by simp only [go_sem]; try exact rfl) (by simp only [go_sem]; try exact rfl) (by simp only [go_sem]; try exact rfl) (by first | trivial | simp [go_sem]) (by simp only [go_sem]; exact rfl) (by simp [go_sem]) (by simp only [go_sem]; exact rfl) (by simp only [go_sem]; exact rfl) (by simp only [go_sem]; exact rfl) ?_
        refine seg_end (by kernel_rfl) (by simp only [go_sem]; exact rfl) ?_
        refine draw_close (by kernel_rfl) ?_
        try simp only [go_sem, List.getElem_toArray, List.getElem_cons_succ, List.getElem_cons_zero]
        refine cw_go tabOK 99 (by simp only [go_sem]; try exact rfl) (by simp [go_sem]) ?_
        refine cw_ret ⟨_, _, by simp only [go_sem]; try exact rfl, by simp [go_sem], _, .inr (.inl rfl), ?_, ?_⟩
        · simp [verdictRow, actRow, e1, e2]
        · rw [e3]
          simp only [pins, List.cons_append, List.nil_append, List.map_cons, List.map_nil]
          repeat' refine holds_cons ?_ ?_
          all_goals first | exact holds_nil _ | rfl | simp [go_sem]
      | false =>
        refine cw_condF (by simp only [go_sem]; try exact rfl) trivial (by simpa [cond_or] using h2) ?_
        refine cw_go tabOK 99 (by simp only [go_sem]; try exact rfl) (by simp [go_sem]) ?_
        refine cw_draw mixed ?_
        refine seg_start rfl ?_
        refine seg_runN tabOK 10 (by simp only [go_sem]; exact rfl) (by simp only [go_sem]; exact rfl) (by simp only [go_sem]; try exact rfl) (by simp [go_sem]) (by simp only [go_sem]; exact rfl) ?_
        refine seg_end (by kernel_rfl) (by simp only [go_sem]; exact rfl) ?_
        refine draw_step tabOK rfl (by kernel_rfl) rfl (by simp only [go_sem]; try exact rfl) (by simp [go_sem]) rfl ?_
        refine draw_close (by kernel_rfl) ?_
        try simp only [go_sem, List.getElem_toArray, List.getElem_cons_succ, List.getElem_cons_zero]
        refine cw_go tabOK 99 (by simp only [go_sem]; try exact rfl) (by simp [go_sem]) ?_
        have ho : own1 j r = mput j.own r.act.fid j.next := by unfold own1; rw [if_pos h1]
        rw [← ho]
        have hnf : ¬ (madeB r.act = true ∧ (hasI j.own r.act.fid = true ∨ r.act.fid ≥ 0)) := fun hh => by
          have := hh.2
          simp only [Bool.or_eq_false_iff, decide_eq_false_iff_not] at h2
          rcases this with h | h
          · rw [h2.1] at h; cases h
          · exact h2.2 h
        clear h2
        have hk5 : ¬ r.act.kind = 5 := fun e => by simp [madeB, e] at h1
        have hT : (if r.act.kind = 5 then atF (own1 j r) r.act.to else r.act.to) = r.act.to := if_neg hk5
        rw [hT] at hst hap
        -- the fids as they are here
        refine cw_draw mixed ?_
        refine seg_start rfl ?_
        refine seg_runN tabOK 3 (by simp only [go_sem]; exact rfl) (by simp only [go_sem]; exact rfl) (by simp only [go_sem]; try exact rfl) (by simp [go_sem]) (by simp only [go_sem]; exact rfl) ?_
        refine seg_callK rfl rfl (by simp only [go_sem]; try exact rfl) (by simp [go_sem]) ⟨_, Go.Proofs.Try.func172, by kernel_rfl, rfl⟩ [29, 25, 26, 27] (by simp only [go_sem, Bool.false_or, Bool.or_true, Bool.true_or, Bool.or_false, ↓reduceIte]; try exact rfl) (by simp [go_sem]) (by simp) (by simp [go_sem]) (by simp [go_sem]) (hfid r.act.fid) (by simp only [go_sem]; exact rfl) (by simp only [go_sem, Bool.false_or, Bool.or_true, Bool.true_or, Bool.or_false, ↓reduceIte]; exact rfl) ?_
        refine seg_runN tabOK 3 (by simp only [go_sem]; exact rfl) (by simp only [go_sem]; exact rfl) (by simp only [go_sem]; try exact rfl) (by simp [go_sem]) (by simp only [go_sem]; exact rfl) ?_
        refine seg_callK rfl rfl (by simp only [go_sem]; try exact rfl) (by simp [go_sem]) ⟨_, Go.Proofs.Try.func172, by kernel_rfl, rfl⟩ [29, 25, 26, 27] (by simp only [go_sem, Bool.false_or, Bool.or_true, Bool.true_or, Bool.or_false, ↓reduceIte]; try exact rfl) (by simp [go_sem]) (by simp) (by simp [go_sem]) (by simp [go_sem]) (hfid r.act.dir) (by simp only [go_sem]; exact rfl) (by simp only [go_sem, Bool.false_or, Bool.or_true, Bool.true_or, Bool.or_false, ↓reduceIte]; exact rfl) ?_
        refine seg_runN tabOK 1 (by simp only [go_sem]; exact rfl) (by simp only [go_sem]; exact rfl) (by simp only [go_sem]; try exact rfl) (by simp [go_sem]) (by simp only [go_sem]; exact rfl) ?_
        refine seg_store tabOK rfl rfl (by simp only [go_sem]; try exact rfl) (by simp only [go_sem]; try exact rfl) (by simp only [go_sem]; try exact rfl) (by first | trivial | simp [go_sem]) (by simp only [go_sem]; exact rfl) (by simp [go_sem]) (by simp only [go_sem]; exact rfl) (by simp only [go_sem]; exact rfl) (by simp only [go_sem]; exact rfl) ?_
        refine seg_runN tabOK 1 (by simp only [go_sem]; exact rfl) (by simp only [go_sem]; exact rfl) (by simp only [go_sem]; try exact rfl) (by simp [go_sem]) (by simp only [go_sem]; exact rfl) ?_
        refine seg_store tabOK rfl rfl (by simp only [go_sem]; try exact rfl) (by simp only [go_sem]; try exact rfl) (by simp only [go_sem]; try exact rfl) (by first | trivial | simp [go_sem]) (by simp only [go_sem]; exact rfl) (by simp [go_sem]) (by simp only [go_sem]; exact rfl) (by simp only [go_sem]; exact rfl) (by simp only [go_sem]; exact rfl) ?_
        refine seg_end (by kernel_rfl) (by simp only [go_sem]; exact rfl) ?_
        refine draw_close (by kernel_rfl) ?_
        try simp only [go_sem, List.getElem_toArray, List.getElem_cons_succ, List.getElem_cons_zero]
        refine cw_go tabOK 99 (by simp only [go_sem]; try exact rfl) (by simp [go_sem]) ?_
        refine cw_condF (by simp only [go_sem]; try exact rfl) trivial (by simp [hk5]) ?_
        refine cw_go tabOK 99 (by simp only [go_sem]; try exact rfl) (by simp [go_sem]) ?_
        refine cw_step rfl (trip_callP rfl (by simp only [go_sem]; try exact rfl) (by simp [go_sem]) ⟨_, Go.Proofs.Try.func173, by kernel_rfl, rfl⟩ [29, 25, 26, 27, 6] (by simp only [go_sem, Bool.false_or, Bool.or_true, Bool.true_or, Bool.or_false, ↓reduceIte]; try exact rfl) (by simp [go_sem]) (by simp) (by simp [go_sem]) (by simp [go_sem]) (by simp [go_sem]) (hst) (by simp only [go_sem, Bool.false_or, Bool.or_true, Bool.true_or, Bool.or_false, ↓reduceIte]; exact rfl)) ?_
        refine cw_go tabOK 99 (by simp only [go_sem]; try exact rfl) (by simp [go_sem]) ?_
        cases st with
        | true =>
          obtain ⟨e1, e2, e3⟩ := q2 h0 hnf rfl
          refine cw_condT (by simp only [go_sem]; try exact rfl) trivial (rfl) ?_
          refine cw_go tabOK 99 (by simp only [go_sem]; try exact rfl) (by simp [go_sem]) ?_
          refine cw_draw mixed ?_
          refine seg_start rfl ?_
          refine seg_build tabOK rfl (by simp only [go_sem]; try exact rfl) (by simp only [go_sem]; try exact rfl) (by simp [go_sem]) (by simp only [go_sem, cond_true, cond_false]; exact rfl) (by simp only [go_sem]; exact rfl) (by simp only [go_sem]; exact rfl) ?_
          refine seg_runN tabOK 1 (by simp only [go_sem]; exact rfl) (by simp only [go_sem]; exact rfl) (by simp only [go_sem]; try exact rfl) (by simp [go_sem]) (by simp only [go_sem]; exact rfl) ?_
          refine seg_store tabOK rfl rfl (by simp only [go_sem]; try exact rfl) (by simp only [go_sem]; try exact rfl) (by simp only [go_sem]; try exact rfl) (by first | trivial | simp [go_sem]) (by simp only [go_sem]; exact rfl) (by simp [go_sem]) (by simp only [go_sem]; exact rfl) (by simp only [go_sem]; exact rfl) (by simp only [go_sem]; exact rfl) ?_
          refine seg_store tabOK rfl rfl (by simp only [go_sem]; try exact rfl) (by simp only [go_sem]; try exact rfl) (by simp only [go_sem]; try exact rfl) (by first | trivial | simp [go_sem]) (by simp only [go_sem]; exact rfl) (by simp [go_sem]) (by simp only [go_sem]; exact rfl) (by simp only [go_sem]; exact rfl) (by simp only [go_sem]; exact rfl) ?_
          refine seg_end (by kernel_rfl) (by simp only [go_sem]; exact rfl) ?_
          refine draw_close (by kernel_rfl) ?_
          try simp only [go_sem, List.getElem_toArray, List.getElem_cons_succ, List.getElem_cons_zero]
          refine cw_go tabOK 99 (by simp only [go_sem]; try exact rfl) (by simp [go_sem]) ?_
          refine cw_ret ⟨_, _, by simp only [go_sem]; try exact rfl, by simp [go_sem], _, .inr (.inl rfl), ?_, ?_⟩
          · simp [verdictRow, actRow, e1, e2, actJ, hk5]
          · rw [e3]
            simp only [pins, List.cons_append, List.nil_append, List.map_cons, List.map_nil]
            repeat' refine holds_cons ?_ ?_
            all_goals first | exact holds_nil _ | rfl | simp [go_sem]
        | false =>
          refine cw_condF (by simp only [go_sem]; try exact rfl) trivial (rfl) ?_
          refine cw_go tabOK 99 (by simp only [go_sem]; try exact rfl) (by simp [go_sem]) ?_
          by_cases hE : E = 0
          · obtain ⟨e1, e2, e3⟩ := q4 h0 hnf rfl hE
            subst hE
            rw [h1] at e3
            simp only [if_true, Bool.false_eq_true, if_false] at hap e3
            refine cw_draw mixed ?_
            refine seg_start rfl ?_
            refine seg_runN tabOK 9 (by simp only [go_sem]; exact rfl) (by simp only [go_sem]; exact rfl) (by simp only [go_sem]; try exact rfl) (by simp [go_sem]) (by simp only [go_sem]; exact rfl) ?_
            refine seg_call rfl rfl (by simp only [go_sem]; try exact rfl) (by simp [go_sem]) ⟨_, Go.Proofs.Try.func40, by kernel_rfl, rfl⟩ (by simp [go_sem]) (hap) (by simp [go_sem]) (by simp only [go_sem]; exact rfl) (by simp only [go_sem]; exact rfl) ?_
            refine seg_run tabOK (by simp only [go_sem]; try exact rfl) (by simp [go_sem]) (by simp only [go_sem]; exact rfl) ?_
            refine seg_end (by kernel_rfl) (by simp only [go_sem]; exact rfl) ?_
            refine draw_close (by kernel_rfl) ?_
            try simp only [go_sem, List.getElem_toArray, List.getElem_cons_succ, List.getElem_cons_zero]
            refine cw_go tabOK 99 (by simp only [go_sem]; try exact rfl) (by simp [go_sem]) ?_
            refine cw_condF (by simp only [go_sem]; try exact rfl) trivial (by simp) ?_
            refine cw_go tabOK 99 (by simp only [go_sem, hwn, hwv]; try exact rfl) (by simp [go_sem, hwn, hwv]) ?_
            refine cw_condT (by simp only [go_sem]; try exact rfl) trivial (by simp) ?_
            refine cw_go tabOK 99 (by simp only [go_sem, hwn, hwv]; try exact rfl) (by simp [go_sem, hwn, hwv]) ?_
            refine cw_draw mixed ?_
            refine seg_start rfl ?_
            refine seg_runN tabOK 2 (by simp only [go_sem]; exact rfl) (by simp only [go_sem]; exact rfl) (by simp only [go_sem]; try exact rfl) (by simp [go_sem]) (by simp only [go_sem]; exact rfl) ?_
            refine seg_build tabOK rfl (by simp only [go_sem]; try exact rfl) (by simp only [go_sem]; try exact rfl) (by simp [go_sem]) (by simp only [go_sem, cond_true, cond_false]; exact rfl) (by simp only [go_sem]; exact rfl) (by simp only [go_sem]; exact rfl) ?_
            refine seg_runN tabOK 1 (by simp only [go_sem]; exact rfl) (by simp only [go_sem]; exact rfl) (by simp only [go_sem]; try exact rfl) (by simp [go_sem]) (by simp only [go_sem]; exact rfl) ?_
            refine seg_store tabOK rfl rfl (by simp only [go_sem]; try exact rfl) (by simp only [go_sem]; try exact rfl) (by simp only [go_sem]; try exact rfl) (by first | trivial | simp [go_sem]) (by simp only [go_sem]; exact rfl) (by simp [go_sem]) (by simp only [go_sem]; exact rfl) (by simp only [go_sem]; exact rfl) (by simp only [go_sem]; exact rfl) ?_
            refine seg_store tabOK rfl rfl (by simp only [go_sem]; try exact rfl) (by simp only [go_sem]; try exact rfl) (by simp only [go_sem]; try exact rfl) (by first | trivial | simp [go_sem]) (by simp only [go_sem]; exact rfl) (by simp [go_sem]) (by simp only [go_sem]; exact rfl) (by simp only [go_sem]; exact rfl) (by simp only [go_sem]; exact rfl) ?_
            refine seg_end (by kernel_rfl) (by simp only [go_sem]; exact rfl) ?_
            refine draw_close (by kernel_rfl) ?_
            try simp only [go_sem, List.getElem_toArray, List.getElem_cons_succ, List.getElem_cons_zero]
            refine cw_go tabOK 99 (by simp only [go_sem]; try exact rfl) (by simp [go_sem]) ?_
            refine cw_ret ⟨_, _, by simp only [go_sem]; try exact rfl, by simp [go_sem], _, .inr (.inl rfl), ?_, ?_⟩
            · simp [verdictRow, actRow, e1, e2, actJ, hk5]
            · rw [e3]
              simp only [pins, List.cons_append, List.nil_append, List.map_cons, List.map_nil]
              repeat' refine holds_cons ?_ ?_
              all_goals first | exact holds_nil _ | rfl | simp [go_sem]
          · obtain ⟨e1, e2, e3⟩ := q3 h0 hnf rfl hE
            rw [h1] at e3
            simp only [hE, if_true, Bool.false_eq_true, if_false] at hap e3
            refine cw_draw mixed ?_
            refine seg_start rfl ?_
            refine seg_runN tabOK 9 (by simp only [go_sem]; exact rfl) (by simp only [go_sem]; exact rfl) (by simp only [go_sem]; try exact rfl) (by simp [go_sem]) (by simp only [go_sem]; exact rfl) ?_
            refine seg_call rfl rfl (by simp only [go_sem]; try exact rfl) (by simp [go_sem]) ⟨_, Go.Proofs.Try.func40, by kernel_rfl, rfl⟩ (by simp [go_sem]) (hap) (by simp [go_sem]) (by simp only [go_sem]; exact rfl) (by simp only [go_sem]; exact rfl) ?_
            refine seg_run tabOK (by simp only [go_sem]; try exact rfl) (by simp [go_sem]) (by simp only [go_sem]; exact rfl) ?_
            refine seg_end (by kernel_rfl) (by simp only [go_sem]; exact rfl) ?_
            refine draw_close (by kernel_rfl) ?_
            try simp only [go_sem, List.getElem_toArray, List.getElem_cons_succ, List.getElem_cons_zero]
            refine cw_go tabOK 99 (by simp only [go_sem]; try exact rfl) (by simp [go_sem]) ?_
            refine cw_condT (by simp only [go_sem]; try exact rfl) trivial (by simp [hE]) ?_
            refine cw_go tabOK 99 (by simp only [go_sem]; try exact rfl) (by simp [go_sem]) ?_
            refine cw_condT (by simp only [go_sem]; try exact rfl) trivial (by simp) ?_
            refine cw_go tabOK 99 (by simp only [go_sem]; try exact rfl) (by simp [go_sem]) ?_
            refine cw_draw mixed ?_
            refine seg_start rfl ?_
            refine seg_runN tabOK 9 (by simp only [go_sem]; exact rfl) (by simp only [go_sem]; exact rfl) (by simp only [go_sem]; try exact rfl) (by simp [go_sem]) (by simp only [go_sem]; exact rfl) ?_
            refine seg_end (by kernel_rfl) (by simp only [go_sem]; exact rfl) ?_
            refine draw_step tabOK rfl (by kernel_rfl) rfl (by simp only [go_sem]; try exact rfl) (by simp [go_sem]) rfl ?_
            refine draw_close (by kernel_rfl) ?_
            try simp only [go_sem, List.getElem_toArray, List.getElem_cons_succ, List.getElem_cons_zero]
            refine cw_go tabOK 99 (by simp only [go_sem]; try exact rfl) (by simp [go_sem]) ?_
            refine cw_draw mixed ?_
            refine seg_start rfl ?_
            refine seg_runN tabOK 1 (by simp only [go_sem]; exact rfl) (by simp only [go_sem]; exact rfl) (by simp only [go_sem]; try exact rfl) (by simp [go_sem]) (by simp only [go_sem]; exact rfl) ?_
            refine seg_build tabOK rfl (by simp only [go_sem]; try exact rfl) (by simp only [go_sem]; try exact rfl) (by simp [go_sem]) (by simp only [go_sem, cond_true, cond_false]; exact rfl) (by simp only [go_sem]; exact rfl) (by simp only [go_sem]; exact rfl) ?_
            refine seg_runN tabOK 1 (by simp only [go_sem]; exact rfl) (by simp only [go_sem]; exact rfl) (by simp only [go_sem]; try exact rfl) (by simp [go_sem]) (by simp only [go_sem]; exact rfl) ?_
            refine seg_store tabOK rfl rfl (by simp only [go_sem]; try exact rfl) (by simp only [go_sem]; try exact rfl) (by simp only [go_sem]; try exact rfl) (by first | trivial | simp [go_sem]) (by simp only [go_sem]; exact rfl) (by simp [go_sem]) (by simp only [go_sem]; exact rfl) (by simp only [go_sem]; exact rfl) (by simp only [go_sem]; exact rfl) ?_
            refine seg_store tabOK rfl rfl (by simp only [go_sem]; try exact rfl) (by simp only [go_sem]; try exact rfl) (by simp only [go_sem]; try exact rfl) (by first | trivial | simp [go_sem]) (by simp only [go_sem]; exact rfl) (by simp [go_sem]) (by simp only [go_sem]; exact rfl) (by simp only [go_sem]; exact rfl) (by simp only [go_sem]; exact rfl) ?_
            refine seg_end (by kernel_rfl) (by simp only [go_sem]; exact rfl) ?_
            refine draw_close (by kernel_rfl) ?_
            try simp only [go_sem, List.getElem_toArray, List.getElem_cons_succ, List.getElem_cons_zero]
            refine cw_go tabOK 99 (by simp only [go_sem]; try exact rfl) (by simp [go_sem]) ?_
            refine cw_ret ⟨_, _, by simp only [go_sem]; try exact rfl, by simp [go_sem], _, .inr (.inl rfl), ?_, ?_⟩
            · simp [verdictRow, actRow, e1, e2, actJ, hk5]
            · rw [e3]
              simp only [pins, List.cons_append, List.nil_append, List.map_cons, List.map_nil]
              repeat' refine holds_cons ?_ ?_
              all_goals first | exact holds_nil _ | rfl | simp [go_sem]
    | false =>
      refine cw_condF (by simp only [go_sem]; try exact rfl) trivial (rfl) ?_
      refine cw_go tabOK 99 (by simp only [go_sem]; try exact rfl) (by simp [go_sem]) ?_
      have ho : own1 j r = j.own := by unfold own1; rw [h1]; rfl
      have hnf : ¬ (madeB r.act = true ∧ (hasI j.own r.act.fid = true ∨ r.act.fid ≥ 0)) := fun hh => by rw [h1] at hh; cases hh.1
      rw [← ho]
      -- the fids as they are here
      refine cw_draw mixed ?_
      refine seg_start rfl ?_
      refine seg_runN tabOK 3 (by simp only [go_sem]; exact rfl) (by simp only [go_sem]; exact rfl) (by simp only [go_sem]; try exact rfl) (by simp [go_sem]) (by simp only [go_sem]; exact rfl) ?_
      refine seg_callK rfl rfl (by simp only [go_sem]; try exact rfl) (by simp [go_sem]) ⟨_, Go.Proofs.Try.func172, by kernel_rfl, rfl⟩ [29, 25, 26, 27] (by simp only [go_sem, Bool.false_or, Bool.or_true, Bool.true_or, Bool.or_false, ↓reduceIte]; try exact rfl) (by simp [go_sem]) (by simp) (by simp [go_sem]) (by simp [go_sem]) (hfid r.act.fid) (by simp only [go_sem]; exact rfl) (by simp only [go_sem, Bool.false_or, Bool.or_true, Bool.true_or, Bool.or_false, ↓reduceIte]; exact rfl) ?_
      refine seg_runN tabOK 3 (by simp only [go_sem]; exact rfl) (by simp only [go_sem]; exact rfl) (by simp only [go_sem]; try exact rfl) (by simp [go_sem]) (by simp only [go_sem]; exact rfl) ?_
      refine seg_callK rfl rfl (by simp only [go_sem]; try exact rfl) (by simp [go_sem]) ⟨_, Go.Proofs.Try.func172, by kernel_rfl, rfl⟩ [29, 25, 26, 27] (by simp only [go_sem, Bool.false_or, Bool.or_true, Bool.true_or, Bool.or_false, ↓reduceIte]; try exact rfl) (by simp [go_sem]) (by simp) (by simp [go_sem]) (by simp [go_sem]) (hfid r.act.dir) (by simp only [go_sem]; exact rfl) (by simp only [go_sem, Bool.false_or, Bool.or_true, Bool.true_or, Bool.or_false, ↓reduceIte]; exact rfl) ?_
      refine seg_runN tabOK 1 (by simp only [go_sem]; exact rfl) (by simp only [go_sem]; exact rfl) (by simp only [go_sem]; try exact rfl) (by simp [go_sem]) (by simp only [go_sem]; exact rfl) ?_
      refine seg_store tabOK rfl rfl (by simp only [go_sem]; try exact rfl) (by simp only [go_sem]; try exact rfl) (by simp only [go_sem]; try exact rfl) (by first | trivial | simp [go_sem]) (by simp only [go_sem]; exact rfl) (by simp [go_sem]) (by simp only [go_sem]; exact rfl) (by simp only [go_sem]; exact rfl) (by simp only [go_sem]; exact rfl) ?_
      refine seg_runN tabOK 1 (by simp only [go_sem]; exact rfl) (by simp only [go_sem]; exact rfl) (by simp only [go_sem]; try exact rfl) (by simp [go_sem]) (by simp only [go_sem]; exact rfl) ?_
      refine seg_store tabOK rfl rfl (by simp only [go_sem]; try exact rfl) (by simp only [go_sem]; try exact rfl) (by simp only [go_sem]; try exact rfl) (by first | trivial | simp [go_sem]) (by simp only [go_sem]; exact rfl) (by simp [go_sem]) (by simp only [go_sem]; exact rfl) (by simp only [go_sem]; exact rfl) (by simp only [go_sem]; exact rfl) ?_
      refine seg_end (by kernel_rfl) (by simp only [go_sem]; exact rfl) ?_
      refine draw_close (by kernel_rfl) ?_
      try simp only [go_sem, List.getElem_toArray, List.getElem_cons_succ, List.getElem_cons_zero]
      refine cw_go tabOK 99 (by simp only [go_sem]; try exact rfl) (by simp [go_sem]) ?_
      by_cases hk5 : r.act.kind = 5
      · have hT : (if r.act.kind = 5 then atF (own1 j r) r.act.to else r.act.to) = atF (own1 j r) r.act.to := if_pos hk5
        rw [hT] at hst hap
        refine cw_condT (by simp only [go_sem]; try exact rfl) trivial (by simp [hk5]) ?_
        refine cw_go tabOK 99 (by simp only [go_sem]; try exact rfl) (by simp [go_sem]) ?_
        refine cw_step rfl (trip_callP rfl (by simp only [go_sem]; try exact rfl) (by simp [go_sem]) ⟨_, Go.Proofs.Try.func172, by kernel_rfl, rfl⟩ [29, 25, 26, 27] (by simp only [go_sem, Bool.false_or, Bool.or_true, Bool.true_or, Bool.or_false, ↓reduceIte]; try exact rfl) (by simp [go_sem]) (by simp) (by simp [go_sem]) (by simp [go_sem]) (by simp [go_sem]) (hfid r.act.to) (by simp only [go_sem, Bool.false_or, Bool.or_true, Bool.true_or, Bool.or_false, ↓reduceIte]; exact rfl)) ?_
        refine cw_go tabOK 99 (by simp only [go_sem]; try exact rfl) (by simp [go_sem]) ?_
        refine cw_step rfl (trip_callP rfl (by simp only [go_sem]; try exact rfl) (by simp [go_sem]) ⟨_, Go.Proofs.Try.func173, by kernel_rfl, rfl⟩ [29, 25, 26, 27, 6] (by simp only [go_sem, Bool.false_or, Bool.or_true, Bool.true_or, Bool.or_false, ↓reduceIte]; try exact rfl) (by simp [go_sem]) (by simp) (by simp [go_sem]) (by simp [go_sem]) (by simp [go_sem]) (hst) (by simp only [go_sem, Bool.false_or, Bool.or_true, Bool.true_or, Bool.or_false, ↓reduceIte]; exact rfl)) ?_
        refine cw_go tabOK 99 (by simp only [go_sem]; try exact rfl) (by simp [go_sem]) ?_
        cases st with
        | true =>
          obtain ⟨e1, e2, e3⟩ := q2 h0 hnf rfl
          refine cw_condT (by simp only [go_sem]; try exact rfl) trivial (rfl) ?_
          refine cw_go tabOK 99 (by simp only [go_sem]; try exact rfl) (by simp [go_sem]) ?_
          refine cw_draw mixed ?_
          refine seg_start rfl ?_
          refine seg_build tabOK rfl (by simp only [go_sem]; try exact rfl) (by simp only [go_sem]; try exact rfl) (by simp [go_sem]) (by simp only [go_sem, cond_true, cond_false]; exact rfl) (by simp only [go_sem]; exact rfl) (by simp only [go_sem]; exact rfl) ?_
          refine seg_runN tabOK 1 (by simp only [go_sem]; exact rfl) (by simp only [go_sem]; exact rfl) (by simp only [go_sem]; try exact rfl) (by simp [go_sem]) (by simp only [go_sem]; exact rfl) ?_
          refine seg_store tabOK rfl rfl (by simp only [go_sem]; try exact rfl) (by simp only [go_sem]; try exact rfl) (by simp only [go_sem]; try exact rfl) (by first | trivial | simp [go_sem]) (by simp only [go_sem]; exact rfl) (by simp [go_sem]) (by simp only [go_sem]; exact rfl) (by simp only [go_sem]; exact rfl) (by simp only [go_sem]; exact rfl) ?_
          refine seg_store tabOK rfl rfl (by simp only [go_sem]; try exact rfl) (by simp only [go_sem]; try exact rfl) (by simp only [go_sem]; try exact rfl) (by first | trivial | simp [go_sem]) (by simp only [go_sem]; exact rfl) (by simp [go_sem]) (by simp only [go_sem]; exact rfl) (by simp only [go_sem]; exact rfl) (by simp only [go_sem]; exact rfl) ?_
          refine seg_end (by kernel_rfl) (by simp only [go_sem]; exact rfl) ?_
          refine draw_close (by kernel_rfl) ?_
          try simp only [go_sem, List.getElem_toArray, List.getElem_cons_succ, List.getElem_cons_zero]
          refine cw_go tabOK 99 (by simp only [go_sem]; try exact rfl) (by simp [go_sem]) ?_
          refine cw_ret ⟨_, _, by simp only [go_sem]; try exact rfl, by simp [go_sem], _, .inr (.inl rfl), ?_, ?_⟩
          · simp [verdictRow, actRow, e1, e2, actJ, hk5]
          · rw [e3]
            simp only [pins, List.cons_append, List.nil_append, List.map_cons, List.map_nil]
            repeat' refine holds_cons ?_ ?_
            all_goals first | exact holds_nil _ | rfl | simp [go_sem]
        | false =>
          refine cw_condF (by simp only [go_sem]; try exact rfl) trivial (rfl) ?_
          refine cw_go tabOK 99 (by simp only [go_sem]; try exact rfl) (by simp [go_sem]) ?_
          by_cases hE : E = 0
          · obtain ⟨e1, e2, e3⟩ := q4 h0 hnf rfl hE
            subst hE
            rw [h1] at e3
            simp only [if_true, Bool.false_eq_true, if_false] at hap e3
            refine cw_draw mixed ?_
            refine seg_start rfl ?_
            refine seg_runN tabOK 9 (by simp only [go_sem]; exact rfl) (by simp only [go_sem]; exact rfl) (by simp only [go_sem]; try exact rfl) (by simp [go_sem]) (by simp only [go_sem]; exact rfl) ?_
            refine seg_call rfl rfl (by simp only [go_sem]; try exact rfl) (by simp [go_sem]) ⟨_, Go.Proofs.Try.func40, by kernel_rfl, rfl⟩ (by simp [go_sem]) (hap) (by simp [go_sem]) (by simp only [go_sem]; exact rfl) (by simp only [go_sem]; exact rfl) ?_
            refine seg_run tabOK (by simp only [go_sem]; try exact rfl) (by simp [go_sem]) (by simp only [go_sem]; exact rfl) ?_
            refine seg_end (by kernel_rfl) (by simp only [go_sem]; exact rfl) ?_
            refine draw_close (by kernel_rfl) ?_
            try simp only [go_sem, List.getElem_toArray, List.getElem_cons_succ, List.getElem_cons_zero]
            refine cw_go tabOK 99 (by simp only [go_sem]; try exact rfl) (by simp [go_sem]) ?_
            refine cw_condF (by simp only [go_sem]; try exact rfl) trivial (by simp) ?_
            refine cw_go tabOK 99 (by simp only [go_sem, hwn, hwv]; try exact rfl) (by simp [go_sem, hwn, hwv]) ?_
            refine cw_condF (by simp only [go_sem]; try exact rfl) trivial (by simp) ?_
            refine cw_go tabOK 99 (by simp only [go_sem, hwn, hwv]; try exact rfl) (by simp [go_sem, hwn, hwv]) ?_
            refine cw_draw mixed ?_
            refine seg_start rfl ?_
            refine seg_runN tabOK 2 (by simp only [go_sem]; exact rfl) (by simp only [go_sem]; exact rfl) (by simp only [go_sem]; try exact rfl) (by simp [go_sem]) (by simp only [go_sem]; exact rfl) ?_
            refine seg_build tabOK rfl (by simp only [go_sem]; try exact rfl) (by simp only [go_sem]; try exact rfl) (by simp [go_sem]) (by simp only [go_sem, cond_true, cond_false]; exact rfl) (by simp only [go_sem]; exact rfl) (by simp only [go_sem]; exact rfl) ?_
            refine seg_runN tabOK 1 (by simp only [go_sem]; exact rfl) (by simp only [go_sem]; exact rfl) (by simp only [go_sem]; try exact rfl) (by simp [go_sem]) (by simp only [go_sem]; exact rfl) ?_
            refine seg_store tabOK rfl rfl (by simp only [go_sem]; try exact rfl) (by simp only [go_sem]; try exact rfl) (by simp only [go_sem]; try exact rfl) (by first | trivial | simp [go_sem]) (by simp only [go_sem]; exact rfl) (by simp [go_sem]) (by simp only [go_sem]; exact rfl) (by simp only [go_sem]; exact rfl) (by simp only [go_sem]; exact rfl) ?_
            refine seg_store tabOK rfl rfl (by simp only [go_sem]; try exact rfl) (by simp only [go_sem]; try exact rfl) (by simp only [go_sem]; try exact rfl) (by first | trivial | simp [go_sem]) (by simp only [go_sem]; exact rfl) (by simp [go_sem]) (by simp only [go_sem]; exact rfl) (by simp only [go_sem]; exact rfl) (by simp only [go_sem]; exact rfl) ?_
            refine seg_end (by kernel_rfl) (by simp only [go_sem]; exact rfl) ?_
            refine draw_close (by kernel_rfl) ?_
            try simp only [go_sem, List.getElem_toArray, List.getElem_cons_succ, List.getElem_cons_zero]
            refine cw_go tabOK 99 (by simp only [go_sem]; try exact rfl) (by simp [go_sem]) ?_
            refine cw_ret ⟨_, _, by simp only [go_sem]; try exact rfl, by simp [go_sem], _, .inr (.inl rfl), ?_, ?_⟩
            · simp [verdictRow, actRow, e1, e2, actJ, hk5]
            · rw [e3]
              simp only [pins, List.cons_append, List.nil_append, List.map_cons, List.map_nil]
              repeat' refine holds_cons ?_ ?_
              all_goals first | exact holds_nil _ | rfl | simp [go_sem]
          · obtain ⟨e1, e2, e3⟩ := q3 h0 hnf rfl hE
            rw [h1] at e3
            simp only [hE, if_true, Bool.false_eq_true, if_false] at hap e3
            refine cw_draw mixed ?_
            refine seg_start rfl ?_
            refine seg_runN tabOK 9 (by simp only [go_sem]; exact rfl) (by simp only [go_sem]; exact rfl) (by simp only [go_sem]; try exact rfl) (by simp [go_sem]) (by simp only [go_sem]; exact rfl) ?_
            refine seg_call rfl rfl (by simp only [go_sem]; try exact rfl) (by simp [go_sem]) ⟨_, Go.Proofs.Try.func40, by kernel_rfl, rfl⟩ (by simp [go_sem]) (hap) (by simp [go_sem]) (by simp only [go_sem]; exact rfl) (by simp only [go_sem]; exact rfl) ?_
            refine seg_run tabOK (by simp only [go_sem]; try exact rfl) (by simp [go_sem]) (by simp only [go_sem]; exact rfl) ?_
            refine seg_end (by kernel_rfl) (by simp only [go_sem]; exact rfl) ?_
            refine draw_close (by kernel_rfl) ?_
            try simp only [go_sem, List.getElem_toArray, List.getElem_cons_succ, List.getElem_cons_zero]
            refine cw_go tabOK 99 (by simp only [go_sem]; try exact rfl) (by simp [go_sem]) ?_
            refine cw_condT (by simp only [go_sem]; try exact rfl) trivial (by simp [hE]) ?_
            refine cw_go tabOK 99 (by simp only [go_sem]; try exact rfl) (by simp [go_sem]) ?_
            refine cw_condF (by simp only [go_sem]; try exact rfl) trivial (by simp) ?_
            refine cw_go tabOK 99 (by simp only [go_sem]; try exact rfl) (by simp [go_sem]) ?_
            refine cw_draw mixed ?_
            refine seg_start rfl ?_
            refine seg_runN tabOK 1 (by simp only [go_sem]; exact rfl) (by simp only [go_sem]; exact rfl) (by simp only [go_sem]; try exact rfl) (by simp [go_sem]) (by simp only [go_sem]; exact rfl) ?_
            refine seg_build tabOK rfl (by simp only [go_sem]; try exact rfl) (by simp only [go_sem]; try exact rfl) (by simp [go_sem]) (by simp only [go_sem, cond_true, cond_false]; exact rfl) (by simp only [go_sem]; exact rfl) (by simp only [go_sem]; exact rfl) ?_
            refine seg_runN tabOK 1 (by simp only [go_sem]; exact rfl) (by simp only [go_sem]; exact rfl) (by simp only [go_sem]; try exact rfl) (by simp [go_sem]) (by simp only [go_sem]; exact rfl) ?_
            refine seg_store tabOK rfl rfl (by simp only [go_sem]; try exact rfl) (by simp only [go_sem]; try exact rfl) (by simp only [go_sem]; try exact rfl) (by first | trivial | simp [go_sem]) (by simp only [go_sem]; exact rfl) (by simp [go_sem]) (by simp only [go_sem]; exact rfl) (by simp only [go_sem]; exact rfl) (by simp only [go_sem]; exact rfl) ?_
            refine seg_store tabOK rfl rfl (by simp only [go_sem]; try exact rfl) (by simp only [go_sem]; try exact rfl) (by simp only [go_sem]; try exact rfl) (by first | trivial | simp [go_sem]) (by simp only [go_sem]; exact rfl) (by simp [go_sem]) (by simp only [go_sem]; exact rfl) (by simp only [go_sem]; exact rfl) (by simp only [go_sem]; exact rfl) ?_
            refine seg_end (by kernel_rfl) (by simp only [go_sem]; exact rfl) ?_
            refine draw_close (by kernel_rfl) ?_
            try simp only [go_sem, List.getElem_toArray, List.getElem_cons_succ, List.getElem_cons_zero]
            refine cw_go tabOK 99 (by simp only [go_sem]; try exact rfl) (by simp [go_sem]) ?_
            refine cw_ret ⟨_, _, by simp only [go_sem]; try exact rfl, by simp [go_sem], _, .inr (.inl rfl), ?_, ?_⟩
            · simp [verdictRow, actRow, e1, e2, actJ, hk5]
            · rw [e3]
              simp only [pins, List.cons_append, List.nil_append, List.map_cons, List.map_nil]
              repeat' refine holds_cons ?_ ?_
              all_goals first | exact holds_nil _ | rfl | simp [go_sem]
      · have hT : (if r.act.kind = 5 then atF (own1 j r) r.act.to else r.act.to) = r.act.to := if_neg hk5
        rw [hT] at hst hap
        refine cw_condF (by simp only [go_sem]; try exact rfl) trivial (by simp [hk5]) ?_
        refine cw_go tabOK 99 (by simp only [go_sem]; try exact rfl) (by simp [go_sem]) ?_
        refine cw_step rfl (trip_callP rfl (by simp only [go_sem]; try exact rfl) (by simp [go_sem]) ⟨_, Go.Proofs.Try.func173, by kernel_rfl, rfl⟩ [29, 25, 26, 27, 6] (by simp only [go_sem, Bool.false_or, Bool.or_true, Bool.true_or, Bool.or_false, ↓reduceIte]; try exact rfl) (by simp [go_sem]) (by simp) (by simp [go_sem]) (by simp [go_sem]) (by simp [go_sem]) (hst) (by simp only [go_sem, Bool.false_or, Bool.or_true, Bool.true_or, Bool.or_false, ↓reduceIte]; exact rfl)) ?_
        refine cw_go tabOK 99 (by simp only [go_sem]; try exact rfl) (by simp [go_sem]) ?_
        cases st with
        | true =>
          obtain ⟨e1, e2, e3⟩ := q2 h0 hnf rfl
          refine cw_condT (by simp only [go_sem]; try exact rfl) trivial (rfl) ?_
          refine cw_go tabOK 99 (by simp only [go_sem]; try exact rfl) (by simp [go_sem]) ?_
          refine cw_draw mixed ?_
          refine seg_start rfl ?_
          refine seg_build tabOK rfl (by simp only [go_sem]; try exact rfl) (by simp only [go_sem]; try exact rfl) (by simp [go_sem]) (by simp only [go_sem, cond_true, cond_false]; exact rfl) (by simp only [go_sem]; exact rfl) (by simp only [go_sem]; exact rfl) ?_
          refine seg_runN tabOK 1 (by simp only [go_sem]; exact rfl) (by simp only [go_sem]; exact rfl) (by simp only [go_sem]; try exact rfl) (by simp [go_sem]) (by simp only [go_sem]; exact rfl) ?_
          refine seg_store tabOK rfl rfl (by simp only [go_sem]; try exact rfl) (by simp only [go_sem]; try exact rfl) (by simp only [go_sem]; try exact rfl) (by first | trivial | simp [go_sem]) (by simp only [go_sem]; exact rfl) (by simp [go_sem]) (by simp only [go_sem]; exact rfl) (by simp only [go_sem]; exact rfl) (by simp only [go_sem]; exact rfl) ?_
          refine seg_store tabOK rfl rfl (by simp only [go_sem]; try exact rfl) (by simp only [go_sem]; try exact rfl) (by simp only [go_sem]; try exact rfl) (by first | trivial | simp [go_sem]) (by simp only [go_sem]; exact rfl) (by simp [go_sem]) (by simp only [go_sem]; exact rfl) (by simp only [go_sem]; exact rfl) (by simp only [go_sem]; exact rfl) ?_
          refine seg_end (by kernel_rfl) (by simp only [go_sem]; exact rfl) ?_
          refine draw_close (by kernel_rfl) ?_
          try simp only [go_sem, List.getElem_toArray, List.getElem_cons_succ, List.getElem_cons_zero]
          refine cw_go tabOK 99 (by simp only [go_sem]; try exact rfl) (by simp [go_sem]) ?_
          refine cw_ret ⟨_, _, by simp only [go_sem]; try exact rfl, by simp [go_sem], _, .inr (.inl rfl), ?_, ?_⟩
          · simp [verdictRow, actRow, e1, e2, actJ, hk5]
          · rw [e3]
            simp only [pins, List.cons_append, List.nil_append, List.map_cons, List.map_nil]
            repeat' refine holds_cons ?_ ?_
            all_goals first | exact holds_nil _ | rfl | simp [go_sem]
        | false =>
          refine cw_condF (by simp only [go_sem]; try exact rfl) trivial (rfl) ?_
          refine cw_go tabOK 99 (by simp only [go_sem]; try exact rfl) (by simp [go_sem]) ?_
          by_cases hE : E = 0
          · obtain ⟨e1, e2, e3⟩ := q4 h0 hnf rfl hE
            subst hE
            rw [h1] at e3
            simp only [if_true, Bool.false_eq_true, if_false] at hap e3
            refine cw_draw mixed ?_
            refine seg_start rfl ?_
            refine seg_runN tabOK 9 (by simp only [go_sem]; exact rfl) (by simp only [go_sem]; exact rfl) (by simp only [go_sem]; try exact rfl) (by simp [go_sem]) (by simp only [go_sem]; exact rfl) ?_
            refine seg_call rfl rfl (by simp only [go_sem]; try exact rfl) (by simp [go_sem]) ⟨_, Go.Proofs.Try.func40, by kernel_rfl, rfl⟩ (by simp [go_sem]) (hap) (by simp [go_sem]) (by simp only [go_sem]; exact rfl) (by simp only [go_sem]; exact rfl) ?_
            refine seg_run tabOK (by simp only [go_sem]; try exact rfl) (by simp [go_sem]) (by simp only [go_sem]; exact rfl) ?_
            refine seg_end (by kernel_rfl) (by simp only [go_sem]; exact rfl) ?_
            refine draw_close (by kernel_rfl) ?_
            try simp only [go_sem, List.getElem_toArray, List.getElem_cons_succ, List.getElem_cons_zero]
            refine cw_go tabOK 99 (by simp only [go_sem]; try exact rfl) (by simp [go_sem]) ?_
            refine cw_condF (by simp only [go_sem]; try exact rfl) trivial (by simp) ?_
            refine cw_go tabOK 99 (by simp only [go_sem, hwn, hwv]; try exact rfl) (by simp [go_sem, hwn, hwv]) ?_
            refine cw_condF (by simp only [go_sem]; try exact rfl) trivial (by simp) ?_
            refine cw_go tabOK 99 (by simp only [go_sem, hwn, hwv]; try exact rfl) (by simp [go_sem, hwn, hwv]) ?_
            refine cw_draw mixed ?_
            refine seg_start rfl ?_
            refine seg_runN tabOK 2 (by simp only [go_sem]; exact rfl) (by simp only [go_sem]; exact rfl) (by simp only [go_sem]; try exact rfl) (by simp [go_sem]) (by simp only [go_sem]; exact rfl) ?_
            refine seg_build tabOK rfl (by simp only [go_sem]; try exact rfl) (by simp only [go_sem]; try exact rfl) (by simp [go_sem]) (by simp only [go_sem, cond_true, cond_false]; exact rfl) (by simp only [go_sem]; exact rfl) (by simp only [go_sem]; exact rfl) ?_
            refine seg_runN tabOK 1 (by simp only [go_sem]; exact rfl) (by simp only [go_sem]; exact rfl) (by simp only [go_sem]; try exact rfl) (by simp [go_sem]) (by simp only [go_sem]; exact rfl) ?_
            refine seg_store tabOK rfl rfl (by simp only [go_sem]; try exact rfl) (by simp only [go_sem]; try exact rfl) (by simp only [go_sem]; try exact rfl) (by first | trivial | simp [go_sem]) (by simp only [go_sem]; exact rfl) (by simp [go_sem]) (by simp only [go_sem]; exact rfl) (by simp only [go_sem]; exact rfl) (by simp only [go_sem]; exact rfl) ?_
            refine seg_store tabOK rfl rfl (by simp only [go_sem]; try exact rfl) (by simp only [go_sem]; try exact rfl) (by simp only [go_sem]; try exact rfl) (by first | trivial | simp [go_sem]) (by simp only [go_sem]; exact rfl) (by simp [go_sem]) (by simp only [go_sem]; exact rfl) (by simp only [go_sem]; exact rfl) (by simp only [go_sem]; exact rfl) ?_
            refine seg_end (by kernel_rfl) (by simp only [go_sem]; exact rfl) ?_
            refine draw_close (by kernel_rfl) ?_
            try simp only [go_sem, List.getElem_toArray, List.getElem_cons_succ, List.getElem_cons_zero]
            refine cw_go tabOK 99 (by simp only [go_sem]; try exact rfl) (by simp [go_sem]) ?_
            refine cw_ret ⟨_, _, by simp only [go_sem]; try exact rfl, by simp [go_sem], _, .inr (.inl rfl), ?_, ?_⟩
            · simp [verdictRow, actRow, e1, e2, actJ, hk5]
            · rw [e3]
              simp only [pins, List.cons_append, List.nil_append, List.map_cons, List.map_nil]
              repeat' refine holds_cons ?_ ?_
              all_goals first | exact holds_nil _ | rfl | simp [go_sem]
          · obtain ⟨e1, e2, e3⟩ := q3 h0 hnf rfl hE
            rw [h1] at e3
            simp only [hE, if_true, Bool.false_eq_true, if_false] at hap e3
            refine cw_draw mixed ?_
            refine seg_start rfl ?_
            refine seg_runN tabOK 9 (by simp only [go_sem]; exact rfl) (by simp only [go_sem]; exact rfl) (by simp only [go_sem]; try exact rfl) (by simp [go_sem]) (by simp only [go_sem]; exact rfl) ?_
            refine seg_call rfl rfl (by simp only [go_sem]; try exact rfl) (by simp [go_sem]) ⟨_, Go.Proofs.Try.func40, by kernel_rfl, rfl⟩ (by simp [go_sem]) (hap) (by simp [go_sem]) (by simp only [go_sem]; exact rfl) (by simp only [go_sem]; exact rfl) ?_
            refine seg_run tabOK (by simp only [go_sem]; try exact rfl) (by simp [go_sem]) (by simp only [go_sem]; exact rfl) ?_
            refine seg_end (by kernel_rfl) (by simp only [go_sem]; exact rfl) ?_
            refine draw_close (by kernel_rfl) ?_
            try simp only [go_sem, List.getElem_toArray, List.getElem_cons_succ, List.getElem_cons_zero]
            refine cw_go tabOK 99 (by simp only [go_sem]; try exact rfl) (by simp [go_sem]) ?_
            refine cw_condT (by simp only [go_sem]; try exact rfl) trivial (by simp [hE]) ?_
            refine cw_go tabOK 99 (by simp only [go_sem]; try exact rfl) (by simp [go_sem]) ?_
            refine cw_condF (by simp only [go_sem]; try exact rfl) trivial (by simp) ?_
            refine cw_go tabOK 99 (by simp only [go_sem]; try exact rfl) (by simp [go_sem]) ?_
            refine cw_draw mixed ?_
            refine seg_start rfl ?_
            refine seg_runN tabOK 1 (by simp only [go_sem]; exact rfl) (by simp only [go_sem]; exact rfl) (by simp only [go_sem]; try exact rfl) (by simp [go_sem]) (by simp only [go_sem]; exact rfl) ?_
            refine seg_build tabOK rfl (by simp only [go_sem]; try exact rfl) (by simp only [go_sem]; try exact rfl) (by simp [go_sem]) (by simp only [go_sem, cond_true, cond_false]; exact rfl) (by simp only [go_sem]; exact rfl) (by simp only [go_sem]; exact rfl) ?_
            refine seg_runN tabOK 1 (by simp only [go_sem]; exact rfl) (by simp only [go_sem]; exact rfl) (by simp only [go_sem]; try exact rfl) (by simp [go_sem]) (by simp only [go_sem]; exact rfl) ?_
            refine seg_store tabOK rfl rfl (by simp only [go_sem]; try exact rfl) (by simp only [go_sem]; try exact rfl) (by simp only [go_sem]; try exact rfl) (by first | trivial | simp [go_sem]) (by simp only [go_sem]; exact rfl) (by simp [go_sem]) (by simp only [go_sem]; exact rfl) (by simp only [go_sem]; exact rfl) (by simp only [go_sem]; exact rfl) ?_
            refine seg_store tabOK rfl rfl (by simp only [go_sem]; try exact rfl) (by simp only [go_sem]; try exact rfl) (by simp only [go_sem]; try exact rfl) (by first | trivial | simp [go_sem]) (by simp only [go_sem]; exact rfl) (by simp [go_sem]) (by simp only [go_sem]; exact rfl) (by simp only [go_sem]; exact rfl) (by simp only [go_sem]; exact rfl) ?_
            refine seg_end (by kernel_rfl) (by simp only [go_sem]; exact rfl) ?_
            refine draw_close (by kernel_rfl) ?_
            try simp only [go_sem, List.getElem_toArray, List.getElem_cons_succ, List.getElem_cons_zero]
            refine cw_go tabOK 99 (by simp only [go_sem]; try exact rfl) (by simp [go_sem]) ?_
            refine cw_ret ⟨_, _, by simp only [go_sem]; try exact rfl, by simp [go_sem], _, .inr (.inl rfl), ?_, ?_⟩
            · simp [verdictRow, actRow, e1, e2, actJ, hk5]
            · rw [e3]
              simp only [pins, List.cons_append, List.nil_append, List.map_cons, List.map_nil]
              repeat' refine holds_cons ?_ ?_
              all_goals first | exact holds_nil _ | rfl | simp [go_sem]
end La

namespace La
open Go Go.Eng Go.Proofs
set_option maxRecDepth 10000
set_option linter.unusedSimpArgs false
set_option linter.unusedVariables false

theorem oursP_snoc (m : List (Int × Bool)) (l : List Int) (x : Int) : oursP m (l ++ [x]) = mput (oursP m l) x true := by
  unfold oursP; rw [List.foldl_append]; rfl
/-- where Judge is, behind so many records -/
noncomputable def jgAt (l : List Node) (next version : Int) (log : List Rec) (i : Nat) : JG := (log.take i).foldl stepJ (startJ l next version)
theorem jgAt_succ (l : List Node) (next version : Int) {log : List Rec} {i : Nat} (h : i < log.length) : jgAt l next version log (i + 1) = stepJ (jgAt l next version log i) (log.getD i default) := by
  unfold jgAt; rw [take_succ_getD h, List.foldl_append]; rfl
theorem jgAt_inv {p : List Past} {l : List Node} (h : Hist p l) (next : Int) {log : List Rec} (hl : ∀ r, r ∈ log → ActFit r.act) {i : Nat} (hi : i ≤ log.length) : JInv p 0 i next (jgAt l next ((p.length + 1 : Nat) : Int) log i) := by
  have := JInv.judge h 0 next (log.take i) (fun r hr => hl r (List.mem_of_mem_take hr))
  rw [List.length_take, Nat.min_eq_left hi] at this
  exact this
def jgB (s : JG) : List (Nat × Blk) := [(45, .cells 154 2 (s.vs.map verdictRow)), (72, .cells 25 7 (s.done.map actRow)), (29, .cells 194 6 [jRow s.j]), (25, .map (mI s.j.own)), (26, .map (mB s.j.ours)), (27, .map (mB s.j.lost))]

set_option maxHeartbeats 4000000 in
theorem judge_ok (p : List Past) (l : List Node) (next : Int) (log : List Rec) (h : Hist p l) (hp : p.length ≤ 80000000) (hn : next.natAbs ≤ 80000000) (hlog : SmallL log) (hl2 : log.length ≤ 2000000) (hfit : ∀ r, r ∈ log → ActFit r.act) :
    FnOK Try.prog 121 [.sl (l.map nodeRow), .int .i64 next, .int .i64 ((p.length + 1 : Nat) : Int), .sl (log.map recRow)] []
      (fun r _ => r = .tup [.sl ((judgeJ l next ((p.length + 1 : Nat) : Int) log).vs.map verdictRow), .sl ((judgeJ l next ((p.length + 1 : Nat) : Int) log).done.map actRow), .sl ((judgeJ l next ((p.length + 1 : Nat) : Int) log).j.l.map nodeRow), .int .i64 (judgeJ l next ((p.length + 1 : Nat) : Int) log).j.next]) := by
  have how := own_ok l h.good.small
  have hlo := logs_own log hlog
  have hfin : judgeJ l next ((p.length + 1 : Nat) : Int) log = jgAt l next ((p.length + 1 : Nat) : Int) log log.length := by unfold jgAt; rw [List.take_length]; rfl
  have hinv := fun i => @jgAt_inv p l h next log hfit i
  have hsucc := fun i => @jgAt_succ l next ((p.length + 1 : Nat) : Int) log i
  have hz : jgAt l next ((p.length + 1 : Nat) : Int) log 0 = startJ l next ((p.length + 1 : Nat) : Int) := rfl
  rw [hfin]
  generalize jgAt l next ((p.length + 1 : Nat) : Int) log = st at *
  refine fn_of_cwW tabOK (Go.Proofs.Try.func121) rfl (fun C => ?_)
  simp only [Go.Proofs.Try.ntmps121, Go.Proofs.Try.results121, go_sem]
  refine cw_go tabOK 99 (by simp only [go_sem]; try exact rfl) (by simp [go_sem]) ?_
  refine cw_call rfl rfl (by simp only [go_sem]; try exact rfl) (by simp [go_sem]) ⟨_, Go.Proofs.Try.func86, by kernel_rfl, rfl⟩ (by simp [go_sem]) (how) (by simp [go_sem]) (by simp only [go_sem]; exact rfl) ?_
  refine cw_go tabOK 99 (by simp only [go_sem]; try exact rfl) (by simp [go_sem]) ?_
  refine cw_call rfl rfl (by simp only [go_sem]; try exact rfl) (by simp [go_sem]) ⟨_, Go.Proofs.Try.func19, by kernel_rfl, rfl⟩ (by simp [go_sem]) (hlo) (by simp [go_sem]) (by simp only [go_sem]; exact rfl) ?_
  refine cw_go tabOK 99 (by simp only [go_sem]; try exact rfl) (by simp [go_sem]) ?_
  refine cw_le (le_empty 72 25 7 (by simp only [go_sem]; try exact rfl)) ?_
  refine cw_le (le_empty 45 154 2 (by simp only [go_sem]; try exact rfl)) ?_
  simp only [go_sem]
  refine cw_loopS (fun i : Nat => i ≤ log.length) (fun i => log.length - i) (fun i => [(13, .osl 45 2 0 (st i).vs.length), (14, .osl 72 7 0 (st i).done.length), (16, .any), (17, .any), (18, .any), (20, .any), (33, .int .i64 i), (34, .any), (35, .any), (36, .any), (37, .any), (38, .any), (39, .any), (40, .any), (41, .any), (42, .any), (43, .any), (44, .any), (45, .any), (46, .any), (47, .any), (48, .any), (49, .any), (50, .any), (51, .any), (52, .any), (53, .any), (54, .any), (55, .any), (56, .any), (57, .any), (58, .any), (59, .any), (60, .any), (61, .any), (62, .any), (63, .any), (64, .any), (65, .any), (66, .any), (67, .any), (68, .any), (69, .any), (70, .any), (71, .any), (72, .any), (73, .any)]) (fun i => jgB (st i)) 0 (by omega) ?_ fun i hi => ?_
  · rw [hz]
    simp only [startJ, jgB, jRow, mI, mB]
    simp only [go_sem]
    exact le_sub (by simp [go_sem]) (by simp [go_sem]) (by simp only [go_sem])
  unfold jgB jRow
  simp only [go_sem]
  refine cw_go tabOK 99 (by simp only [go_sem]; try exact rfl) (by simp [go_sem]) ?_
  refine cw_cond (by simp only [go_sem]; try exact rfl) trivial (fun h => ?_) (fun h => ?_)
  · have hlt : i < log.length := by simp at h; omega
    have hg : (log.map recRow).getD i [] = recRow (log.getD i default) := Fam.getD hlt
    have hv := hinv i (by omega)
    have hf := hfit _ (getD_mem hlt)
    have hsc := hsucc i hlt
    clear hinv hsucc
    generalize log.getD i default = r at *
    have hnx := hv.next
    have hvs := hv.vlen
    have hdl := hv.len
    have hone := one_ok (st i).j r hv.hist.good hf (by omega) (by have := hv.version; omega)
    have hst : st (i + 1) = (if (oneV (st i).j r).err = 0 then ⟨{ oneJ (st i).j r with ours := oursP (oneJ (st i).j r).ours (fids (oneA (st i).j r)) }, (st i).vs ++ [oneV (st i).j r], (st i).done ++ [oneA (st i).j r]⟩ else ⟨lose (oneJ (st i).j r) r.act.fid, (st i).vs ++ [oneV (st i).j r], (st i).done⟩) := by
      rw [hsc]; unfold stepJ oneV; rfl
    unfold jH jB jRow recRow at hone
    clear hsc hv
    generalize oneV (st i).j r = V at *
    generalize oneA (st i).j r = A at *
    generalize oneJ (st i).j r = J at *
    have hfd := fids_ok A
    have hf3 := fids_len A
    have how' : IntKind.i64.wrap ((i : Int) + 1) = ((i + 1 : Nat) : Int) := by rw [Eng.wrap_small (by omega) (by omega)]; rfl
    refine cw_go tabOK 99 (by simp only [go_sem, hg, recRow]; try exact rfl) ?_ ?_
    · simp [hg, recRow, hlt]
    refine cw_freeze 16 rfl (rfl) ?_
    simp only [go_sem]
    refine cw_step rfl (trip_callP rfl (by simp only [go_sem]; try exact rfl) (by simp [go_sem]) ⟨_, Go.Proofs.Try.func156, by kernel_rfl, rfl⟩ [29, 25, 26, 27] (by simp only [go_sem, Bool.false_or, Bool.or_true, Bool.true_or, Bool.or_false, ↓reduceIte]; try exact rfl) (by simp [go_sem]) (by simp) (by simp [go_sem]) (by simp [go_sem]) (by simp [go_sem]) (hone) (by simp only [go_sem, Bool.false_or, Bool.or_true, Bool.true_or, Bool.or_false, ↓reduceIte]; exact rfl)) ?_
    refine cw_go tabOK 99 (by simp only [go_sem, verdictRow, actRow]; try exact rfl) ?_ ?_
    · simp [verdictRow, actRow, rowsOf]; omega
    by_cases hE : V.err = 0
    · rw [if_pos hE] at hst
      refine cw_condF (by simp only [go_sem]; try exact rfl) trivial (by simp [hE]) ?_
      refine cw_go tabOK 99 (by simp only [go_sem]; try exact rfl) (by simp [go_sem]) ?_
      unfold actRow at hfd
      refine cw_call rfl rfl (by simp only [go_sem]; try exact rfl) (by simp [go_sem]) ⟨_, Go.Proofs.Try.func99, by kernel_rfl, rfl⟩ (by simp [go_sem]) (hfd) (by simp [go_sem]) (by simp only [go_sem]; exact rfl) ?_
      refine cw_go tabOK 99 (by simp only [go_sem]; try exact rfl) (by simp [go_sem]) ?_
      refine cw_loopS (fun k : Nat => k ≤ (fids A).length) (fun k => (fids A).length - k) (fun k => [(20, .any), (59, .int .i64 k), (60, .any), (61, .any), (62, .any), (63, .any), (64, .any), (65, .any), (66, .any), (67, .any), (68, .any)]) (fun k => [(26, .map (mB (oursP J.ours ((fids A).take k))))]) 0 (by omega) ?_ fun k hk => ?_
      · simp only [go_sem]
        exact le_sub (by simp [go_sem]) (by simp [go_sem, oursP]) (by simp [go_sem])
      simp only [go_sem]
      refine cw_go tabOK 99 (by simp only [go_sem]; try exact rfl) (by simp [go_sem]) ?_
      refine cw_cond (by simp only [go_sem]; try exact rfl) trivial (fun h => ?_) (fun h => ?_)
      · have hlk : k < (fids A).length := by simp at h; omega
        have hgk : ((fids A).map intRow).getD k [] = intRow ((fids A).getD k default) := Fam.getD hlk
        have htk : oursP J.ours ((fids A).take (k + 1)) = mput (oursP J.ours ((fids A).take k)) ((fids A).getD k default) true := by rw [take_succ_getD hlk, oursP_snoc]
        have hwk : IntKind.i64.wrap ((k : Int) + 1) = ((k + 1 : Nat) : Int) := by rw [Eng.wrap_small (by omega) (by omega)]; rfl
        generalize (fids A).getD k default = f at *
        refine cw_go tabOK 99 (by simp only [go_sem, hgk, intRow, hwk]; try exact rfl) ?_ ?_
        · simp [hgk, intRow, hlk, AV.deepB, AV.pureB]
        refine cw_back ⟨k + 1, by omega, by omega, le_sub ?_ ?_ ?_⟩
        · simp [go_sem]
        · simp [go_sem, htk]
        · simp [go_sem]
      · have e : k = (fids A).length := by simp at h; omega
        subst e
        refine cw_go tabOK 99 (by simp only [go_sem, actRow, how']; try exact rfl) ?_ ?_
        · simp [actRow, rowsOf]; omega
        refine cw_back ⟨i + 1, by omega, by omega, le_sub ?_ ?_ ?_⟩
        · simp [go_sem, hst]
        · simp [go_sem, hst, jgB, jRow, verdictRow, actRow, List.take_length]
        · simp [go_sem, hst]
    · rw [if_neg hE] at hst
      refine cw_condT (by simp only [go_sem]; try exact rfl) trivial (by simp [hE]) ?_
      refine cw_go tabOK 99 (by simp only [go_sem]; try exact rfl) (by simp [go_sem]) ?_
      refine cw_draw mixed ?_
      refine seg_start rfl ?_
      refine seg_runN tabOK 7 (by simp only [go_sem]; exact rfl) (by simp only [go_sem]; exact rfl) (by simp only [go_sem]; try exact rfl) (by simp [go_sem]) (by simp only [go_sem]; exact rfl) ?_
      refine seg_end (by kernel_rfl) (by simp only [go_sem]; exact rfl) ?_
      refine draw_step tabOK rfl (by kernel_rfl) rfl (by simp only [go_sem]; try exact rfl) (by simp [go_sem]) rfl ?_
      refine draw_close (by kernel_rfl) ?_
      try simp only [go_sem, List.getElem_toArray, List.getElem_cons_succ, List.getElem_cons_zero]
      refine cw_go tabOK 99 (by simp only [go_sem, how']; try exact rfl) (by simp [go_sem, how']) ?_
      refine cw_back ⟨i + 1, by omega, by omega, le_sub ?_ ?_ ?_⟩
      · simp [go_sem, hst]
      · simp [go_sem, hst, jgB, jRow, lose, verdictRow]
      · simp [go_sem, hst]
  · have e : i = log.length := by simp at h; omega
    subst e
    refine cw_go tabOK 99 (by simp only [go_sem]; try exact rfl) (by simp [go_sem]) ?_
    refine cw_draw mixed ?_
    refine seg_start rfl ?_
    refine seg_run tabOK (by simp only [go_sem]; try exact rfl) (by simp [go_sem]) (by simp only [go_sem]; exact rfl) ?_
    refine seg_end (by kernel_rfl) (by simp only [go_sem]; exact rfl) ?_
    refine draw_close (by kernel_rfl) ?_
    try simp only [go_sem, List.getElem_toArray, List.getElem_cons_succ, List.getElem_cons_zero]
    refine cw_go tabOK 99 (by simp only [go_sem]; try exact rfl) (by simp [go_sem]) ?_
    refine cw_freeze 45 rfl (verdictRow_pure _) ?_
    simp only [go_sem]
    refine cw_freeze 72 rfl (actRow_pure _) ?_
    simp only [go_sem]
    refine cw_ret ⟨_, _, (by simp only [go_sem]; try exact rfl), by simp [go_sem], _, .inr (.inl rfl), ?_⟩
    simp
end La

namespace La
open Go Go.Eng Go.Proofs
set_option maxRecDepth 10000
set_option linter.unusedSimpArgs false
set_option linter.unusedVariables false

def pastTo (s : Srv) (c : Int) (done : List Act) (i : Nat) : List Past := s.past ++ (done.take i).map fun a => ⟨c, a⟩
theorem pastTo_succ (s : Srv) (c : Int) {done : List Act} {i : Nat} (h : i < done.length) : pastTo s c done (i + 1) = pastTo s c done i ++ [⟨c, done.getD i default⟩] := by
  unfold pastTo; rw [take_succ_getD h, List.map_append, List.append_assoc]; rfl
theorem pastTo_len (s : Srv) (c : Int) (done : List Act) {i : Nat} (h : i ≤ done.length) : (pastTo s c done i).length = s.past.length + i := by
  unfold pastTo; simp; omega

set_option maxHeartbeats 2000000 in
theorem take_ok (s : Srv) (h : SrvOK 40000000 s) (c : Int) (log : List Rec) (hlog : SmallL log) (hl2 : log.length ≤ 2000000) (hfit : ∀ r, r ∈ log → ActFit r.act) :
    FnOK Try.prog 64 [.agg (srvRow s), .int .i64 c, .sl (log.map recRow)] []
      (fun r _ => r = .tup [.agg (srvRow (takeS s c log)), .sl ((judgeJ s.tree s.next ((s.past.length + 1 : Nat) : Int) log).vs.map verdictRow)]) := by
  have hn := h.next
  have hlen := h.len
  have hsp : SmallP s.past := ⟨by omega, fun p hp => by
    obtain ⟨st, _, _, h3⟩ := h.hist.st
    obtain ⟨i, hi⟩ := List.getElem?_of_mem hp
    have hil := (List.getElem?_eq_some_iff.1 hi).1
    have := (h3 i hil).2.1.data
    rwa [show s.past.getD i default = p by rw [List.getD_eq_getElem?_getD, hi]; rfl] at this⟩
  have hv := version_ok s (by omega)
  have hso := sown_okH s h.hist.good.small hsp
  have hj := judge_ok s.past s.tree s.next log h.hist (by omega) (by omega) hlog hl2 hfit
  have hinv := (JInv.judge h.hist c s.next log hfit).len
  have hT : takeS s c log = ⟨(judgeJ s.tree s.next ((s.past.length + 1 : Nat) : Int) log).j.l, (judgeJ s.tree s.next ((s.past.length + 1 : Nat) : Int) log).j.next, pastTo s c (judgeJ s.tree s.next ((s.past.length + 1 : Nat) : Int) log).done (judgeJ s.tree s.next ((s.past.length + 1 : Nat) : Int) log).done.length⟩ := by
    unfold takeS pastTo; rw [List.take_length]
  rw [hT]
  clear hT
  unfold srvRow at hv hso ⊢
  generalize judgeJ s.tree s.next ((s.past.length + 1 : Nat) : Int) log = g at *
  have hsu := fun i => @pastTo_succ s c g.done i
  have hle := fun i => @pastTo_len s c g.done i
  have hz : pastTo s c g.done 0 = s.past := by simp [pastTo]
  generalize pastTo s c g.done = P at *
  refine fn_of_cwW tabOK (Go.Proofs.Try.func64) rfl (fun C => ?_)
  simp only [Go.Proofs.Try.ntmps64, Go.Proofs.Try.results64, go_sem]
  refine cw_go tabOK 99 (by simp only [go_sem]; try exact rfl) (by simp [go_sem]) ?_
  refine cw_freeze 3 rfl (rfl) ?_
  simp only [go_sem]
  refine cw_draw mixed ?_
  refine seg_start rfl ?_
  refine seg_runN tabOK 5 (by simp only [go_sem]; exact rfl) (by simp only [go_sem]; exact rfl) (by simp only [go_sem]; try exact rfl) (by simp [go_sem]) (by simp only [go_sem]; exact rfl) ?_
  refine seg_call rfl rfl (by simp only [go_sem]; try exact rfl) (by simp [go_sem]) ⟨_, Go.Proofs.Try.func119, by kernel_rfl, rfl⟩ (by simp [go_sem]) (hv) (by simp [go_sem]) (by simp only [go_sem]; exact rfl) (by simp only [go_sem]; exact rfl) ?_
  refine seg_runN tabOK 1 (by simp only [go_sem]; exact rfl) (by simp only [go_sem]; exact rfl) (by simp only [go_sem]; try exact rfl) (by simp [go_sem]) (by simp only [go_sem]; exact rfl) ?_
  refine seg_call rfl rfl (by simp only [go_sem]; try exact rfl) (by simp [go_sem]) ⟨_, Go.Proofs.Try.func121, by kernel_rfl, rfl⟩ (by simp [go_sem]) (hj) (by simp [go_sem]) (by simp only [go_sem]; exact rfl) (by simp only [go_sem]; exact rfl) ?_
  refine seg_run tabOK (by simp only [go_sem]; try exact rfl) (by simp [go_sem]) (by simp only [go_sem]; exact rfl) ?_
  refine seg_end (by kernel_rfl) (by simp only [go_sem]; exact rfl) ?_
  refine draw_close (by kernel_rfl) ?_
  try simp only [go_sem, List.getElem_toArray, List.getElem_cons_succ, List.getElem_cons_zero]
  refine cw_go tabOK 99 (by simp only [go_sem]; try exact rfl) (by simp [go_sem]) ?_
  refine cw_callG [] 18 rfl rfl (by simp only [go_sem]; try exact rfl) (by simp [go_sem]) ⟨_, Go.Proofs.Try.func120, by kernel_rfl, rfl⟩ (by simp only [go_sem, Bool.false_or, Bool.or_true, Bool.true_or, if_true]; try exact rfl) (hso) (by simp [go_sem]) (by simp [go_sem]) (by simp [go_sem]) (by simp only [go_sem]) (by simp [go_sem]) (by simp only [go_sem, Bool.false_or, Bool.or_true, Bool.true_or, Bool.or_false, ↓reduceIte]; exact rfl) ?_
  refine cw_go tabOK 99 (by simp only [go_sem]; try exact rfl) (by simp [go_sem]) ?_
  refine cw_loopS (fun i : Nat => i ≤ g.done.length) (fun i => g.done.length - i) (fun i => [(14, .any), (29, .any), (36, .int .i64 i), (37, .any), (38, .any), (39, .any), (40, .any), (41, .any), (42, .any), (43, .any), (44, .any), (45, .any), (46, .any), (47, .any), (48, .any)])
    (fun i => [(12, .cells 97 3 [[.sl (g.j.l.map nodeRow), .int .i64 g.j.next, .osl 46 8 0 (P i).length]]), (46, .cells 158 8 ((P i).map pastRow))]) 0 (by omega) ?_ fun i hi => ?_
  · rw [hz]
    simp only [go_sem]
    exact le_sub (by simp [go_sem]) (by simp [go_sem]) (by simp [go_sem])
  simp only [go_sem]
  refine cw_go tabOK 99 (by simp only [go_sem]; try exact rfl) (by simp [go_sem]) ?_
  refine cw_cond (by simp only [go_sem]; try exact rfl) trivial (fun h => ?_) (fun h => ?_)
  · have hlt : i < g.done.length := by simp at h; omega
    have hg : (g.done.map actRow).getD i [] = actRow (g.done.getD i default) := Fam.getD hlt
    have hs1 := hsu i hlt
    have hl1 := hle i (by omega)
    have how' : IntKind.i64.wrap ((i : Int) + 1) = ((i + 1 : Nat) : Int) := by rw [Eng.wrap_small (by omega) (by omega)]; rfl
    generalize g.done.getD i default = a at *
    generalize P i = Q at *
    refine cw_goR 99 (by simp only [go_sem]; try exact rfl) ?_
    refine cw_runN tabOK 4 (by simp only [go_sem]; exact rfl) (by simp only [go_sem]; exact rfl) (by simp only [go_sem, hg, actRow]; try exact rfl) ?_ ?_
    · simp [hg, actRow, hlt]
    refine cw_goR 99 (by simp only [go_sem]; try exact rfl) ?_
    refine cw_runN tabOK 6 (by simp only [go_sem]; exact rfl) (by simp only [go_sem]; exact rfl) (by simp only [go_sem]; try exact rfl) (by simp [go_sem]) ?_
    refine cw_le (le_killB 46 12 (by simp only [go_sem]; exact rfl) (by simp only [go_sem, kill]; exact rfl)) ?_
    refine cw_go tabOK 99 (by simp only [go_sem, how']; try exact rfl) ?_ ?_
    · simp [rowsOf, pastRow]; omega
    refine cw_back ⟨i + 1, by omega, by omega, le_sub ?_ ?_ ?_⟩
    · simp [go_sem]
    · simp [go_sem, hs1, pastRow, List.take_length]
    · simp [go_sem]
  · have e : i = g.done.length := by simp at h; omega
    subst e
    refine cw_go tabOK 99 (by simp only [go_sem]; try exact rfl) (by simp [go_sem]) ?_
    refine cw_freeze 46 rfl (pastRow_pure _) ?_
    simp only [go_sem]
    refine cw_ret ⟨_, _, (by simp only [go_sem]; try exact rfl), by simp [go_sem], _, .inr (.inl rfl), ?_⟩
    simp
end La

namespace La
open Go Go.Eng Go.Proofs
set_option maxRecDepth 10000
set_option linter.unusedSimpArgs false
set_option linter.unusedVariables false

/-- a record as if its maker had seen what is there now -/
def freshR (t : List Node) (r : Rec) : Rec := match findN t r.act.fid with
  | none => r
  | some n => if r.version ≥ 0 then { r with version := n.version } else r
def freshTo (t : List Node) (l : List Rec) (i : Nat) : List Rec := (l.take i).map (freshR t) ++ l.drop i
theorem freshTo_len (t : List Node) (l : List Rec) {i : Nat} (h : i ≤ l.length) : (freshTo t l i).length = l.length := by unfold freshTo; simp; omega
theorem freshTo_at (t : List Node) {l : List Rec} {i : Nat} (h : i < l.length) : (freshTo t l i).getD i default = l.getD i default := by
  unfold freshTo
  rw [List.getD_eq_getElem?_getD, List.getElem?_append_right (by simp; omega), List.getD_eq_getElem?_getD]
  simp
  rw [show min i l.length = i by omega, Nat.sub_self, Nat.add_zero]
theorem freshTo_succ (t : List Node) {l : List Rec} {i : Nat} (h : i < l.length) : freshTo t l (i + 1) = (freshTo t l i).set i (freshR t (l.getD i default)) := by
  unfold freshTo
  rw [take_succ_getD h, drop_getD h, List.map_append, List.append_assoc]
  have hl : ((l.take i).map (freshR t)).length = i := by simp; omega
  rw [List.set_append_right _ _ (by omega), hl, Nat.sub_self]
  rfl
theorem freshTo_same {t : List Node} {l : List Rec} {i : Nat} (h : i < l.length) (hs : freshR t (l.getD i default) = l.getD i default) : freshTo t l (i + 1) = freshTo t l i := by
  rw [freshTo_succ t h, hs]
  refine List.ext_getElem? fun j => ?_
  rw [List.getElem?_set]
  split
  · rename_i e; subst e
    have := freshTo_at t h
    rw [List.getD_eq_getElem?_getD] at this
    have hl := freshTo_len t l (i := i) (by omega)
    rw [if_pos (by omega)]
    rw [List.getElem?_eq_getElem (by omega)] at this ⊢
    simp only [Option.getD_some] at this
    rw [this]
  · rfl

set_option maxHeartbeats 2000000 in
theorem rfresh_ok (l : List Rec) (t : List Node) (hl : SmallL l) (hlen : l.length ≤ 80000000) (ht : Small t) : FnOK Try.prog 113 [.sl (l.map recRow), .sl (t.map nodeRow)] []
    (fun r _ => r = .sl ((l.map (freshR t)).map recRow)) := by
  have how := logs_ownH l hl
  have hz : freshTo t l 0 = l := by simp [freshTo]
  have hn : freshTo t l l.length = l.map (freshR t) := by unfold freshTo; rw [List.take_length, List.drop_length, List.append_nil]
  rw [← hn]
  refine fn_of_cwW tabOK (Go.Proofs.Try.func113) rfl (fun C => ?_)
  simp only [Go.Proofs.Try.ntmps113, Go.Proofs.Try.results113, go_sem]
  refine cw_go tabOK 99 (by simp only [go_sem]; try exact rfl) (by simp [go_sem]) ?_
  refine cw_callG [] 1000 rfl rfl (by simp only [go_sem]; try exact rfl) (by simp [go_sem]) ⟨_, Go.Proofs.Try.func19, by kernel_rfl, rfl⟩ (by simp only [go_sem, Bool.false_or, Bool.or_true, Bool.true_or, if_true]; try exact rfl) (how) (by simp [go_sem]) (by simp [go_sem]) (by simp [go_sem]) (by simp only [go_sem]) (by simp [go_sem]) (by simp only [go_sem, Bool.false_or, Bool.or_true, Bool.true_or, Bool.or_false, ↓reduceIte]; exact rfl) ?_
  refine cw_go tabOK 99 (by simp only [go_sem]; try exact rfl) (by simp [go_sem]) ?_
  refine cw_loopS (fun i : Nat => i ≤ l.length) (fun i => l.length - i) (fun i => [(6, .any), (7, .any), (8, .any), (9, .any), (14, .int .i64 i), (15, .any), (16, .any), (17, .any), (18, .any), (19, .any), (20, .any), (21, .any), (22, .any), (23, .any), (24, .any), (25, .any), (26, .any), (27, .any), (28, .any), (29, .any), (30, .any), (31, .any), (32, .any), (33, .any), (34, .any), (35, .any), (36, .any), (37, .any), (38, .any), (39, .any), (40, .any), (41, .any), (42, .any), (43, .any)]) (fun i => [(1019, .cells 27 9 ((freshTo t l i).map recRow))]) 0 (by omega) ?_ fun i hi => ?_
  · rw [hz]
    simp only [go_sem]
    exact le_sub (by simp [go_sem]) (by simp [go_sem]) (by simp [go_sem])
  simp only [go_sem]
  refine cw_go tabOK 99 (by simp only [go_sem]; try exact rfl) (by simp [go_sem]) ?_
  refine cw_cond (by simp only [go_sem]; try exact rfl) trivial (fun h => ?_) (fun h => ?_)
  · have hlt : i < l.length := by simp at h; omega
    have hfl := freshTo_len t l hi
    have hg : ((freshTo t l i).map recRow).getD i [] = recRow (l.getD i default) := by rw [Fam.getD (by omega), freshTo_at t hlt]
    have hwi : IntKind.i64.wrap ((i : Int) + 1) = ((i + 1 : Nat) : Int) := by rw [Eng.wrap_small (by omega) (by omega)]; rfl
    have hsu := freshTo_succ t hlt
    have hsa := freshTo_same (t := t) hlt
    have hfd := find_ok t (l.getD i default).act.fid ht
    generalize l.getD i default = r at *
    refine cw_go tabOK 99 (by simp only [go_sem, hg, recRow]; try exact rfl) ?_ ?_
    · simp [hg, recRow, hlt, hfl]
    refine cw_call rfl rfl (by simp only [go_sem]; try exact rfl) (by simp [go_sem]) ⟨_, Go.Proofs.Try.func33, by kernel_rfl, rfl⟩ (by simp [go_sem]) (hfd) (by simp [go_sem]) (by simp only [go_sem]; exact rfl) ?_
    simp only [go_sem, findR]
    rw [isAt_eq]
    unfold freshR at hsu hsa
    cases hfn : findN t r.act.fid with
    | none =>
      rw [hfn] at hsa hsu
      simp only at hsa hsu
      have hsa := hsa trivial
      simp only [Option.getD_none, Option.isSome_none]
      refine cw_go tabOK 99 (by simp only [go_sem, hg, recRow, zeroN, nodeRow]; try exact rfl) ?_ ?_
      · simp [zeroN, nodeRow]
      refine cw_condF (by simp only [go_sem]; try exact rfl) trivial (by simp) ?_
      refine cw_go tabOK 99 (by simp only [go_sem, hwi]; try exact rfl) (by simp [go_sem, hwi]) ?_
      refine cw_back ⟨i + 1, by omega, by omega, le_sub ?_ ?_ ?_⟩
      · simp [go_sem]
      · simp [go_sem, hsa]
      · simp [go_sem]
    | some n =>
      rw [hfn] at hsa hsu
      simp only at hsa hsu
      simp only [Option.getD_some, Option.isSome_some]
      refine cw_go tabOK 99 (by simp only [go_sem, hg, recRow, nodeRow]; try exact rfl) ?_ ?_
      · simp [hg, recRow, nodeRow, hfl, hlt]
      by_cases hv : r.version ≥ 0
      · rw [if_pos hv] at hsu
        have hset := set_map recRow (freshTo t l i) i { r with version := n.version }
        rw [← hsu] at hset
        simp only [recRow] at hset
        refine cw_condT (by simp only [go_sem]; try exact rfl) trivial (by simp [hv]) ?_
        refine cw_go tabOK 99 (by simp only [go_sem, hwi, hg, recRow, nodeRow]; try exact rfl) ?_ ?_
        · simp [hg, recRow, nodeRow, hfl, hlt]
        refine cw_back ⟨i + 1, by omega, by omega, le_sub ?_ ?_ ?_⟩
        · simp [go_sem]
        · simp [go_sem, hg, recRow, hset, -List.map_set]
        · simp [go_sem]
      · rw [if_neg hv] at hsa
        have hsa := hsa rfl
        refine cw_condF (by simp only [go_sem]; try exact rfl) trivial (by simp at hv; simp [hv]) ?_
        refine cw_go tabOK 99 (by simp only [go_sem, hwi]; try exact rfl) (by simp [go_sem, hwi]) ?_
        refine cw_back ⟨i + 1, by omega, by omega, le_sub ?_ ?_ ?_⟩
        · simp [go_sem]
        · simp [go_sem, hsa]
        · simp [go_sem]
  · have e : i = l.length := by simp at h; omega
    subst e
    refine cw_go tabOK 99 (by simp only [go_sem]; try exact rfl) (by simp [go_sem]) ?_
    refine cw_freeze 1019 rfl (recRow_pure _) ?_
    simp only [go_sem]
    have hfl := freshTo_len t l (Nat.le_refl l.length)
    have htk : ((freshTo t l l.length).map recRow).take l.length = (freshTo t l l.length).map recRow := List.take_of_length_le (by simp [hfl])
    refine cw_ret ⟨_, _, (by simp only [go_sem]; try exact rfl), by simp [go_sem], _, .inr (.inl rfl), ?_⟩
    rw [if_pos (by omega), htk]

theorem freshR_fit {t : List Node} {r : Rec} (h : ActFit r.act) : ActFit (freshR t r).act := by
  unfold freshR
  split
  · exact h
  · split <;> exact h
theorem freshR_small {t : List Node} {r : Rec} (h : r.act.Small) : (freshR t r).act.Small := by
  unfold freshR
  split
  · exact h
  · split <;> exact h
theorem freshL_small {t : List Node} {l : List Rec} (h : SmallL l) : SmallL (l.map (freshR t)) := ⟨by rw [List.length_map]; exact h.len, fun r hr => by
  obtain ⟨q, hq, rfl⟩ := List.mem_map.1 hr
  exact freshR_small (h.each q hq)⟩

set_option maxHeartbeats 2000000 in
theorem force_ok (s : Srv) (h : SrvOK 40000000 s) (c : Int) (l : List Rec) (hl : SmallL l) (hl2 : l.length ≤ 2000000) (hfit : ∀ r, r ∈ l → ActFit r.act) :
    FnOK Try.prog 114 [.agg (srvRow s), .int .i64 c, .sl (l.map recRow)] []
      (fun r _ => r = .tup [.agg (srvRow (takeS s c (l.map (freshR s.tree)))), .sl ((judgeJ s.tree s.next ((s.past.length + 1 : Nat) : Int) (l.map (freshR s.tree))).vs.map verdictRow)]) := by
  have hfr := rfresh_ok l s.tree hl (by omega) h.hist.good.small
  have htk := take_ok s h c (l.map (freshR s.tree)) (freshL_small hl) (by rw [List.length_map]; exact hl2) (fun r hr => by
    obtain ⟨q, hq, rfl⟩ := List.mem_map.1 hr
    exact freshR_fit (hfit q hq))
  generalize takeS s c (l.map (freshR s.tree)) = q at *
  generalize judgeJ s.tree s.next ((s.past.length + 1 : Nat) : Int) (l.map (freshR s.tree)) = g at *
  generalize l.map (freshR s.tree) = l2 at *
  unfold srvRow at htk ⊢
  refine fn_of_cwW tabOK (Go.Proofs.Try.func114) rfl (fun C => ?_)
  simp only [Go.Proofs.Try.ntmps114, Go.Proofs.Try.results114, go_sem]
  refine cw_go tabOK 99 (by simp only [go_sem]; try exact rfl) (by simp [go_sem]) ?_
  refine cw_freeze 3 rfl (rfl) ?_
  simp only [go_sem]
  refine cw_draw mixed ?_
  refine seg_start rfl ?_
  refine seg_runN tabOK 5 (by simp only [go_sem]; exact rfl) (by simp only [go_sem]; exact rfl) (by simp only [go_sem]; try exact rfl) (by simp [go_sem]) (by simp only [go_sem]; exact rfl) ?_
  refine seg_call rfl rfl (by simp only [go_sem]; try exact rfl) (by simp [go_sem]) ⟨_, Go.Proofs.Try.func113, by kernel_rfl, rfl⟩ (by simp [go_sem]) (hfr) (by simp [go_sem]) (by simp only [go_sem]; exact rfl) (by simp only [go_sem]; exact rfl) ?_
  refine seg_call rfl rfl (by simp only [go_sem]; try exact rfl) (by simp [go_sem]) ⟨_, Go.Proofs.Try.func64, by kernel_rfl, rfl⟩ (by simp [go_sem]) (htk) (by simp [go_sem]) (by simp only [go_sem]; exact rfl) (by simp only [go_sem]; exact rfl) ?_
  refine seg_runN tabOK 2 (by simp only [go_sem]; exact rfl) (by simp only [go_sem]; exact rfl) (by simp only [go_sem]; try exact rfl) (by simp [go_sem]) (by simp only [go_sem]; exact rfl) ?_
  refine seg_store tabOK rfl rfl (by simp only [go_sem]; try exact rfl) (by simp only [go_sem]; try exact rfl) (by simp only [go_sem]; try exact rfl) (by first | trivial | simp [go_sem]) (by simp only [go_sem]; exact rfl) (by simp [go_sem]) (by simp only [go_sem]; exact rfl) (by simp only [go_sem]; exact rfl) (by simp only [go_sem]; exact rfl) ?_
  refine seg_runN tabOK 1 (by simp only [go_sem]; exact rfl) (by simp only [go_sem]; exact rfl) (by simp only [go_sem]; try exact rfl) (by simp [go_sem]) (by simp only [go_sem]; exact rfl) ?_
  refine seg_end (by kernel_rfl) (by simp only [go_sem]; exact rfl) ?_
  refine draw_close (by kernel_rfl) ?_
  try simp only [go_sem, List.getElem_toArray, List.getElem_cons_succ, List.getElem_cons_zero]
  refine cw_go tabOK 99 (by simp only [go_sem]; try exact rfl) (by simp [go_sem]) ?_
  refine cw_ret ⟨_, _, (by simp only [go_sem]; try exact rfl), by simp [go_sem], _, .inr (.inl rfl), ?_⟩
  rfl
end La

namespace La
open Go Go.Eng Go.Proofs
set_option maxRecDepth 10000
set_option linter.unusedSimpArgs false
set_option linter.unusedVariables false

set_option maxHeartbeats 1000000 in
theorem all_good (l : List Node) (al : List Act) (v : Int) (st : Nat → List Node) (hl : Small l) (hlen : al.length ≤ 100000000) (h0 : st 0 = l)
    (hs : ∀ i, i < al.length → FitA (st i) (al.getD i default) ∧ (al.getD i default).kind ≠ 5 ∧ applyE (st i) (al.getD i default) = 0 ∧ st (i + 1) = applyL (st i) (al.getD i default) v) :
    FnOK Try.prog 98 [.sl (l.map nodeRow), .sl (al.map actRow), .int .i64 v] [] (fun r _ => r = .tup [.sl ((st al.length).map nodeRow), .int .i64 al.length, .int .i64 0]) := by
  refine fn_of_cwW tabOK (Go.Proofs.Try.func98) rfl (fun C => ?_)
  simp only [Go.Proofs.Try.ntmps98, Go.Proofs.Try.results98, go_sem]
  refine cw_go tabOK 99 (by simp only [go_sem]; try exact rfl) (by simp [go_sem]) ?_
  refine cw_call rfl rfl (by simp only [go_sem]; try exact rfl) (by simp [go_sem]) ⟨_, Go.Proofs.Try.func86, by kernel_rfl, rfl⟩ (by simp [go_sem]) (own_ok l hl) (by simp [go_sem]) (by simp only [go_sem]; exact rfl) ?_
  refine cw_go tabOK 99 (by simp only [go_sem]; try exact rfl) (by simp [go_sem]) ?_
  rw [← h0]
  refine cw_loopS (fun i : Nat => i ≤ al.length) (fun i => al.length - i) (fun i => [(9, .sl ((st i).map nodeRow)), (10, .any), (11, .any), (12, .any), (13, .any), (18, .int .i64 i), (19, .any), (20, .any), (21, .any), (22, .any), (23, .any), (24, .any), (25, .any), (26, .any), (27, .any), (28, .any), (29, .any), (30, .any), (31, .any), (32, .any), (33, .any), (34, .any), (35, .any)]) (fun _ => []) 0 (by omega) ?_ fun i hi => ?_
  · simp only [go_sem]
    exact le_sub (by simp [go_sem]) (by simp [go_sem]) (by simp [go_sem])
  simp only [go_sem]
  refine cw_go tabOK 99 (by simp only [go_sem]; try exact rfl) (by simp [go_sem]) ?_
  refine cw_cond (by simp only [go_sem]; try exact rfl) trivial (fun h => ?_) (fun h => ?_)
  · have hlt : i < al.length := by simp at h; omega
    have hg : (al.map actRow).getD i [] = actRow (al.getD i default) := Fam.getD hlt
    have hw : IntKind.i64.wrap ((i : Int) + 1) = ((i + 1 : Nat) : Int) := by rw [Eng.wrap_small (by omega) (by omega)]; rfl
    obtain ⟨h1, h2, h3, h4⟩ := hs i hlt
    have hap := apply_ok (st i) (al.getD i default) v h1 (fun h => absurd h h2)
    unfold applyR at hap
    rw [if_pos h3, ← h4] at hap
    generalize al.getD i default = a at hg hap
    refine cw_go tabOK 99 (by simp only [go_sem, hg, actRow]; try exact rfl) ?_ ?_
    · simp [hg, hlt, actRow]
    refine cw_call rfl rfl (by simp only [go_sem]; try exact rfl) (by simp [go_sem]) ⟨_, Go.Proofs.Try.func40, by kernel_rfl, rfl⟩ (by simp [go_sem]) (hap) (by simp [go_sem]) (by simp only [go_sem]; exact rfl) ?_
    refine cw_go tabOK 99 (by simp only [go_sem]; try exact rfl) (by simp [go_sem]) ?_
    refine cw_cond (by simp only [go_sem]; try exact rfl) trivial (fun h => ?_) (fun h => ?_)
    · cases h
    refine cw_go tabOK 99 (by simp only [go_sem, hw]; try exact rfl) (by simp [go_sem, hw]) ?_
    refine cw_back ⟨i + 1, by omega, by omega, le_sub ?_ ?_ ?_⟩
    · simp [go_sem]
    · simp [go_sem]
    · simp [go_sem]
  · have e : i = al.length := by simp at h; omega
    subst e
    refine cw_go tabOK 99 (by simp only [go_sem]; try exact rfl) (by simp [go_sem]) ?_
    refine cw_ret ⟨_, _, (by simp only [go_sem]; try exact rfl), by simp [go_sem], _, .inr (.inl rfl), ?_⟩
    rfl

def a3M : Act := ⟨1, 1, 0, [97], 0, [], []⟩
def a3S : Act := ⟨3, 1, 0, [], 0, [], [113]⟩
theorem a3fit (l : List Node) (a : Act) (h : l.length ≤ 1000) (h2 : ∀ n, n ∈ l → n.data.length ≤ 1000 ∧ n.entries.length ≤ 1000) (h3 : a.name.length ≤ 1000) (h4 : a.toName.length ≤ 1000) (h5 : a.data.length ≤ 1000) : FitA l a :=
  ⟨smallC_of l h h2, by omega, fun n hn => by have := (h2 n hn).2; omega, by omega, by omega, by omega⟩
theorem a3p1 : FnOK Try.prog 40 [.sl ([rootN].map nodeRow), .agg (actRow a3M), .int .i64 4] [] (fun r _ => r = .tup [.sl ([⟨0, true, [], [⟨[97], 1⟩], 4⟩, ⟨1, false, [], [], 4⟩].map nodeRow), .int .i64 0]) :=
  apply_ok [rootN] a3M 4 (a3fit _ _ (by decide) (by decide) (by decide) (by decide) (by decide)) (fun h => absurd h (by decide))
def a3st : Nat → List Node
  | 0 => [rootN]
  | 1 => [⟨0, true, [], [⟨[97], 1⟩], 1⟩, ⟨1, false, [], [], 1⟩]
  | _ => [⟨0, true, [], [⟨[97], 1⟩], 1⟩, ⟨1, false, [113], [], 1⟩]
theorem a3p2 : FnOK Try.prog 98 [.sl ([rootN].map nodeRow), .sl ([a3M, a3S].map actRow), .int .i64 1] [] (fun r _ => r = .tup [.sl ([⟨0, true, [], [⟨[97], 1⟩], 1⟩, ⟨1, false, [113], [], 1⟩].map nodeRow), .int .i64 2, .int .i64 0]) :=
  all_good [rootN] [a3M, a3S] 1 a3st a2s0 (by decide) rfl (fun i hi => by
    have : i = 0 ∨ i = 1 := by simp at hi; omega
    rcases this with rfl | rfl
    · exact ⟨a3fit _ _ (by decide) (by decide) (by decide) (by decide) (by decide), by decide, by decide, by decide⟩
    · exact ⟨a3fit _ _ (by decide) (by decide) (by decide) (by decide) (by decide), by decide, by decide, by decide⟩)
theorem a3p3 : FnOK Try.prog 99 [.agg (actRow ⟨5, 0, 0, [], 0, [], []⟩)] [] (fun r _ => r = .sl ([0, 0, 0].map intRow)) := fids_ok ⟨5, 0, 0, [], 0, [], []⟩
theorem a3p4 : FnOK Try.prog 72 [.agg (actRow ⟨0, 0, 0, [], 0, [], [120]⟩)] [] (fun r _ => r = .agg (actRow ⟨0, 0, 0, [], 0, [], [120]⟩)) := acts_own ⟨0, 0, 0, [], 0, [], [120]⟩ (by unfold Act.Small; decide)

set_option maxHeartbeats 2000000 in
theorem alive3 : FnOK Try.prog 39 [] [] (fun r _ => r = .bool true) := by
  refine fn_of_cwW tabOK (Go.Proofs.Try.func39) rfl (fun C => ?_)
  simp only [Go.Proofs.Try.ntmps39, Go.Proofs.Try.results39, go_sem]
  refine cw_go tabOK 99 (by simp only [go_sem]; try exact rfl) (by simp [go_sem]) ?_
  refine cw_freeze 8 rfl (rfl) ?_
  simp only [go_sem]
  refine cw_call rfl rfl (by simp only [go_sem]; try exact rfl) (by simp [go_sem]) ⟨_, Go.Proofs.Try.func40, by kernel_rfl, rfl⟩ (by simp [go_sem]) (by exact FnOK.nrm rfl (a3p1)) (by simp [go_sem]) (by simp only [go_sem]; exact rfl) ?_
  refine cw_go tabOK 99 (by simp only [go_sem]; try exact rfl) (by simp [go_sem]) ?_
  refine cw_step rfl (trip_bytes tabOK rfl rfl rfl (id := 17) (n := 1) (by simp only [go_sem]; try exact rfl) (by simp only [go_sem]; exact rfl) (by decide) rfl rfl) ?_
  simp only [go_sem]
  refine cw_go tabOK 99 (by simp only [go_sem]; try exact rfl) (by simp [go_sem]) ?_
  refine cw_freeze 15 rfl (rfl) ?_
  refine cw_freeze 20 rfl (rfl) ?_
  simp only [go_sem]
  refine cw_call rfl rfl (by simp only [go_sem]; try exact rfl) (by simp [go_sem]) ⟨_, Go.Proofs.Try.func98, by kernel_rfl, rfl⟩ (by simp [go_sem]) (by exact FnOK.nrm rfl (a3p2)) (by simp [go_sem]) (by simp only [go_sem]; exact rfl) ?_
  refine cw_go tabOK 99 (by simp only [go_sem, nodeRow]; try exact rfl) ?_ ?_
  · simp [go_sem, nodeRow]
  refine cw_callC rfl (by simp only [go_sem]; try exact rfl) (by simp only [go_sem]; try exact rfl) (by simp [go_sem]) ⟨_, Go.Proofs.Try.func99, by kernel_rfl, rfl⟩ (by simp [go_sem]) (fun hb => (by exact FnOK.nrm rfl (a3p3))) (by simp [go_sem]) (by simp only [go_sem]; exact rfl) ?_
  refine cw_go tabOK 99 (by simp only [go_sem]; try exact rfl) (by simp [go_sem]) ?_
  refine cw_step (by simp only [go_sem]; try exact rfl) (trip_bytes tabOK rfl rfl rfl (id := 62) (n := 1) (by simp only [go_sem]; try exact rfl) (by simp only [go_sem]; exact rfl) (by decide) rfl rfl) ?_
  simp only [go_sem]
  refine cw_go tabOK 99 (by simp only [go_sem]; try exact rfl) (by simp [go_sem]) ?_
  refine cw_callC rfl (by simp only [go_sem]; try exact rfl) (by simp only [go_sem]; try exact rfl) (by simp [go_sem]) ⟨_, Go.Proofs.Try.func72, by kernel_rfl, rfl⟩ (by simp [go_sem]) (fun hb => (by exact FnOK.nrm rfl (a3p4))) (by simp [go_sem]) (by simp only [go_sem]; exact rfl) ?_
  refine cw_go tabOK 99 (by simp only [go_sem, actRow]; try exact rfl) ?_ ?_
  · simp [go_sem, actRow]
  refine cw_ret ⟨_, _, (by simp only [go_sem]; try exact rfl), by simp [go_sem], _, .inr (.inl rfl), ?_⟩
  rfl
end La

namespace La
open Go Go.Eng Go.Proofs
set_option maxRecDepth 10000
set_option linter.unusedSimpArgs false
set_option linter.unusedVariables false

def a7M : Act := ⟨1, 0, 0, [97], 0, [], []⟩
def a7s0 : Srv := ⟨[rootN], 1, []⟩
def a7s1 : Srv := ⟨[⟨0, true, [], [⟨[97], 1⟩], 1⟩, ⟨1, false, [], [], 1⟩], 2, [⟨2, ⟨1, 1, 0, [97], 0, [], []⟩⟩]⟩
def a7R : Rec := ⟨⟨3, 1, 0, [], 0, [], [107]⟩, 1, 0⟩
def a7t : List Node := [⟨0, true, [], [⟨[97], 1⟩], 1⟩, ⟨1, false, [107], [], 2⟩]
def a7P : List Past := [⟨2, ⟨1, 1, 0, [97], 0, [], []⟩⟩, ⟨1, ⟨3, 1, 0, [], 0, [], [107]⟩⟩]
theorem a7fit : ActFit a7M := ⟨by decide, by decide, by decide⟩
theorem a7ok0 : SrvOK 0 a7s0 := SrvOK.new
theorem a7e : doE a7s0 a7M = 0 := by decide
theorem a7d : doS a7s0 2 a7M = a7s1 := rfl
theorem a7ok1 : SrvOK 1 a7s1 := by rw [← a7d]; exact a7ok0.step 2 a7fit a7e
theorem a7p1 : FnOK Try.prog 63 [.agg (srvRow a7s0), .int .i64 2, .agg (actRow a7M)] [] (fun r _ => r = .tup [.agg (srvRow a7s1), .int .i64 0]) := by
  have := do_raw a7s0 2 a7M a7ok0.hist.good ⟨by decide, by simp [a7s0]⟩ a7fit (by decide)
  unfold doR at this
  rwa [if_pos a7e, a7d] at this
theorem a7j : judgeJ a7s1.tree a7s1.next ((a7s1.past.length + 1 : Nat) : Int) [a7R] = ⟨⟨a7t, 2, 3, [], [(1, true)], []⟩, [⟨0, 1⟩], [a7R.act]⟩ := rfl
theorem a7k : takeS a7s1 1 [a7R] = ⟨a7t, 2, a7P⟩ := rfl
theorem a7f1 : ∀ r, r ∈ [a7R] → ActFit r.act := fun r hr => by rw [List.mem_singleton.1 hr]; exact ⟨by decide, by decide, by decide⟩
theorem a7p2 : FnOK Try.prog 64 [.agg (srvRow a7s1), .int .i64 1, .sl ([a7R].map recRow)] [] (fun r _ => r = .tup [.agg (srvRow ⟨a7t, 2, a7P⟩), .sl ([(⟨0, 1⟩ : Verdict)].map verdictRow)]) := by
  have := take_ok a7s1 (a7ok1.mono (by decide)) 1 [a7R] ⟨by decide, fun r hr => by rw [List.mem_singleton.1 hr]; unfold Act.Small; decide⟩ (by decide) a7f1
  rw [a7k, a7j] at this
  exact this
theorem a7ok2 : SrvOK 2 ⟨a7t, 2, a7P⟩ := by rw [← a7k]; exact a7ok1.take 1 a7f1
theorem replay_hist {p : List Past} {t : List Node} (h : Hist p t) (hlen : p.length ≤ 90000000) : FnOK Try.prog 65 [.sl (p.map pastRow)] [] (fun r _ => r = .tup [.sl (t.map nodeRow), .int .i64 0]) := by
  obtain ⟨st, h0, h1, h2⟩ := h.st
  rw [← h1]
  exact replay_ok p st hlen h0 h2
theorem a7p3 : FnOK Try.prog 65 [.sl (a7P.map pastRow)] [] (fun r _ => r = .tup [.sl (a7t.map nodeRow), .int .i64 0]) := replay_hist a7ok2.hist (by decide)
theorem a7p4 : FnOK Try.prog 119 [.agg (srvRow ⟨a7t, 2, a7P⟩)] [] (fun r _ => r = .int .i64 3) := version_ok ⟨a7t, 2, a7P⟩ (by decide)
theorem a7p5 : FnOK Try.prog 120 [.agg (srvRow ⟨a7t, 2, a7P⟩)] [] (fun r _ => r = .agg (srvRow ⟨a7t, 2, a7P⟩)) := sown_ok ⟨a7t, 2, a7P⟩ a7ok2.hist.good.small ⟨by decide, by decide⟩
set_option maxHeartbeats 2000000 in
theorem alive7 : FnOK Try.prog 61 [] [] (fun r _ => r = .bool true) := by
  have p0 := snew_ok
  have p1 := a7p1
  have p2 := a7p2
  have p4 := a7p4
  have p5 := a7p5
  simp only [srvRow, a7s0, a7s1] at p0 p1 p2 p4 p5
  refine fn_of_cwW tabOK (Go.Proofs.Try.func61) rfl (fun C => ?_)
  simp only [Go.Proofs.Try.ntmps61, Go.Proofs.Try.results61, go_sem]
  refine cw_go tabOK 99 (by simp only [go_sem]; try exact rfl) (by simp [go_sem]) ?_
  refine cw_call rfl rfl (by simp only [go_sem]; try exact rfl) (by simp [go_sem]) ⟨_, Go.Proofs.Try.func62, by kernel_rfl, rfl⟩ (by simp [go_sem]) (p0) (by simp [go_sem]) (by simp only [go_sem]; exact rfl) ?_
  refine cw_go tabOK 99 (by simp only [go_sem]; try exact rfl) (by simp [go_sem]) ?_
  refine cw_call rfl rfl (by simp only [go_sem]; try exact rfl) (by simp [go_sem]) ⟨_, Go.Proofs.Try.func63, by kernel_rfl, rfl⟩ (by simp [go_sem]) (by exact FnOK.nrm rfl (p1)) (by simp [go_sem]) (by simp only [go_sem]; exact rfl) ?_
  refine cw_go tabOK 99 (by simp only [go_sem]; try exact rfl) (by simp [go_sem]) ?_
  refine cw_step rfl (trip_bytes tabOK rfl rfl rfl (id := 15) (n := 1) (by simp only [go_sem]; try exact rfl) (by simp only [go_sem]; exact rfl) (by decide) rfl rfl) ?_
  simp only [go_sem]
  refine cw_go tabOK 99 (by simp only [go_sem]; try exact rfl) (by simp [go_sem]) ?_
  refine cw_freeze 19 rfl (rfl) ?_
  simp only [go_sem]
  refine cw_call rfl rfl (by simp only [go_sem]; try exact rfl) (by simp [go_sem]) ⟨_, Go.Proofs.Try.func64, by kernel_rfl, rfl⟩ (by simp [go_sem]) (by exact FnOK.nrm rfl (p2)) (by simp [go_sem]) (by simp only [go_sem]; exact rfl) ?_
  refine cw_go tabOK 99 (by simp only [go_sem]; try exact rfl) (by simp [go_sem]) ?_
  refine cw_call rfl rfl (by simp only [go_sem]; try exact rfl) (by simp [go_sem]) ⟨_, Go.Proofs.Try.func65, by kernel_rfl, rfl⟩ (by simp [go_sem]) (a7p3) (by simp [go_sem]) (by simp only [go_sem]; exact rfl) ?_
  refine cw_go tabOK 99 (by simp only [go_sem, pastRow, verdictRow]; try exact rfl) ?_ ?_
  · simp [go_sem, pastRow, verdictRow]
  refine cw_callC rfl (by simp only [go_sem]; try exact rfl) (by simp only [go_sem]; try exact rfl) (by simp [go_sem]) ⟨_, Go.Proofs.Try.func119, by kernel_rfl, rfl⟩ (by simp [go_sem]) (fun hb => (p4)) (by simp [go_sem]) (by simp only [go_sem]; exact rfl) ?_
  refine cw_go tabOK 99 (by simp only [go_sem, nodeRow, a7t]; try exact rfl) ?_ ?_
  · simp [go_sem, nodeRow, a7t]
  refine cw_callC rfl (by simp only [go_sem]; try exact rfl) (by simp only [go_sem]; try exact rfl) (by simp [go_sem]) ⟨_, Go.Proofs.Try.func120, by kernel_rfl, rfl⟩ (by simp [go_sem]) (fun hb => (p5)) (by simp [go_sem]) (by simp only [go_sem]; exact rfl) ?_
  refine cw_go tabOK 99 (by simp only [go_sem]; try exact rfl) (by simp [go_sem]) ?_
  refine cw_ret ⟨_, _, (by simp only [go_sem]; try exact rfl), by simp [go_sem], _, .inr (.inl rfl), ?_⟩
  rfl
end La

namespace La
open Go Go.Eng Go.Proofs
set_option maxRecDepth 10000
set_option linter.unusedSimpArgs false
set_option linter.unusedVariables false

def b1 : Rec := ⟨⟨2, -1, 0, [100], 0, [], []⟩, 0, 0⟩
def b2 : Rec := ⟨⟨1, -2, -1, [102], 0, [], []⟩, 0, 0⟩
def b3 : Rec := ⟨⟨3, 7, 0, [], 0, [], []⟩, 3, 0⟩
def b4 : Rec := ⟨⟨3, 7, 0, [], 0, [], []⟩, 9, 0⟩
theorem bsm {l : List Rec} (h : l.length ≤ 100) (h2 : ∀ r, r ∈ l → r.act.data.length ≤ 100) : SmallL l := ⟨by omega, fun r hr => by unfold Act.Small; have := h2 r hr; omega⟩
theorem bp1 : FnOK Try.prog 57 [.sl ([b1, b2, b3].map recRow), .int .i64 0] [] (fun r _ => r = .tup [.sl ([b3].map recRow), .int .i64 0]) :=
  drop_raw [b1, b2, b3] 0 (by decide) (bsm (by decide) (by decide)) (by decide)
theorem bp2 : FnOK Try.prog 113 [.sl ([b1, b2, b3].map recRow), .sl ([(⟨7, false, [], [], 9⟩ : Node)].map nodeRow)] [] (fun r _ => r = .sl ([b1, b2, b4].map recRow)) :=
  rfresh_ok [b1, b2, b3] [⟨7, false, [], [], 9⟩] (bsm (by decide) (by decide)) (by decide) ⟨by decide, fun n hn => by rw [List.mem_singleton.1 hn]; exact ⟨by decide, by decide⟩⟩
def bT : List Node := [⟨0, true, [], [⟨[100], 1⟩], 1⟩, ⟨1, true, [], [⟨[102], 2⟩], 2⟩, ⟨2, false, [], [], 2⟩]
def bS : Srv := ⟨bT, 3, [⟨1, ⟨2, 1, 0, [100], 0, [], []⟩⟩, ⟨1, ⟨1, 2, 1, [102], 0, [], []⟩⟩]⟩
theorem bk : takeS ⟨[rootN], 1, []⟩ 1 ([b1, b2].map (freshR [rootN])) = bS := rfl
theorem bj : (judgeJ [rootN] 1 ((0 + 1 : Nat) : Int) ([b1, b2].map (freshR [rootN]))).vs = [⟨0, 1⟩, ⟨0, 2⟩] := rfl
theorem bp3 : FnOK Try.prog 114 [.agg (srvRow ⟨[rootN], 1, []⟩), .int .i64 1, .sl ([b1, b2].map recRow)] [] (fun r _ => r = .tup [.agg (srvRow bS), .sl ([(⟨0, 1⟩ : Verdict), ⟨0, 2⟩].map verdictRow)]) := by
  have := force_ok ⟨[rootN], 1, []⟩ (SrvOK.new.mono (by decide)) 1 [b1, b2] (bsm (by decide) (by decide)) (by decide) (fun r hr => by
    rcases List.mem_cons.1 hr with rfl | hr
    · exact ⟨by decide, by decide, by decide⟩
    · rw [List.mem_singleton.1 hr]; exact ⟨by decide, by decide, by decide⟩)
  rw [bk] at this
  exact this
theorem newServer_raw : FnOK Try.prog 115 [] [] (fun r _ => r = .agg [.sl [[.int .i64 0, .bool true, .nils, .nils, .int .i64 0]], .int .i64 1, .nils]) := by
  refine fn_of_cwW tabOK (Go.Proofs.Try.func115) rfl (fun C => ?_)
  simp only [Go.Proofs.Try.ntmps115, Go.Proofs.Try.results115, go_sem]
  refine cw_go tabOK 99 (by simp only [go_sem]; try exact rfl) (by simp [go_sem]) ?_
  refine cw_freeze 2 rfl (rfl) ?_
  simp only [go_sem]
  refine cw_ret ⟨_, _, (by simp only [go_sem]; try exact rfl), by simp [go_sem], _, .inr (.inl rfl), ?_⟩
  rfl
theorem newServer_ok : FnOK Try.prog 115 [] [] (fun r _ => r = .agg (srvRow ⟨[rootN], 1, []⟩)) := FnOK.nrmR newServer_raw rfl
theorem bp5 : FnOK Try.prog 58 [.sl ([b1, b2, b3].map recRow), .int .i64 0] [] (fun r _ => r = .sl ([1].map intRow)) := rests_read [b1, b2, b3] 0 (by decide) (by decide)

set_option maxHeartbeats 2000000 in
theorem alive11 : FnOK Try.prog 56 [] [] (fun r _ => r = .bool true) := by
  have p3 := bp3
  have p4 := newServer_ok
  simp only [srvRow, bS] at p3 p4
  refine fn_of_cwW tabOK (Go.Proofs.Try.func56) rfl (fun C => ?_)
  simp only [Go.Proofs.Try.ntmps56, Go.Proofs.Try.results56, go_sem]
  refine cw_go tabOK 99 (by simp only [go_sem]; try exact rfl) (by simp [go_sem]) ?_
  refine cw_freeze 13 rfl (rfl) ?_
  simp only [go_sem]
  refine cw_call rfl rfl (by simp only [go_sem]; try exact rfl) (by simp [go_sem]) ⟨_, Go.Proofs.Try.func57, by kernel_rfl, rfl⟩ (by simp [go_sem]) (by exact FnOK.nrm rfl (bp1)) (by simp [go_sem]) (by simp only [go_sem]; exact rfl) ?_
  refine cw_go tabOK 99 (by simp only [go_sem]; try exact rfl) (by simp [go_sem]) ?_
  refine cw_freeze 21 rfl (rfl) ?_
  simp only [go_sem]
  refine cw_call rfl rfl (by simp only [go_sem]; try exact rfl) (by simp [go_sem]) ⟨_, Go.Proofs.Try.func113, by kernel_rfl, rfl⟩ (by simp [go_sem]) (by exact FnOK.nrm rfl (bp2)) (by simp [go_sem]) (by simp only [go_sem]; exact rfl) ?_
  refine cw_go tabOK 99 (by simp only [go_sem]; try exact rfl) (by simp [go_sem]) ?_
  refine cw_draw mixed ?_
  refine seg_start rfl ?_
  refine seg_call rfl rfl (by simp only [go_sem]; try exact rfl) (by simp [go_sem]) ⟨_, Go.Proofs.Try.func115, by kernel_rfl, rfl⟩ (by simp [go_sem]) (p4) (by simp [go_sem]) (by simp only [go_sem]; exact rfl) (by simp only [go_sem]; exact rfl) ?_
  refine seg_runN tabOK 2 (by simp only [go_sem]; exact rfl) (by simp only [go_sem]; exact rfl) (by simp only [go_sem]; try exact rfl) (by simp [go_sem]) (by simp only [go_sem]; exact rfl) ?_
  refine seg_call rfl rfl (by simp only [go_sem]; try exact rfl) (by simp [go_sem]) ⟨_, Go.Proofs.Try.func114, by kernel_rfl, rfl⟩ (by simp [go_sem]) (by exact FnOK.nrm rfl (p3)) (by simp [go_sem]) (by simp only [go_sem]; exact rfl) (by simp only [go_sem]; exact rfl) ?_
  refine seg_runN tabOK 3 (by simp only [go_sem]; exact rfl) (by simp only [go_sem]; exact rfl) (by simp only [go_sem]; try exact rfl) (by simp [go_sem]) (by simp only [go_sem]; exact rfl) ?_
  refine seg_new tabOK rfl (by simp only [go_sem]; try exact rfl) (by simp only [go_sem]; try exact rfl) (by simp [go_sem]) (by simp only [go_sem]; try exact rfl) (by simp only [go_sem]; exact rfl) (by simp only [go_sem]; exact rfl) ?_
  simp only [go_sem]
  refine seg_store tabOK rfl rfl (by simp only [go_sem]; try exact rfl) (by simp only [go_sem]; try exact rfl) (by simp only [go_sem]; try exact rfl) (by first | trivial | simp [go_sem]) (by simp only [go_sem]; exact rfl) (by simp [go_sem]) (by simp only [go_sem]; exact rfl) (by simp only [go_sem]; exact rfl) (by simp only [go_sem]; exact rfl) ?_
  refine seg_end (by kernel_rfl) (by simp only [go_sem]; exact rfl) ?_
  refine draw_step tabOK rfl (by kernel_rfl) rfl (by simp only [go_sem]; try exact rfl) (by simp [go_sem]) rfl ?_
  refine draw_close (by kernel_rfl) ?_
  try simp only [go_sem, List.getElem_toArray, List.getElem_cons_succ, List.getElem_cons_zero]
  refine cw_go tabOK 99 (by simp only [go_sem]; try exact rfl) (by simp [go_sem]) ?_
  refine cw_callC rfl (by simp only [go_sem]; try exact rfl) (by simp only [go_sem]; try exact rfl) (by simp [go_sem]) ⟨_, Go.Proofs.Try.func58, by kernel_rfl, rfl⟩ (by simp [go_sem]) (fun hb => (by exact FnOK.nrm rfl (bp5))) (by simp [go_sem]) (by simp only [go_sem]; exact rfl) ?_
  refine cw_go tabOK 99 (by simp only [go_sem, recRow, b4, verdictRow]; try exact rfl) ?_ ?_
  · simp [go_sem, recRow, b4, verdictRow]
  refine cw_ret ⟨_, _, (by simp only [go_sem]; try exact rfl), by simp [go_sem], _, .inr (.inl rfl), ?_⟩
  rfl
end La

namespace La
open Go Go.Eng Go.Proofs
set_option maxRecDepth 10000
set_option linter.unusedSimpArgs false

theorem madeIs_ok (x : Rec) (f : Int) : FnOK Try.prog 157 [.agg (recRow x), .rp [.int .i64 f] 0] [] (fun r _ => r = .bool (isMade f x)) := by
  unfold recRow
  refine fn_of_cwW tabOK (Go.Proofs.Try.func157) rfl (fun C => ?_)
  simp only [Go.Proofs.Try.ntmps157, Go.Proofs.Try.results157, go_sem]
  cases e1 : (x.act.fid == f) <;> cases e2 : (x.act.kind == 1) <;> cases e3 : (x.act.kind == 2)
  all_goals refine cw_go tabOK 99 (by simp only [go_sem, e1, e2, e3]; try exact rfl) (by simp [go_sem, e1, e2, e3]) ?_
  all_goals refine cw_ret ⟨_, _, (by simp only [go_sem]; try exact rfl), by simp [go_sem], _, .inr (.inl rfl), ?_⟩
  all_goals simp [isMade, e1, e2, e3]

theorem made_ok (l : List Rec) (hl : l.length ≤ 100000000) (f : Int) : FnOK Try.prog 123 [.sl (l.map recRow), .int .i64 f] [] (fun r _ => r = .int .i64 (idxI (l.findIdx? (isMade f)))) := by
  refine fn_of_cwW tabOK (Go.Proofs.Try.func123) rfl (fun C => ?_)
  simp only [Go.Proofs.Try.ntmps123, Go.Proofs.Try.results123, go_sem]
  refine cw_go tabOK 99 (by simp only [go_sem]; try exact rfl) (by simp [go_sem]) ?_
  refine cw_freeze 3 rfl (rfl) ?_
  simp only [go_sem]
  refine cw_call rfl rfl (by simp only [go_sem]; try exact rfl) (by simp [go_sem]) ⟨_, Go.Proofs.Try.func127, by kernel_rfl, rfl⟩ (by simp [go_sem]) (rec_indexFunc l hl ⟨_, Go.Proofs.Try.func157, by kernel_rfl, rfl⟩ rfl (fun x _ => madeIs_ok x f)) (by simp [go_sem]) (by simp only [go_sem]; exact rfl) ?_
  refine cw_go tabOK 99 (by simp only [go_sem]; try exact rfl) (by simp [go_sem]) ?_
  refine cw_ret ⟨_, _, (by simp only [go_sem]; try exact rfl), by simp [go_sem], _, .inr (.inl rfl), ?_⟩
  rfl

set_option maxHeartbeats 1000000 in
theorem bars_ok (x r m : Rec) : FnOK Try.prog 125 [.agg (recRow x), .rp [.rp (recRow r) 0] 0, .rp [.rp (recRow m) 0] 0] [] (fun b _ => b = .bool (bars r.act.fid m.act.dir m.act.name x)) := by
  refine fn_of_cwW tabOK (Go.Proofs.Try.func125) rfl (fun C => ?_)
  simp only [Go.Proofs.Try.ntmps125, Go.Proofs.Try.results125, go_sem]
  refine cw_go tabOK 99 (by simp only [go_sem, recRow]; try exact rfl) ?_ ?_
  · simp
  refine cw_freeze 3 rfl (rfl) ?_
  simp only [go_sem]
  refine cw_draw mixed ?_
  refine seg_start rfl ?_
  refine seg_runN tabOK 4 (by simp only [go_sem]; exact rfl) (by simp only [go_sem]; exact rfl) (by simp only [go_sem]; try exact rfl) (by simp [go_sem]) (by simp only [go_sem]; exact rfl) ?_
  refine seg_name 8 (by simp only [go_sem]; exact rfl) (fun c8 h8 => ?_)
  simp only [go_sem]
  refine seg_runN tabOK 6 (by simp only [go_sem]; exact rfl) (by simp only [go_sem]; exact rfl) (by simp only [go_sem]; try exact rfl) (by simp [go_sem]) (by simp only [go_sem]; exact rfl) ?_
  refine seg_callC rfl (by simp only [go_sem]; try exact rfl) (by simp only [go_sem]; try exact rfl) (by simp [go_sem]) ⟨_, Go.Proofs.Try.func70, by kernel_rfl, rfl⟩ (by simp [go_sem]) (fun hb => (names_ok x r.act.fid)) (by simp [go_sem]) (by simp only [go_sem]; exact rfl) (by simp only [go_sem]; exact rfl) ?_
  refine seg_runN tabOK 1 (by simp only [go_sem]; exact rfl) (by simp only [go_sem]; exact rfl) (by simp only [go_sem]; try exact rfl) (by simp [go_sem]) (by simp only [go_sem]; exact rfl) ?_
  refine seg_name 16 (by simp only [go_sem]; exact rfl) (fun c16 h16 => ?_)
  simp only [go_sem]
  refine seg_runN tabOK 9 (by simp only [go_sem]; exact rfl) (by simp only [go_sem]; exact rfl) (by simp only [go_sem]; try exact rfl) (by simp [go_sem]) (by simp only [go_sem]; exact rfl) ?_
  refine seg_callC rfl (by simp only [go_sem]; try exact rfl) (by simp only [go_sem]; try exact rfl) (by simp [go_sem]) ⟨_, Go.Proofs.Try.func126, by kernel_rfl, rfl⟩ (by simp [go_sem]) (fun hb => (touches_ok x m.act.dir m.act.name)) (by simp [go_sem]) (by simp only [go_sem]; exact rfl) (by simp only [go_sem]; exact rfl) ?_
  refine seg_runN tabOK 2 (by simp only [go_sem]; exact rfl) (by simp only [go_sem]; exact rfl) (by simp only [go_sem]; try exact rfl) (by simp [go_sem]) (by simp only [go_sem]; exact rfl) ?_
  refine seg_end (by kernel_rfl) (by simp only [go_sem]; exact rfl) ?_
  refine draw_close (by kernel_rfl) ?_
  refine cw_go tabOK 99 (by simp only [go_sem]; try exact rfl) (by simp [go_sem]) ?_
  refine cw_ret ⟨_, _, (by simp only [go_sem]; try exact rfl), by simp [go_sem], _, .inr (.inl rfl), ?_⟩
  subst h16 h8
  simp only [bars, cond_and, cond_or]

def cancelsAt (l : List Rec) (r : Rec) (k : Nat) : Bool :=
  (l.getD k default).act.dir == r.act.dir && (l.getD k default).act.name == r.act.name && !((l.drop (k + 1)).any (bars r.act.fid (l.getD k default).act.dir (l.getD k default).act.name))

theorem cancels_at {l : List Rec} {r : Rec} {k : Nat} (hk : l.findIdx? (isMade r.act.fid) = some k) : cancels l r = (r.act.kind == 4 && cancelsAt l r k) := by
  unfold cancels cancelsAt
  rw [hk]
  simp only [Bool.and_assoc]

set_option maxHeartbeats 1000000 in
theorem cancels_ok (l : List Rec) (hl : l.length ≤ 100000000) (r : Rec) : FnOK Try.prog 67 [.sl (l.map recRow), .rp (recRow r) 0] [] (fun b _ => b = .bool (cancels l r)) := by
  refine fn_of_cwW tabOK (Go.Proofs.Try.func67) rfl (fun C => ?_)
  simp only [Go.Proofs.Try.ntmps67, Go.Proofs.Try.results67, go_sem]
  refine cw_go tabOK 99 (by simp only [go_sem, recRow]; try exact rfl) ?_ ?_
  · simp
  refine cw_call rfl rfl (by simp only [go_sem]; try exact rfl) (by simp [go_sem]) ⟨_, Go.Proofs.Try.func123, by kernel_rfl, rfl⟩ (by simp [go_sem]) (made_ok l hl r.act.fid) (by simp [go_sem]) (by simp only [go_sem]; exact rfl) ?_
  cases e1 : (r.act.kind != 4)
  · refine cw_go tabOK 99 (by simp only [go_sem, e1, recRow]; try exact rfl) (by simp [go_sem, e1, recRow]) ?_
    refine cw_cond (by simp only [go_sem]; try exact rfl) trivial (fun h => ?_) (fun h => ?_)
    · refine cw_go tabOK 99 (by simp only [go_sem]; try exact rfl) (by simp [go_sem]) ?_
      refine cw_ret ⟨_, _, (by simp only [go_sem]; try exact rfl), by simp [go_sem], _, .inr (.inl rfl), ?_⟩
      have : l.findIdx? (isMade r.act.fid) = none := by
        cases e : l.findIdx? (isMade r.act.fid) with
        | none => rfl
        | some k =>
          rw [e] at h
          have h2 : decide ((k : Int) < 0) = true := h
          rw [decide_eq_true_eq] at h2
          omega
      simp [cancels, this]
    · obtain ⟨k, hk⟩ : ∃ k, l.findIdx? (isMade r.act.fid) = some k := by
        cases e : l.findIdx? (isMade r.act.fid) with
        | none => rw [e] at h; simp [idxI] at h
        | some k => exact ⟨k, rfl⟩
      have hkl : k < l.length := (List.findIdx?_eq_some_iff_getElem.1 hk).1
      have hg : (l.map recRow).getD k [] = recRow (l.getD k default) := Fam.getD hkl
      rw [cancels_at hk, hk]
      unfold cancelsAt
      simp only [idxI]
      generalize l.getD k default = m at hg
      refine cw_go tabOK 99 (by simp only [go_sem, hg, recRow]; try exact rfl) ?_ ?_
      · simp [hkl]
      have hw : IntKind.i64.wrap ((k : Int) + 1) = ((k + 1 : Nat) : Int) := by rw [Eng.wrap_small (by omega) (by omega)]; rfl
      have hd : List.drop (k + 1) (l.map recRow) = (l.drop (k + 1)).map recRow := List.map_drop.symm
      refine cw_freeze 3 rfl (rfl) ?_
      refine cw_freeze 6 rfl (rfl) ?_
      simp only [go_sem]
      refine cw_draw mixed ?_
      refine seg_start rfl ?_
      refine seg_runN tabOK 10 (by simp only [go_sem]; exact rfl) (by simp only [go_sem]; exact rfl) (by simp only [go_sem]; try exact rfl) (by simp [go_sem]) (by simp only [go_sem]; exact rfl) ?_
      refine seg_name 37 (by simp only [go_sem]; exact rfl) (fun c37 h37 => ?_)
      simp only [go_sem]
      refine seg_runN tabOK 12 (by simp only [go_sem]; exact rfl) (by simp only [go_sem]; exact rfl) (by simp only [go_sem]; try exact rfl) (by simp [go_sem]) (by simp only [go_sem]; exact rfl) ?_
      refine seg_name 49 (by simp only [go_sem]; exact rfl) (fun c49 h49 => ?_)
      simp only [go_sem]
      refine seg_runN tabOK 6 (by simp only [go_sem]; exact rfl) (by simp only [go_sem]; exact rfl) (by simp only [go_sem, hw, hd]; try exact rfl) ?_ (by simp only [go_sem]; exact rfl) ?_
      · simp [go_sem]
        intro h
        exact ⟨h, by omega, by omega, fun _ _ => rfl⟩
      refine seg_callC rfl (by simp only [go_sem]; try exact rfl) (by simp only [go_sem]; try exact rfl) (by simp [go_sem]) ⟨_, Go.Proofs.Try.func124, by kernel_rfl, rfl⟩ (by simp [go_sem]) (fun hb => (rec_containsFunc (l.drop (k + 1)) (by simp; omega) ⟨_, Go.Proofs.Try.func125, by kernel_rfl, rfl⟩ rfl (fun x _ => bars_ok x r m))) (by simp [go_sem]) (by simp only [go_sem]; exact rfl) (by simp only [go_sem]; exact rfl) ?_
      refine seg_runN tabOK 3 (by simp only [go_sem]; exact rfl) (by simp only [go_sem]; exact rfl) (by simp only [go_sem]; try exact rfl) (by simp [go_sem]) (by simp only [go_sem]; exact rfl) ?_
      refine seg_end (by kernel_rfl) (by simp only [go_sem]; exact rfl) ?_
      refine draw_close (by kernel_rfl) ?_
      refine cw_go tabOK 99 (by simp only [go_sem]; try exact rfl) (by simp [go_sem]) ?_
      refine cw_ret ⟨_, _, (by simp only [go_sem]; try exact rfl), by simp [go_sem], _, .inr (.inl rfl), ?_⟩
      subst h49 h37
      have hk4 : (r.act.kind == 4) = true := by simpa using e1
      rw [hk4]
      simp only [cond_and, Bool.true_and]
  · refine cw_go tabOK 99 (by simp only [go_sem, e1, recRow]; try exact rfl) (by simp [go_sem, e1, recRow]) ?_
    refine cw_condT (by simp only [go_sem]; try exact rfl) trivial (rfl) ?_
    refine cw_go tabOK 99 (by simp only [go_sem]; try exact rfl) (by simp [go_sem]) ?_
    refine cw_ret ⟨_, _, (by simp only [go_sem]; try exact rfl), by simp [go_sem], _, .inr (.inl rfl), ?_⟩
    have hk4 : (r.act.kind == 4) = false := by simpa using e1
    unfold cancels
    split
    · rfl
    · rw [hk4]; rfl

theorem namesIs_ok (x r : Rec) : FnOK Try.prog 69 [.agg (recRow x), .rp (recRow r) 0] [] (fun b _ => b = .bool (x.names r.act.fid)) := by
  refine fn_of_cwW tabOK (Go.Proofs.Try.func69) rfl (fun C => ?_)
  simp only [Go.Proofs.Try.ntmps69, Go.Proofs.Try.results69, go_sem]
  refine cw_go tabOK 99 (by simp only [go_sem, recRow]; try exact rfl) ?_ ?_
  · simp
  refine cw_freeze 2 rfl (rfl) ?_
  simp only [go_sem]
  refine cw_call rfl rfl (by simp only [go_sem]; try exact rfl) (by simp [go_sem]) ⟨_, Go.Proofs.Try.func70, by kernel_rfl, rfl⟩ (by simp [go_sem]) (names_ok x r.act.fid) (by simp [go_sem]) (by simp only [go_sem]; exact rfl) ?_
  refine cw_go tabOK 99 (by simp only [go_sem]; try exact rfl) (by simp [go_sem]) ?_
  refine cw_ret ⟨_, _, (by simp only [go_sem]; try exact rfl), by simp [go_sem], _, .inr (.inl rfl), ?_⟩
  rfl

theorem storedIs_ok (x r : Rec) : FnOK Try.prog 71 [.agg (recRow x), .rp (recRow r) 0] [] (fun b _ => b = .bool (stored r x)) := by
  refine fn_of_cwW tabOK (Go.Proofs.Try.func71) rfl (fun C => ?_)
  simp only [Go.Proofs.Try.ntmps71, Go.Proofs.Try.results71, go_sem]
  refine cw_goR 99 (by simp only [go_sem]; try exact rfl) ?_
  refine cw_runN tabOK 2 (by simp only [go_sem]; exact rfl) (by simp only [go_sem]; exact rfl) (by simp only [go_sem, recRow]; try exact rfl) (by simp [go_sem, recRow]) ?_
  refine cw_goR 99 (by simp only [go_sem]; try exact rfl) ?_
  refine cw_runN tabOK 4 (by simp only [go_sem]; exact rfl) (by simp only [go_sem]; exact rfl) (by simp only [go_sem]; try exact rfl) (by simp [go_sem]) ?_
  refine cw_name 7 (by simp only [go_sem]; exact rfl) (fun c7 h7 => ?_)
  simp only [go_sem]
  refine cw_go tabOK 99 (by simp only [go_sem, recRow]; try exact rfl) (by simp [go_sem, recRow]) ?_
  refine cw_ret ⟨_, _, (by simp only [go_sem]; try exact rfl), by simp [go_sem], _, .inr (.inl rfl), ?_⟩
  subst h7
  rw [cond_and]; rfl

def addRes : Option (List Rec) → AV
  | some x => .tup [.sl (x.map recRow), .int .i64 0]
  | none => .tup [.nils, .int .i64 5]

end La

namespace La
open Go Go.Eng Go.Proofs
set_option maxRecDepth 10000
set_option linter.unusedSimpArgs false

set_option maxHeartbeats 1000000 in
theorem add_ok (l : List Rec) (r : Rec) (hl : SmallL l) (hr : r.act.Small) : FnOK Try.prog 16 [.sl (l.map recRow), .agg (recRow r)] [] (fun x _ => x = addRes (addLog l r)) := by
  have hlen := hl.len
  refine fn_of_cwW tabOK (Go.Proofs.Try.func16) rfl (fun C => ?_)
  simp only [Go.Proofs.Try.ntmps16, Go.Proofs.Try.results16, go_sem]
  refine cw_go tabOK 99 (by simp only [go_sem, recRow]; try exact rfl) ?_ ?_
  · simp
  refine cw_freeze 3 rfl (rfl) ?_
  simp only [go_sem]
  refine cw_callG [] 100 rfl rfl (by simp only [go_sem]; try exact rfl) (by simp [go_sem]) ⟨_, Go.Proofs.Try.func19, by kernel_rfl, rfl⟩ (by simp only [go_sem, Bool.false_or, Bool.or_true, Bool.true_or, if_true]; try exact rfl) (logs_ownH l hl) (by simp [go_sem]) (by simp [go_sem]) (by simp [go_sem]) (by simp only [go_sem]) (by simp [go_sem]) (by simp only [go_sem, Bool.false_or, Bool.or_true, Bool.true_or, Bool.or_false, ↓reduceIte]; exact rfl) ?_
  refine cw_go tabOK 99 (by simp only [go_sem]; try exact rfl) (by simp [go_sem]) ?_
  refine cw_view rfl rfl (by simp only [go_sem]; try exact rfl) (by simp [go_sem]) (by simp only [go_sem]; try exact rfl) (by simp [go_sem]) ⟨_, Go.Proofs.Try.func67, by kernel_rfl, rfl⟩ (cancels_ok l hlen r) (by simp [go_sem]) (by simp only [go_sem]; exact rfl) ?_
  refine cw_go tabOK 99 (by simp only [go_sem]; try exact rfl) (by simp [go_sem]) ?_
  refine cw_cond (by simp only [go_sem]; try exact rfl) trivial (fun h => ?_) (fun h => ?_)
  · refine cw_go tabOK 99 (by simp only [go_sem]; try exact rfl) (by simp [go_sem]) ?_
    refine cw_callG [119] 100 rfl rfl (by simp only [go_sem]; try exact rfl) (by simp [go_sem]) ⟨_, Go.Proofs.Try.func68, by kernel_rfl, rfl⟩ (by simp only [go_sem, Bool.false_or, Bool.or_true, Bool.true_or, if_true]; try exact rfl) (rec_deleteFunc l hlen 119 ⟨_, Go.Proofs.Try.func69, by kernel_rfl, rfl⟩ rfl (by decide) (fun x _ => namesIs_ok x r)) (by simp [go_sem]) (by simp [go_sem]) (by simp [go_sem]) (by simp only [go_sem]) (by simp [go_sem]) (by simp only [go_sem, Bool.false_or, Bool.or_true, Bool.true_or, Bool.or_false, ↓reduceIte]; exact rfl) ?_
    refine cw_go tabOK 99 (by simp only [go_sem]; try exact rfl) (by simp [go_sem]) ?_
    refine cw_freeze 219 rfl (by rw [List.all_append, recRow_pure, Bool.true_and]; exact rep_pure _ rfl) ?_
    simp only [go_sem]
    refine cw_ret ⟨_, _, (by simp only [go_sem]; try exact rfl), by simp [go_sem], _, .inr (.inl rfl), ?_⟩
    have hle := List.length_filter_le (fun x : Rec => !x.names r.act.fid) l
    simp only [addLog, h, if_true, addRes]
    generalize (l.filter fun x => !x.names r.act.fid) = d at *
    rw [if_pos (by simp), take_app (by simp)]
  · have hh : cancels l r = false := h
    refine cw_go tabOK 99 (by simp only [go_sem]; try exact rfl) (by simp [go_sem]) ?_
    refine cw_cond (by simp only [go_sem]; try exact rfl) trivial (fun h => ?_) (fun h => ?_)
    · refine cw_go tabOK 99 (by simp only [go_sem]; try exact rfl) (by simp [go_sem]) ?_
      refine cw_callG [119] 100 rfl rfl (by simp only [go_sem]; try exact rfl) (by simp [go_sem]) ⟨_, Go.Proofs.Try.func68, by kernel_rfl, rfl⟩ (by simp only [go_sem, Bool.false_or, Bool.or_true, Bool.true_or, if_true]; try exact rfl) (rec_deleteFunc l hlen 119 ⟨_, Go.Proofs.Try.func71, by kernel_rfl, rfl⟩ rfl (by decide) (fun x _ => storedIs_ok x r)) (by simp [go_sem]) (by simp [go_sem]) (by simp [go_sem]) (by simp only [go_sem]) (by simp [go_sem]) (by simp only [go_sem, Bool.false_or, Bool.or_true, Bool.true_or, Bool.or_false, ↓reduceIte]; exact rfl) ?_
      have hle := List.length_filter_le (fun x : Rec => !stored r x) l
      have hadd : addLog l r = if (l.filter fun x => !stored r x).length ≥ 20 then none else some ((l.filter fun x => !stored r x) ++ [r]) := by
        have hk : r.act.kind = 3 := eq_of_beq (by assumption)
        simp only [addLog, hh, Bool.false_eq_true, if_false, unstored, hk, if_true]
      rw [hadd]
      have hsub : ∀ x, x ∈ (l.filter fun x => !stored r x) → x.act.Small := fun x hx => hl.each x (List.mem_filter.1 hx).1
      generalize (l.filter fun x => !stored r x) = d at hle hsub
      refine cw_go tabOK 99 (by simp only [go_sem]; try exact rfl) (by simp [go_sem]) ?_
      refine cw_cond (by simp only [go_sem]; try exact rfl) trivial (fun h => ?_) (fun h => ?_)
      · have hd : d.length ≥ 20 := by have h2 := of_decide_eq_true h; omega
        refine cw_go tabOK 99 (by simp only [go_sem]; try exact rfl) (by simp [go_sem]) ?_
        refine cw_ret ⟨_, _, (by simp only [go_sem]; try exact rfl), by simp [go_sem], _, .inr (.inl rfl), ?_⟩
        rw [if_pos hd]; rfl
      · have hd : ¬ d.length ≥ 20 := by have h2 := of_decide_eq_false h; omega
        refine cw_go tabOK 99 (by simp only [go_sem, recRow]; try exact rfl) ?_ ?_
        · simp
        refine cw_freeze 26 rfl (rfl) ?_
        simp only [go_sem]
        refine cw_call rfl rfl (by simp only [go_sem]; try exact rfl) (by simp [go_sem]) ⟨_, Go.Proofs.Try.func19, by kernel_rfl, rfl⟩ (by simp [go_sem]) (logs_own [r] ⟨by simp, fun x hx => by rw [List.mem_singleton.1 hx]; exact hr⟩) (by simp [go_sem]) (by simp only [go_sem]; exact rfl) ?_
        have ht : (d.map recRow ++ List.replicate (l.length - d.length) [AV.int .i64 0, .int .i64 0, .int .i64 0, .str [], .int .i64 0, .str [], .nils, .int .i64 0, .int .i64 0]).take d.length = d.map recRow := take_app (by simp)
        refine cw_go tabOK 99 (by simp only [go_sem, ht, recRow]; try exact rfl) ?_ ?_
        · simp [rowsOf]; omega
        refine cw_freeze 28 rfl (by rw [List.all_append, recRow_pure, Bool.true_and]; rfl) ?_
        simp only [go_sem]
        refine cw_go tabOK 99 (by simp only [go_sem]; try exact rfl) (by simp [go_sem]) ?_
        refine cw_ret ⟨_, _, (by simp only [go_sem]; try exact rfl), by simp [go_sem], _, .inr (.inl rfl), ?_⟩
        rw [if_neg hd]
        simp only [addRes, List.map_append, List.map_cons, List.map_nil, recRow]
        rw [List.take_of_length_le (by simp)]
    · have hadd : addLog l r = if l.length ≥ 20 then none else some (l ++ [r]) := by
        have hk : ¬ r.act.kind = 3 := by simpa using h
        simp only [addLog, hh, Bool.false_eq_true, if_false, unstored, hk]
      rw [hadd]
      refine cw_go tabOK 99 (by simp only [go_sem]; try exact rfl) (by simp [go_sem]) ?_
      refine cw_cond (by simp only [go_sem]; try exact rfl) trivial (fun h => ?_) (fun h => ?_)
      · have hd : l.length ≥ 20 := by have h2 := of_decide_eq_true h; omega
        refine cw_go tabOK 99 (by simp only [go_sem]; try exact rfl) (by simp [go_sem]) ?_
        refine cw_ret ⟨_, _, (by simp only [go_sem]; try exact rfl), by simp [go_sem], _, .inr (.inl rfl), ?_⟩
        rw [if_pos hd]; rfl
      · have hd : ¬ l.length ≥ 20 := by have h2 := of_decide_eq_false h; omega
        refine cw_go tabOK 99 (by simp only [go_sem, recRow]; try exact rfl) ?_ ?_
        · simp
        refine cw_freeze 26 rfl (rfl) ?_
        simp only [go_sem]
        refine cw_call rfl rfl (by simp only [go_sem]; try exact rfl) (by simp [go_sem]) ⟨_, Go.Proofs.Try.func19, by kernel_rfl, rfl⟩ (by simp [go_sem]) (logs_own [r] ⟨by simp, fun x hx => by rw [List.mem_singleton.1 hx]; exact hr⟩) (by simp [go_sem]) (by simp only [go_sem]; exact rfl) ?_
        refine cw_go tabOK 99 (by simp only [go_sem, recRow]; try exact rfl) ?_ ?_
        · simp [rowsOf]; omega
        refine cw_freeze 28 rfl (by rw [List.all_append, recRow_pure, Bool.true_and]; rfl) ?_
        simp only [go_sem]
        refine cw_go tabOK 99 (by simp only [go_sem]; try exact rfl) (by simp [go_sem]) ?_
        refine cw_ret ⟨_, _, (by simp only [go_sem]; try exact rfl), by simp [go_sem], _, .inr (.inl rfl), ?_⟩
        rw [if_neg hd]
        simp only [addRes, List.map_append, List.map_cons, List.map_nil, recRow]
        rw [List.take_of_length_le (by simp)]
end La

namespace La
open Go Go.Eng Go.Proofs
set_option maxRecDepth 10000
set_option linter.unusedSimpArgs false

@[go_sem, simp] theorem rowsOf_cons (s : Nat) (r : List AV) (l : List (List AV)) : Eng.rowsOf s (r :: l) ↔ r.length = s ∧ Eng.rowsOf s l := by
  unfold Eng.rowsOf
  constructor
  · exact fun h => ⟨h r (by simp), fun x hx => h x (by simp [hx])⟩
  · rintro ⟨h1, h2⟩ x hx
    rcases List.mem_cons.1 hx with rfl | hx
    · exact h1
    · exact h2 x hx
@[go_sem, simp] theorem rowsOf_nil (s : Nat) : Eng.rowsOf s [] := fun _ h => by simp at h

theorem refFids_ok (a : Act) : FnOK Try.prog 60 [.agg (actRow a)] [] (fun r _ => r = .sl ((fids a).map intRow)) := by
  unfold actRow
  refine fn_of_cwW tabOK (Go.Proofs.Try.func60) rfl (fun C => ?_)
  simp only [Go.Proofs.Try.ntmps60, Go.Proofs.Try.results60, go_sem]
  refine cw_go tabOK 99 (by simp only [go_sem]; try exact rfl) (by simp [go_sem]) ?_
  refine cw_cond (by simp only [go_sem]; try exact rfl) trivial (fun h => ?_) (fun h => ?_)
  · have h1 : a.kind ≠ 3 := by simpa using h
    refine cw_go tabOK 99 (by simp only [go_sem]; try exact rfl) (by simp [go_sem]) ?_
    refine cw_cond (by simp only [go_sem]; try exact rfl) trivial (fun h => ?_) (fun h => ?_)
    · have h2 : a.kind = 5 := by simpa using h
      refine cw_go tabOK 99 (by simp only [go_sem]; try exact rfl) (by simp [go_sem]) ?_
      refine cw_freeze 22 rfl (rfl) ?_
      simp only [go_sem]
      refine cw_ret ⟨_, _, (by simp only [go_sem]; try exact rfl), by simp [go_sem], _, .inr (.inl rfl), ?_⟩
      simp [go_sem, fids, intRow, h2]
    · have h2 : a.kind ≠ 5 := by simpa using h
      refine cw_go tabOK 99 (by simp only [go_sem]; try exact rfl) (by simp [go_sem]) ?_
      refine cw_freeze 14 rfl (rfl) ?_
      simp only [go_sem]
      refine cw_ret ⟨_, _, (by simp only [go_sem]; try exact rfl), by simp [go_sem], _, .inr (.inl rfl), ?_⟩
      simp [go_sem, fids, intRow, h1, h2]
  · have h1 : a.kind = 3 := by simpa using h
    refine cw_go tabOK 99 (by simp only [go_sem]; try exact rfl) (by simp [go_sem]) ?_
    refine cw_condF (by simp only [go_sem]; try exact rfl) trivial (by rw [h1]; rfl) ?_
    refine cw_go tabOK 99 (by simp only [go_sem]; try exact rfl) (by simp [go_sem]) ?_
    refine cw_freeze 6 rfl (rfl) ?_
    simp only [go_sem]
    refine cw_ret ⟨_, _, (by simp only [go_sem]; try exact rfl), by simp [go_sem], _, .inr (.inl rfl), ?_⟩
    simp [go_sem, fids, intRow, h1]

theorem rhas_ok (l : List Int) (hlen : l.length ≤ 100000000) (v : Int) : FnOK Try.prog 59 [.sl (l.map intRow), .int .i64 v] [] (fun r _ => r = .bool (l.contains v)) := by
  refine fn_of_cwW tabOK (Go.Proofs.Try.func59) rfl (fun C => ?_)
  simp only [Go.Proofs.Try.ntmps59, Go.Proofs.Try.results59, go_sem]
  refine cw_go tabOK 99 (by simp only [go_sem]; try exact rfl) (by simp [go_sem]) ?_
  refine cw_loopS (fun i : Nat => i ≤ l.length ∧ v ∉ l.take i) (fun i => l.length - i) (fun i => [(9, .int .i64 i), (6, .any), (10, .any), (11, .any), (12, .any), (13, .any), (14, .any), (15, .any), (16, .any)]) (fun _ => []) 0 ⟨by omega, by simp⟩ ?_ fun i hi => ?_
  · simp only [go_sem]
    exact le_sub (by simp [go_sem]) (by simp [go_sem]) (by simp only [go_sem])
  obtain ⟨hi, hno⟩ := hi
  simp only [go_sem]
  refine cw_go tabOK 99 (by simp only [go_sem]; try exact rfl) (by simp [go_sem]) ?_
  refine cw_cond (by simp only [go_sem]; try exact rfl) trivial (fun h => ?_) (fun h => ?_)
  · have hlt : i < l.length := by simp at h; omega
    have hg : (l.map intRow).getD i [] = intRow (l.getD i default) := Fam.getD hlt
    have htk := take_succ_getD hlt
    have hm := getD_mem hlt
    generalize l.getD i default = n at hg htk hm
    refine cw_go tabOK 99 (by simp only [go_sem, hg, intRow]; try exact rfl) ?_ ?_
    · simp [hlt]
    refine cw_cond (by simp only [go_sem]; try exact rfl) trivial (fun h => ?_) (fun h => ?_)
    · refine cw_go tabOK 99 (by simp only [go_sem]; try exact rfl) (by simp [go_sem]) ?_
      refine cw_ret ⟨_, _, (by simp only [go_sem]; try exact rfl), by simp [go_sem], _, .inr (.inl rfl), ?_⟩
      have e : n = v := eq_of_beq h
      subst e
      rw [List.contains_iff_mem.2 hm]
    · have hw : IntKind.i64.wrap ((i : Int) + 1) = (i : Int) + 1 := wrap_small (by omega) (by omega)
      have hne : n ≠ v := by simpa using h
      refine cw_go tabOK 99 (by simp only [go_sem, hw]; try exact rfl) (by simp [go_sem, hw]) ?_
      refine cw_back ⟨i + 1, ⟨by omega, ?_⟩, by omega, le_sub ?_ ?_ ?_⟩
      · rw [htk]
        intro hx
        rcases List.mem_append.1 hx with hx | hx
        · exact hno hx
        · exact hne (List.mem_singleton.1 hx).symm
      · simp [go_sem]
      · simp [go_sem]
      · simp only [go_sem]
  · have e : i = l.length := by simp at h; omega
    refine cw_go tabOK 99 (by simp only [go_sem]; try exact rfl) (by simp [go_sem]) ?_
    refine cw_ret ⟨_, _, (by simp only [go_sem]; try exact rfl), by simp [go_sem], _, .inr (.inl rfl), ?_⟩
    rw [e, List.take_length] at hno
    rw [show l.contains v = false from by simpa using hno]
end La

namespace La
open Go Go.Eng Go.Proofs
set_option maxRecDepth 10000
set_option linter.unusedSimpArgs false
set_option linter.unusedVariables false

def tn (f t x : Int) : Int := if x = f then t else x
def turn (a : Act) (f t : Int) : Act := { a with fid := tn f t a.fid, dir := tn f t a.dir, to := tn f t a.to }

theorem ref_turn (a : Act) (f t : Int) : FnOK Try.prog 22 [.agg (actRow a), .int .i64 f, .int .i64 t] [] (fun r _ => r = .agg (actRow (turn a f t))) := by
  unfold actRow
  refine fn_of_cwW tabOK (Go.Proofs.Try.func22) rfl (fun C => ?_)
  simp only [Go.Proofs.Try.ntmps22, Go.Proofs.Try.results22, go_sem]
  refine cw_go tabOK 99 (by simp only [go_sem]; try exact rfl) (by simp [go_sem]) ?_
  refine cw_cond (by simp only [go_sem]; try exact rfl) trivial (fun h => ?_) (fun h => ?_)
  all_goals refine cw_go tabOK 99 (by simp only [go_sem]; try exact rfl) (by simp [go_sem]) ?_
  all_goals refine cw_cond (by simp only [go_sem]; try exact rfl) trivial (fun h => ?_) (fun h => ?_)
  all_goals refine cw_go tabOK 99 (by simp only [go_sem]; try exact rfl) (by simp [go_sem]) ?_
  all_goals refine cw_cond (by simp only [go_sem]; try exact rfl) trivial (fun h => ?_) (fun h => ?_)
  all_goals refine cw_go tabOK 99 (by simp only [go_sem]; try exact rfl) (by simp [go_sem]) ?_
  all_goals refine cw_ret ⟨_, _, (by simp only [go_sem]; try exact rfl), by simp [go_sem], _, .inr (.inl rfl), ?_⟩
  all_goals simp_all [turn, tn]

def turnN (a : Act) (f t : Int) : Nat → Act
  | 0 => a
  | 1 => { a with fid := tn f t a.fid }
  | 2 => { a with fid := tn f t a.fid, dir := tn f t a.dir }
  | _ => turn a f t

theorem logs_turn (a : Act) (f t : Int) (ha : a.Small) : FnOK Try.prog 24 [.agg (actRow a), .int .i64 f, .int .i64 t] [] (fun r _ => r = .agg (actRow (turn a f t))) := by
  unfold actRow
  refine fn_of_cwW tabOK (Go.Proofs.Try.func24) rfl (fun C => ?_)
  simp only [Go.Proofs.Try.ntmps24, Go.Proofs.Try.results24, go_sem]
  refine cw_go tabOK 99 (by simp only [go_sem]; try exact rfl) (by simp [go_sem]) ?_
  refine cw_call rfl rfl (by simp only [go_sem]; try exact rfl) (by simp [go_sem]) ⟨_, Go.Proofs.Try.func72, by kernel_rfl, rfl⟩ (by simp [go_sem]) (acts_own a ha) (by simp [go_sem]) (by simp only [go_sem]; exact rfl) ?_
  refine cw_go tabOK 99 (by simp only [go_sem, actRow]; try exact rfl) ?_ ?_
  · simp [go_sem]
  refine cw_loopS (fun i : Nat => i ≤ 3) (fun i => 3 - i) (fun i => [(8, .any), (16, .int .i64 i), (17, .any), (18, .any), (19, .any), (20, .any), (21, .any), (22, .any), (23, .any), (24, .any), (25, .any), (26, .any), (27, .any), (28, .any)])
    (fun i => [(3, .cells 25 7 [actRow (turnN a f t i)])]) 0 (by omega) ?_ fun i hi => ?_
  · simp only [go_sem]
    exact le_sub (by simp [go_sem]) (by simp [go_sem, turnN, actRow]) (by simp [go_sem, actRow])
  have t0 : actRow (turnN a f t 0) = [.int .i64 a.kind, .int .i64 a.fid, .int .i64 a.dir, .str a.name, .int .i64 a.to, .str a.toName, .sl (a.data.map byteRow)] := rfl
  have t1 : actRow (turnN a f t 1) = [.int .i64 a.kind, .int .i64 (tn f t a.fid), .int .i64 a.dir, .str a.name, .int .i64 a.to, .str a.toName, .sl (a.data.map byteRow)] := rfl
  have t2 : actRow (turnN a f t 2) = [.int .i64 a.kind, .int .i64 (tn f t a.fid), .int .i64 (tn f t a.dir), .str a.name, .int .i64 a.to, .str a.toName, .sl (a.data.map byteRow)] := rfl
  have t3 : actRow (turnN a f t 3) = [.int .i64 a.kind, .int .i64 (tn f t a.fid), .int .i64 (tn f t a.dir), .str a.name, .int .i64 (tn f t a.to), .str a.toName, .sl (a.data.map byteRow)] := rfl
  have hc : i = 0 ∨ i = 1 ∨ i = 2 ∨ i = 3 := by omega
  rcases hc with rfl | rfl | rfl | rfl
  · refine cw_go tabOK 99 (by simp only [go_sem, t0, t1, t2, t3]; try exact rfl) (by simp [go_sem, t0, t1, t2, t3]) ?_
    refine cw_cond (by simp only [go_sem]; try exact rfl) trivial (fun h => ?_) (fun h => ?_)
    · refine cw_go tabOK 99 (by simp only [go_sem, t0, t1, t2, t3]; try exact rfl) (by simp [go_sem, t0, t1, t2, t3]) ?_
      refine cw_cond (by simp only [go_sem]; try exact rfl) trivial (fun h => ?_) (fun h => ?_)
      · refine cw_go tabOK 99 (by simp only [go_sem, t0, t1, t2, t3]; try exact rfl) (by simp [go_sem, t0, t1, t2, t3]) ?_
        refine cw_back ⟨1, by omega, by omega, le_sub ?_ ?_ ?_⟩
        · simp [go_sem, Eng.wrap_small]
        · simp_all [go_sem, tn]
        · simp [go_sem, t0, t1, t2, t3]
      · refine cw_go tabOK 99 (by simp only [go_sem, t0, t1, t2, t3]; try exact rfl) (by simp [go_sem, t0, t1, t2, t3]) ?_
        refine cw_back ⟨1, by omega, by omega, le_sub ?_ ?_ ?_⟩
        · simp [go_sem, Eng.wrap_small]
        · simp_all [go_sem, tn]
        · simp [go_sem, t0, t1, t2, t3]
    · simp at h
  · refine cw_go tabOK 99 (by simp only [go_sem, t0, t1, t2, t3]; try exact rfl) (by simp [go_sem, t0, t1, t2, t3]) ?_
    refine cw_cond (by simp only [go_sem]; try exact rfl) trivial (fun h => ?_) (fun h => ?_)
    · refine cw_go tabOK 99 (by simp only [go_sem, t0, t1, t2, t3]; try exact rfl) (by simp [go_sem, t0, t1, t2, t3]) ?_
      refine cw_cond (by simp only [go_sem]; try exact rfl) trivial (fun h => ?_) (fun h => ?_)
      · refine cw_go tabOK 99 (by simp only [go_sem, t0, t1, t2, t3]; try exact rfl) (by simp [go_sem, t0, t1, t2, t3]) ?_
        refine cw_back ⟨2, by omega, by omega, le_sub ?_ ?_ ?_⟩
        · simp [go_sem, Eng.wrap_small]
        · simp_all [go_sem, tn]
        · simp [go_sem, t0, t1, t2, t3]
      · refine cw_go tabOK 99 (by simp only [go_sem, t0, t1, t2, t3]; try exact rfl) (by simp [go_sem, t0, t1, t2, t3]) ?_
        refine cw_back ⟨2, by omega, by omega, le_sub ?_ ?_ ?_⟩
        · simp [go_sem, Eng.wrap_small]
        · simp_all [go_sem, tn]
        · simp [go_sem, t0, t1, t2, t3]
    · simp at h
  · refine cw_go tabOK 99 (by simp only [go_sem, t0, t1, t2, t3]; try exact rfl) (by simp [go_sem, t0, t1, t2, t3]) ?_
    refine cw_cond (by simp only [go_sem]; try exact rfl) trivial (fun h => ?_) (fun h => ?_)
    · refine cw_go tabOK 99 (by simp only [go_sem, t0, t1, t2, t3]; try exact rfl) (by simp [go_sem, t0, t1, t2, t3]) ?_
      refine cw_cond (by simp only [go_sem]; try exact rfl) trivial (fun h => ?_) (fun h => ?_)
      · refine cw_go tabOK 99 (by simp only [go_sem, t0, t1, t2, t3]; try exact rfl) (by simp [go_sem, t0, t1, t2, t3]) ?_
        refine cw_back ⟨3, by omega, by omega, le_sub ?_ ?_ ?_⟩
        · simp [go_sem, Eng.wrap_small]
        · simp_all [go_sem, tn]
        · simp [go_sem, t0, t1, t2, t3]
      · refine cw_go tabOK 99 (by simp only [go_sem, t0, t1, t2, t3]; try exact rfl) (by simp [go_sem, t0, t1, t2, t3]) ?_
        refine cw_back ⟨3, by omega, by omega, le_sub ?_ ?_ ?_⟩
        · simp [go_sem, Eng.wrap_small]
        · simp_all [go_sem, tn]
        · simp [go_sem, t0, t1, t2, t3]
    · simp at h
  · refine cw_go tabOK 99 (by simp only [go_sem, t0, t1, t2, t3]; try exact rfl) (by simp [go_sem, t0, t1, t2, t3]) ?_
    refine cw_cond (by simp only [go_sem]; try exact rfl) trivial (fun h => ?_) (fun h => ?_)
    · simp at h
    · refine cw_go tabOK 99 (by simp only [go_sem, t0, t1, t2, t3]; try exact rfl) (by simp [go_sem, t0, t1, t2, t3]) ?_
      refine cw_ret ⟨_, _, (by simp only [go_sem, t0, t1, t2, t3]; try exact rfl), by simp [go_sem, t0, t1, t2, t3], _, .inr (.inl rfl), ?_⟩
      rfl
end La

namespace La
open Go Go.Eng Go.Proofs
set_option maxRecDepth 10000
set_option linter.unusedSimpArgs false

def turnR (f t : Int) (r : Rec) : Rec := { r with act := turn r.act f t }
def renN (f t : Int) (l : List Rec) (i : Nat) : List Rec := (l.take i).map (turnR f t) ++ l.drop i

theorem renN_len (f t : Int) (l : List Rec) (i : Nat) : (renN f t l i).length = l.length := by simp [renN]; omega
theorem renN_at (f t : Int) {l : List Rec} {i : Nat} (h : i < l.length) : (renN f t l i).getD i default = l.getD i default := by
  unfold renN
  rw [List.getD_eq_getElem?_getD, List.getElem?_append_right (by simp; omega), List.getD_eq_getElem?_getD, List.getElem?_drop]
  congr 2
  simp; omega
theorem renN_next (f t : Int) {l : List Rec} {i : Nat} (h : i < l.length) : (renN f t l i).set i (turnR f t (l.getD i default)) = renN f t l (i + 1) := by
  apply List.ext_getElem?
  intro j
  unfold renN
  by_cases e : j = i
  · subst e
    rw [List.getElem?_set_self (by simp; omega), List.getElem?_append_left (by simp; omega)]
    simp [h, List.getD_eq_getElem?_getD]
  · rw [List.getElem?_set_ne (fun h => e h.symm)]
    by_cases e2 : j < i
    · rw [List.getElem?_append_left (by simp; omega), List.getElem?_append_left (by simp; omega)]
      simp [List.getElem?_take, e2, Nat.lt_succ_of_lt e2]
    · rw [List.getElem?_append_right (by simp; omega), List.getElem?_append_right (by simp; omega)]
      simp only [List.getElem?_drop, List.length_map, List.length_take]
      congr 1
      omega

theorem lrename_ok (l : List Rec) (f t : Int) (hl : SmallL l) : FnOK Try.prog 21 [.sl (l.map recRow), .int .i64 f, .int .i64 t] [] (fun r _ => r = .sl ((l.map (turnR f t)).map recRow)) := by
  have hlen := hl.len
  refine fn_of_cwW tabOK (Go.Proofs.Try.func21) rfl (fun C => ?_)
  simp only [Go.Proofs.Try.ntmps21, Go.Proofs.Try.results21, go_sem]
  refine cw_go tabOK 99 (by simp only [go_sem]; try exact rfl) (by simp [go_sem]) ?_
  refine cw_callG [] 100 rfl rfl (by simp only [go_sem]; try exact rfl) (by simp [go_sem]) ⟨_, Go.Proofs.Try.func19, by kernel_rfl, rfl⟩ (by simp only [go_sem, Bool.false_or, Bool.or_true, Bool.true_or, if_true]; try exact rfl) (logs_ownH l hl) (by simp [go_sem]) (by simp [go_sem]) (by simp [go_sem]) (by simp only [go_sem]) (by simp [go_sem]) (by simp only [go_sem, Bool.false_or, Bool.or_true, Bool.true_or, Bool.or_false, ↓reduceIte]; exact rfl) ?_
  refine cw_go tabOK 99 (by simp only [go_sem]; try exact rfl) (by simp [go_sem]) ?_
  refine cw_loopS (fun i : Nat => i ≤ l.length) (fun i => l.length - i) (fun i => [(8, .any), (13, .int .i64 i), (14, .any), (15, .any), (16, .any), (17, .any), (18, .any), (19, .any), (20, .any), (21, .any), (22, .any), (23, .any), (24, .any), (25, .any), (26, .any), (27, .any), (28, .any)])
    (fun i => [(119, .cells 27 9 ((renN f t l i).map recRow))]) 0 (by omega) ?_ fun i hi => ?_
  · simp only [go_sem]
    exact le_sub (by simp [go_sem]) (by simp [go_sem, renN]) (by simp only [go_sem])
  simp only [go_sem]
  refine cw_go tabOK 99 (by simp only [go_sem]; try exact rfl) (by simp [go_sem]) ?_
  refine cw_cond (by simp only [go_sem]; try exact rfl) trivial (fun h => ?_) (fun h => ?_)
  · have hlt : i < l.length := by simp at h; omega
    have hn := hl.each _ (getD_mem hlt)
    have hg : ((renN f t l i).map recRow).getD i [] = recRow (l.getD i default) := by rw [Fam.getD (by rw [renN_len]; exact hlt), renN_at f t hlt]
    have hs := renN_next f t hlt
    generalize l.getD i default = n at hn hg hs
    refine cw_go tabOK 99 (by simp only [go_sem, hg, recRow]; try exact rfl) ?_ ?_
    · simp [hlt, recRow, renN_len]
    refine cw_call rfl rfl (by simp only [go_sem]; try exact rfl) (by simp [go_sem]) ⟨_, Go.Proofs.Try.func24, by kernel_rfl, rfl⟩ (by simp [go_sem]) (logs_turn n.act f t hn) (by simp [go_sem]) (by simp only [go_sem]; exact rfl) ?_
    have hw : IntKind.i64.wrap ((i : Int) + 1) = (i : Int) + 1 := wrap_small (by omega) (by omega)
    refine cw_go tabOK 99 (by simp only [go_sem, hw, hg, recRow, actRow]; try exact rfl) ?_ ?_
    · simp [hlt, renN_len]
    refine cw_back ⟨i + 1, by omega, by omega, le_sub ?_ ?_ ?_⟩
    · simp [go_sem]
    · rw [← hs, List.map_set]
      exact ⟨.inl rfl, trivial⟩
    · simp only [go_sem]
  · have e : i = l.length := by simp at h; omega
    subst e
    have e2 : renN f t l l.length = l.map (turnR f t) := by simp [renN]
    rw [e2]
    refine cw_freeze 119 rfl (recRow_pure _) ?_
    simp only [go_sem]
    refine cw_go tabOK 99 (by simp only [go_sem]; try exact rfl) (by simp [go_sem]) ?_
    refine cw_ret ⟨_, _, (by simp only [go_sem]; try exact rfl), by simp [go_sem], _, .inr (.inl rfl), ?_⟩
    simp
end La

namespace La
open Go Go.Eng Go.Proofs
set_option maxRecDepth 10000
set_option linter.unusedSimpArgs false

theorem sameAct_ok (a b : Act) : FnOK Try.prog 23 [.agg (actRow a), .agg (actRow b)] [] (fun r _ => r = .bool (decide (a = b))) := by
  unfold actRow
  refine fn_of_cwW tabOK (Go.Proofs.Try.func23) rfl (fun C => ?_)
  simp only [Go.Proofs.Try.ntmps23, Go.Proofs.Try.results23, go_sem]
  refine cw_go tabOK 5 (by simp only [go_sem]; try exact rfl) (by simp [go_sem]) ?_
  refine cw_runN tabOK 6 (by simp only [go_sem]; exact rfl) (by simp only [go_sem]; exact rfl) (by simp only [go_sem]; try exact rfl) (by simp [go_sem]) ?_
  generalize h1 : (a.kind == b.kind) = c1
  refine cw_runN tabOK 1 (by simp only [go_sem]; exact rfl) (by simp only [go_sem]; exact rfl) (by simp only [go_sem]; try exact rfl) (by simp [go_sem]) ?_
  refine cw_runN tabOK 1 (by simp only [go_sem]; exact rfl) (by simp only [go_sem]; exact rfl) (by simp only [go_sem]; try exact rfl) (by simp [go_sem]) ?_
  refine cw_runN tabOK 1 (by simp only [go_sem]; exact rfl) (by simp only [go_sem]; exact rfl) (by simp only [go_sem]; try exact rfl) (by simp [go_sem]) ?_
  refine cw_runN tabOK 1 (by simp only [go_sem]; exact rfl) (by simp only [go_sem]; exact rfl) (by simp only [go_sem]; try exact rfl) (by simp [go_sem]) ?_
  refine cw_runN tabOK 1 (by simp only [go_sem]; exact rfl) (by simp only [go_sem]; exact rfl) (by simp only [go_sem]; try exact rfl) (by simp [go_sem]) ?_
  refine cw_runN tabOK 1 (by simp only [go_sem]; exact rfl) (by simp only [go_sem]; exact rfl) (by simp only [go_sem]; try exact rfl) (by simp [go_sem]) ?_
  refine cw_runN tabOK 1 (by simp only [go_sem]; exact rfl) (by simp only [go_sem]; exact rfl) (by simp only [go_sem]; try exact rfl) (by simp [go_sem]) ?_
  generalize h2 : (bif c1 then a.fid == b.fid else false) = c2
  refine cw_runN tabOK 1 (by simp only [go_sem]; exact rfl) (by simp only [go_sem]; exact rfl) (by simp only [go_sem]; try exact rfl) (by simp [go_sem]) ?_
  refine cw_runN tabOK 1 (by simp only [go_sem]; exact rfl) (by simp only [go_sem]; exact rfl) (by simp only [go_sem]; try exact rfl) (by simp [go_sem]) ?_
  refine cw_runN tabOK 1 (by simp only [go_sem]; exact rfl) (by simp only [go_sem]; exact rfl) (by simp only [go_sem]; try exact rfl) (by simp [go_sem]) ?_
  refine cw_runN tabOK 1 (by simp only [go_sem]; exact rfl) (by simp only [go_sem]; exact rfl) (by simp only [go_sem]; try exact rfl) (by simp [go_sem]) ?_
  refine cw_runN tabOK 1 (by simp only [go_sem]; exact rfl) (by simp only [go_sem]; exact rfl) (by simp only [go_sem]; try exact rfl) (by simp [go_sem]) ?_
  refine cw_runN tabOK 1 (by simp only [go_sem]; exact rfl) (by simp only [go_sem]; exact rfl) (by simp only [go_sem]; try exact rfl) (by simp [go_sem]) ?_
  refine cw_runN tabOK 1 (by simp only [go_sem]; exact rfl) (by simp only [go_sem]; exact rfl) (by simp only [go_sem]; try exact rfl) (by simp [go_sem]) ?_
  generalize h3 : (bif c2 then a.dir == b.dir else false) = c3
  refine cw_runN tabOK 1 (by simp only [go_sem]; exact rfl) (by simp only [go_sem]; exact rfl) (by simp only [go_sem]; try exact rfl) (by simp [go_sem]) ?_
  refine cw_runN tabOK 1 (by simp only [go_sem]; exact rfl) (by simp only [go_sem]; exact rfl) (by simp only [go_sem]; try exact rfl) (by simp [go_sem]) ?_
  refine cw_runN tabOK 1 (by simp only [go_sem]; exact rfl) (by simp only [go_sem]; exact rfl) (by simp only [go_sem]; try exact rfl) (by simp [go_sem]) ?_
  refine cw_runN tabOK 1 (by simp only [go_sem]; exact rfl) (by simp only [go_sem]; exact rfl) (by simp only [go_sem]; try exact rfl) (by simp [go_sem]) ?_
  refine cw_runN tabOK 1 (by simp only [go_sem]; exact rfl) (by simp only [go_sem]; exact rfl) (by simp only [go_sem]; try exact rfl) (by simp [go_sem]) ?_
  refine cw_runN tabOK 1 (by simp only [go_sem]; exact rfl) (by simp only [go_sem]; exact rfl) (by simp only [go_sem]; try exact rfl) (by simp [go_sem]) ?_
  refine cw_runN tabOK 1 (by simp only [go_sem]; exact rfl) (by simp only [go_sem]; exact rfl) (by simp only [go_sem]; try exact rfl) (by simp [go_sem]) ?_
  generalize h4 : (bif c3 then a.name == b.name else false) = c4
  refine cw_runN tabOK 1 (by simp only [go_sem]; exact rfl) (by simp only [go_sem]; exact rfl) (by simp only [go_sem]; try exact rfl) (by simp [go_sem]) ?_
  refine cw_runN tabOK 1 (by simp only [go_sem]; exact rfl) (by simp only [go_sem]; exact rfl) (by simp only [go_sem]; try exact rfl) (by simp [go_sem]) ?_
  refine cw_runN tabOK 1 (by simp only [go_sem]; exact rfl) (by simp only [go_sem]; exact rfl) (by simp only [go_sem]; try exact rfl) (by simp [go_sem]) ?_
  refine cw_runN tabOK 1 (by simp only [go_sem]; exact rfl) (by simp only [go_sem]; exact rfl) (by simp only [go_sem]; try exact rfl) (by simp [go_sem]) ?_
  refine cw_runN tabOK 1 (by simp only [go_sem]; exact rfl) (by simp only [go_sem]; exact rfl) (by simp only [go_sem]; try exact rfl) (by simp [go_sem]) ?_
  refine cw_runN tabOK 1 (by simp only [go_sem]; exact rfl) (by simp only [go_sem]; exact rfl) (by simp only [go_sem]; try exact rfl) (by simp [go_sem]) ?_
  refine cw_runN tabOK 1 (by simp only [go_sem]; exact rfl) (by simp only [go_sem]; exact rfl) (by simp only [go_sem]; try exact rfl) (by simp [go_sem]) ?_
  generalize h5 : (bif c4 then a.to == b.to else false) = c5
  refine cw_runN tabOK 1 (by simp only [go_sem]; exact rfl) (by simp only [go_sem]; exact rfl) (by simp only [go_sem]; try exact rfl) (by simp [go_sem]) ?_
  refine cw_runN tabOK 1 (by simp only [go_sem]; exact rfl) (by simp only [go_sem]; exact rfl) (by simp only [go_sem]; try exact rfl) (by simp [go_sem]) ?_
  refine cw_runN tabOK 1 (by simp only [go_sem]; exact rfl) (by simp only [go_sem]; exact rfl) (by simp only [go_sem]; try exact rfl) (by simp [go_sem]) ?_
  refine cw_runN tabOK 1 (by simp only [go_sem]; exact rfl) (by simp only [go_sem]; exact rfl) (by simp only [go_sem]; try exact rfl) (by simp [go_sem]) ?_
  refine cw_runN tabOK 1 (by simp only [go_sem]; exact rfl) (by simp only [go_sem]; exact rfl) (by simp only [go_sem]; try exact rfl) (by simp [go_sem]) ?_
  refine cw_runN tabOK 1 (by simp only [go_sem]; exact rfl) (by simp only [go_sem]; exact rfl) (by simp only [go_sem]; try exact rfl) (by simp [go_sem]) ?_
  refine cw_runN tabOK 1 (by simp only [go_sem]; exact rfl) (by simp only [go_sem]; exact rfl) (by simp only [go_sem]; try exact rfl) (by simp [go_sem]) ?_
  generalize h6 : (bif c5 then a.toName == b.toName else false) = c6
  refine cw_runN tabOK 1 (by simp only [go_sem]; exact rfl) (by simp only [go_sem]; exact rfl) (by simp only [go_sem]; try exact rfl) (by simp [go_sem]) ?_
  refine cw_runN tabOK 1 (by simp only [go_sem]; exact rfl) (by simp only [go_sem]; exact rfl) (by simp only [go_sem]; try exact rfl) (by simp [go_sem]) ?_
  refine cw_runN tabOK 1 (by simp only [go_sem]; exact rfl) (by simp only [go_sem]; exact rfl) (by simp only [go_sem]; try exact rfl) (by simp [go_sem]) ?_
  refine cw_runN tabOK 1 (by simp only [go_sem]; exact rfl) (by simp only [go_sem]; exact rfl) (by simp only [go_sem]; try exact rfl) (by simp [go_sem]) ?_
  refine cw_runN tabOK 1 (by simp only [go_sem]; exact rfl) (by simp only [go_sem]; exact rfl) (by simp only [go_sem]; try exact rfl) (by simp [go_sem]) ?_
  refine cw_runN tabOK 1 (by simp only [go_sem]; exact rfl) (by simp only [go_sem]; exact rfl) (by simp only [go_sem]; try exact rfl) (by simp [go_sem]) ?_
  refine cw_runN tabOK 1 (by simp only [go_sem]; exact rfl) (by simp only [go_sem]; exact rfl) (by simp only [go_sem]; try exact rfl) (by simp [go_sem]) ?_
  refine cw_runN tabOK 1 (by simp only [go_sem]; exact rfl) (by simp only [go_sem]; exact rfl) (by simp only [go_sem]; try exact rfl) (by simp [go_sem]) ?_
  refine cw_runN tabOK 1 (by simp only [go_sem]; exact rfl) (by simp only [go_sem]; exact rfl) (by simp only [go_sem]; try exact rfl) (by simp [go_sem]) ?_
  refine cw_go tabOK 99 (by simp only [go_sem]; try exact rfl) (by simp [go_sem]) ?_
  refine cw_ret ⟨_, _, (by simp only [go_sem]; try exact rfl), by simp [go_sem], _, .inr (.inl rfl), ?_⟩
  subst h6 h5 h4 h3 h2 h1
  obtain ⟨k1, f1, d1, n1, t1, m1, x1⟩ := a
  obtain ⟨k2, f2, d2, n2, t2, m2, x2⟩ := b
  congr 1
  rw [Bool.eq_iff_iff]
  simp only [Bool.cond_eq_ite]
  simp [and_assoc]
end La

namespace La
open Go Go.Eng Go.Proofs
set_option maxRecDepth 10000
set_option linter.unusedSimpArgs false

theorem sameLog_ok (a b : List Rec) (ha : a.length ≤ 100000000) (hb : b.length ≤ 100000000) : FnOK Try.prog 18 [.sl (a.map recRow), .sl (b.map recRow)] [] (fun r _ => r = .bool (decide (a = b))) := by
  refine fn_of_cwW tabOK (Go.Proofs.Try.func18) rfl (fun C => ?_)
  simp only [Go.Proofs.Try.ntmps18, Go.Proofs.Try.results18, go_sem]
  refine cw_go tabOK 99 (by simp only [go_sem]; try exact rfl) (by simp [go_sem]) ?_
  refine cw_cond (by simp only [go_sem]; try exact rfl) trivial (fun h => ?_) (fun h => ?_)
  · refine cw_go tabOK 99 (by simp only [go_sem]; try exact rfl) (by simp [go_sem]) ?_
    refine cw_ret ⟨_, _, (by simp only [go_sem]; try exact rfl), by simp [go_sem], _, .inr (.inl rfl), ?_⟩
    have hne : a ≠ b := by rintro rfl; simp at h
    simp [hne]
  have hl : a.length = b.length := by simp at h; omega
  refine cw_go tabOK 99 (by simp only [go_sem]; try exact rfl) (by simp [go_sem]) ?_
  refine cw_loopS (fun i : Nat => i ≤ a.length ∧ a.take i = b.take i) (fun i => a.length - i) (fun i => [(13, .int .i64 i), (5, .any), (14, .any), (15, .any), (16, .any), (17, .any), (18, .any), (19, .any), (20, .any), (21, .any), (22, .any), (23, .any), (24, .any), (25, .any), (26, .any), (27, .any), (28, .any), (29, .any), (30, .any), (31, .any), (32, .any), (33, .any), (34, .any), (35, .any), (36, .any), (37, .any), (38, .any), (39, .any), (40, .any), (41, .any), (42, .any), (43, .any), (44, .any), (45, .any), (46, .any), (47, .any), (48, .any), (49, .any), (50, .any), (51, .any), (52, .any), (53, .any), (54, .any)]) (fun _ => []) 0 ⟨by omega, rfl⟩ ?_ fun i hi => ?_
  · simp only [go_sem]
    exact le_sub (by simp [go_sem]) (by simp [go_sem]) (by simp only [go_sem])
  obtain ⟨hi, ht⟩ := hi
  simp only [go_sem]
  refine cw_go tabOK 99 (by simp only [go_sem]; try exact rfl) (by simp [go_sem]) ?_
  refine cw_cond (by simp only [go_sem]; try exact rfl) trivial (fun h => ?_) (fun h => ?_)
  · have hlt : i < a.length := by simp at h; omega
    have hltb : i < b.length := by omega
    have hg : (a.map recRow).getD i [] = recRow (a.getD i default) := Fam.getD hlt
    have hgb : (b.map recRow).getD i [] = recRow (b.getD i default) := Fam.getD hltb
    refine cw_go tabOK 99 (by simp only [go_sem]; try exact rfl) (by simp [go_sem]) ?_
    refine cw_draw mixed ?_
    refine seg_start rfl ?_
    have ga := take_succ_getD hlt
    have gb := take_succ_getD hltb
    generalize a.getD i default = x at hg ga
    generalize b.getD i default = y at hgb gb
    refine seg_runN tabOK 1 (by simp only [go_sem]; exact rfl) (by simp only [go_sem]; exact rfl) (by simp only [go_sem, hlt, hltb, hg, hgb, recRow]; try exact rfl) (by simp [go_sem, hlt, hltb, hg, hgb, recRow]) (by simp only [go_sem]; exact rfl) ?_
    refine seg_runN tabOK 1 (by simp only [go_sem]; exact rfl) (by simp only [go_sem]; exact rfl) (by simp only [go_sem, hlt, hltb, hg, hgb, recRow]; try exact rfl) (by simp [go_sem, hlt, hltb, hg, hgb, recRow]) (by simp only [go_sem]; exact rfl) ?_
    refine seg_runN tabOK 1 (by simp only [go_sem]; exact rfl) (by simp only [go_sem]; exact rfl) (by simp only [go_sem, hlt, hltb, hg, hgb, recRow]; try exact rfl) (by simp [go_sem, hlt, hltb, hg, hgb, recRow]) (by simp only [go_sem]; exact rfl) ?_
    refine seg_runN tabOK 1 (by simp only [go_sem]; exact rfl) (by simp only [go_sem]; exact rfl) (by simp only [go_sem, hlt, hltb, hg, hgb, recRow]; try exact rfl) (by simp [go_sem, hlt, hltb, hg, hgb, recRow]) (by simp only [go_sem]; exact rfl) ?_
    refine seg_runN tabOK 1 (by simp only [go_sem]; exact rfl) (by simp only [go_sem]; exact rfl) (by simp only [go_sem, hlt, hltb, hg, hgb, recRow]; try exact rfl) (by simp [go_sem, hlt, hltb, hg, hgb, recRow]) (by simp only [go_sem]; exact rfl) ?_
    refine seg_runN tabOK 1 (by simp only [go_sem]; exact rfl) (by simp only [go_sem]; exact rfl) (by simp only [go_sem, hlt, hltb, hg, hgb, recRow]; try exact rfl) (by simp [go_sem, hlt, hltb, hg, hgb, recRow]) (by simp only [go_sem]; exact rfl) ?_
    refine seg_runN tabOK 1 (by simp only [go_sem]; exact rfl) (by simp only [go_sem]; exact rfl) (by simp only [go_sem, hlt, hltb, hg, hgb, recRow]; try exact rfl) (by simp [go_sem, hlt, hltb, hg, hgb, recRow]) (by simp only [go_sem]; exact rfl) ?_
    refine seg_runN tabOK 1 (by simp only [go_sem]; exact rfl) (by simp only [go_sem]; exact rfl) (by simp only [go_sem, hlt, hltb, hg, hgb, recRow]; try exact rfl) (by simp [go_sem, hlt, hltb, hg, hgb, recRow]) (by simp only [go_sem]; exact rfl) ?_
    refine seg_runN tabOK 1 (by simp only [go_sem]; exact rfl) (by simp only [go_sem]; exact rfl) (by simp only [go_sem, hlt, hltb, hg, hgb, recRow]; try exact rfl) (by simp [go_sem, hlt, hltb, hg, hgb, recRow]) (by simp only [go_sem]; exact rfl) ?_
    refine seg_runN tabOK 1 (by simp only [go_sem]; exact rfl) (by simp only [go_sem]; exact rfl) (by simp only [go_sem, hlt, hltb, hg, hgb, recRow]; try exact rfl) (by simp [go_sem, hlt, hltb, hg, hgb, recRow]) (by simp only [go_sem]; exact rfl) ?_
    refine seg_runN tabOK 1 (by simp only [go_sem]; exact rfl) (by simp only [go_sem]; exact rfl) (by simp only [go_sem, hlt, hltb, hg, hgb, recRow]; try exact rfl) (by simp [go_sem, hlt, hltb, hg, hgb, recRow]) (by simp only [go_sem]; exact rfl) ?_
    refine seg_runN tabOK 1 (by simp only [go_sem]; exact rfl) (by simp only [go_sem]; exact rfl) (by simp only [go_sem, hlt, hltb, hg, hgb, recRow]; try exact rfl) (by simp [go_sem, hlt, hltb, hg, hgb, recRow]) (by simp only [go_sem]; exact rfl) ?_
    generalize h1 : (x.version != y.version) = c1
    refine seg_runN tabOK 1 (by simp only [go_sem]; exact rfl) (by simp only [go_sem]; exact rfl) (by simp only [go_sem, hlt, hltb, hg, hgb, recRow]; try exact rfl) (by simp [go_sem, hlt, hltb, hg, hgb, recRow]) (by simp only [go_sem]; exact rfl) ?_
    refine seg_runN tabOK 1 (by simp only [go_sem]; exact rfl) (by simp only [go_sem]; exact rfl) (by simp only [go_sem, hlt, hltb, hg, hgb, recRow]; try exact rfl) (by simp [go_sem, hlt, hltb, hg, hgb, recRow]) (by simp only [go_sem]; exact rfl) ?_
    refine seg_runN tabOK 1 (by simp only [go_sem]; exact rfl) (by simp only [go_sem]; exact rfl) (by simp only [go_sem, hlt, hltb, hg, hgb, recRow]; try exact rfl) (by simp [go_sem, hlt, hltb, hg, hgb, recRow]) (by simp only [go_sem]; exact rfl) ?_
    refine seg_runN tabOK 1 (by simp only [go_sem]; exact rfl) (by simp only [go_sem]; exact rfl) (by simp only [go_sem, hlt, hltb, hg, hgb, recRow]; try exact rfl) (by simp [go_sem, hlt, hltb, hg, hgb, recRow]) (by simp only [go_sem]; exact rfl) ?_
    refine seg_runN tabOK 1 (by simp only [go_sem]; exact rfl) (by simp only [go_sem]; exact rfl) (by simp only [go_sem, hlt, hltb, hg, hgb, recRow]; try exact rfl) (by simp [go_sem, hlt, hltb, hg, hgb, recRow]) (by simp only [go_sem]; exact rfl) ?_
    refine seg_runN tabOK 1 (by simp only [go_sem]; exact rfl) (by simp only [go_sem]; exact rfl) (by simp only [go_sem, hlt, hltb, hg, hgb, recRow]; try exact rfl) (by simp [go_sem, hlt, hltb, hg, hgb, recRow]) (by simp only [go_sem]; exact rfl) ?_
    refine seg_runN tabOK 1 (by simp only [go_sem]; exact rfl) (by simp only [go_sem]; exact rfl) (by simp only [go_sem, hlt, hltb, hg, hgb, recRow]; try exact rfl) (by simp [go_sem, hlt, hltb, hg, hgb, recRow]) (by simp only [go_sem]; exact rfl) ?_
    refine seg_runN tabOK 1 (by simp only [go_sem]; exact rfl) (by simp only [go_sem]; exact rfl) (by simp only [go_sem, hlt, hltb, hg, hgb, recRow]; try exact rfl) (by simp [go_sem, hlt, hltb, hg, hgb, recRow]) (by simp only [go_sem]; exact rfl) ?_
    refine seg_runN tabOK 1 (by simp only [go_sem]; exact rfl) (by simp only [go_sem]; exact rfl) (by simp only [go_sem, hlt, hltb, hg, hgb, recRow]; try exact rfl) (by simp [go_sem, hlt, hltb, hg, hgb, recRow]) (by simp only [go_sem]; exact rfl) ?_
    refine seg_runN tabOK 1 (by simp only [go_sem]; exact rfl) (by simp only [go_sem]; exact rfl) (by simp only [go_sem, hlt, hltb, hg, hgb, recRow]; try exact rfl) (by simp [go_sem, hlt, hltb, hg, hgb, recRow]) (by simp only [go_sem]; exact rfl) ?_
    refine seg_runN tabOK 1 (by simp only [go_sem]; exact rfl) (by simp only [go_sem]; exact rfl) (by simp only [go_sem, hlt, hltb, hg, hgb, recRow]; try exact rfl) (by simp [go_sem, hlt, hltb, hg, hgb, recRow]) (by simp only [go_sem]; exact rfl) ?_
    refine seg_runN tabOK 1 (by simp only [go_sem]; exact rfl) (by simp only [go_sem]; exact rfl) (by simp only [go_sem, hlt, hltb, hg, hgb, recRow]; try exact rfl) (by simp [go_sem, hlt, hltb, hg, hgb, recRow]) (by simp only [go_sem]; exact rfl) ?_
    refine seg_runN tabOK 1 (by simp only [go_sem]; exact rfl) (by simp only [go_sem]; exact rfl) (by simp only [go_sem, hlt, hltb, hg, hgb, recRow]; try exact rfl) (by simp [go_sem, hlt, hltb, hg, hgb, recRow]) (by simp only [go_sem]; exact rfl) ?_
    generalize h2 : (bif c1 then true else x.id != y.id) = c2
    refine seg_runN tabOK 1 (by simp only [go_sem]; exact rfl) (by simp only [go_sem]; exact rfl) (by simp only [go_sem, hlt, hltb, hg, hgb, recRow]; try exact rfl) (by simp [go_sem, hlt, hltb, hg, hgb, recRow]) (by simp only [go_sem]; exact rfl) ?_
    refine seg_runN tabOK 1 (by simp only [go_sem]; exact rfl) (by simp only [go_sem]; exact rfl) (by simp only [go_sem, hlt, hltb, hg, hgb, recRow]; try exact rfl) (by simp [go_sem, hlt, hltb, hg, hgb, recRow]) (by simp only [go_sem]; exact rfl) ?_
    refine seg_runN tabOK 1 (by simp only [go_sem]; exact rfl) (by simp only [go_sem]; exact rfl) (by simp only [go_sem, hlt, hltb, hg, hgb, recRow]; try exact rfl) (by simp [go_sem, hlt, hltb, hg, hgb, recRow]) (by simp only [go_sem]; exact rfl) ?_
    refine seg_runN tabOK 1 (by simp only [go_sem]; exact rfl) (by simp only [go_sem]; exact rfl) (by simp only [go_sem, hlt, hltb, hg, hgb, recRow]; try exact rfl) (by simp [go_sem, hlt, hltb, hg, hgb, recRow]) (by simp only [go_sem]; exact rfl) ?_
    refine seg_runN tabOK 1 (by simp only [go_sem]; exact rfl) (by simp only [go_sem]; exact rfl) (by simp only [go_sem, hlt, hltb, hg, hgb, recRow]; try exact rfl) (by simp [go_sem, hlt, hltb, hg, hgb, recRow]) (by simp only [go_sem]; exact rfl) ?_
    refine seg_runN tabOK 1 (by simp only [go_sem]; exact rfl) (by simp only [go_sem]; exact rfl) (by simp only [go_sem, hlt, hltb, hg, hgb, recRow]; try exact rfl) (by simp [go_sem, hlt, hltb, hg, hgb, recRow]) (by simp only [go_sem]; exact rfl) ?_
    refine seg_runN tabOK 1 (by simp only [go_sem]; exact rfl) (by simp only [go_sem]; exact rfl) (by simp only [go_sem, hlt, hltb, hg, hgb, recRow]; try exact rfl) (by simp [go_sem, hlt, hltb, hg, hgb, recRow]) (by simp only [go_sem]; exact rfl) ?_
    refine seg_runN tabOK 1 (by simp only [go_sem]; exact rfl) (by simp only [go_sem]; exact rfl) (by simp only [go_sem, hlt, hltb, hg, hgb, recRow]; try exact rfl) (by simp [go_sem, hlt, hltb, hg, hgb, recRow]) (by simp only [go_sem]; exact rfl) ?_
    refine seg_runN tabOK 1 (by simp only [go_sem]; exact rfl) (by simp only [go_sem]; exact rfl) (by simp only [go_sem, hlt, hltb, hg, hgb, recRow]; try exact rfl) (by simp [go_sem, hlt, hltb, hg, hgb, recRow]) (by simp only [go_sem]; exact rfl) ?_
    refine seg_runN tabOK 1 (by simp only [go_sem]; exact rfl) (by simp only [go_sem]; exact rfl) (by simp only [go_sem, hlt, hltb, hg, hgb, recRow]; try exact rfl) (by simp [go_sem, hlt, hltb, hg, hgb, recRow]) (by simp only [go_sem]; exact rfl) ?_
    refine seg_callC rfl (by simp only [go_sem]; try exact rfl) (by simp only [go_sem]; try exact rfl) (by simp [go_sem]) ⟨_, Go.Proofs.Try.func23, by kernel_rfl, rfl⟩ (by simp [go_sem]) (fun hb => (sameAct_ok x.act y.act)) (by simp [go_sem]) (by simp only [go_sem]; exact rfl) (by simp only [go_sem]; exact rfl) ?_
    refine seg_runN tabOK 1 (by simp only [go_sem]; exact rfl) (by simp only [go_sem]; exact rfl) (by simp only [go_sem]; try exact rfl) (by simp [go_sem]) (by simp only [go_sem]; exact rfl) ?_
    refine seg_runN tabOK 1 (by simp only [go_sem]; exact rfl) (by simp only [go_sem]; exact rfl) (by simp only [go_sem]; try exact rfl) (by simp [go_sem]) (by simp only [go_sem]; exact rfl) ?_
    refine seg_end (by kernel_rfl) (by simp only [go_sem]; exact rfl) ?_
    refine draw_close (by kernel_rfl) ?_
    have hx : (x = y) ↔ ((bif c2 then true else !decide (x.act = y.act)) = false) := by
      subst h2 h1
      obtain ⟨xa, xv, xi⟩ := x
      obtain ⟨ya, yv, yi⟩ := y
      simp only [Rec.mk.injEq, Bool.cond_eq_ite]
      by_cases e1 : xv = yv <;> by_cases e2 : xi = yi <;> simp [e1, e2]
    refine cw_cond (by simp only [go_sem]; try exact rfl) trivial (fun h => ?_) (fun h => ?_)
    · refine cw_go tabOK 99 (by simp only [go_sem]; try exact rfl) (by simp [go_sem]) ?_
      refine cw_ret ⟨_, _, (by simp only [go_sem]; try exact rfl), by simp [go_sem], _, .inr (.inl rfl), ?_⟩
      have hne : a ≠ b := by
        intro he
        rw [← he, ga] at gb
        have e := List.append_cancel_left gb
        injection e with e
        rw [hx.1 e] at h
        cases h
      simp [hne]
    · refine cw_go tabOK 99 (by simp only [go_sem]; try exact rfl) (by simp [go_sem]) ?_
      have hw : IntKind.i64.wrap ((i : Int) + 1) = (i : Int) + 1 := wrap_small (by omega) (by omega)
      refine cw_back ⟨i + 1, ⟨by omega, by rw [ga, gb, ht, hx.2 h]⟩, by omega, le_sub ?_ ?_ ?_⟩
      · simp [go_sem, hw]
      · simp [go_sem]
      · simp only [go_sem]
  · have e : i = a.length := by simp at h; omega
    refine cw_go tabOK 99 (by simp only [go_sem]; try exact rfl) (by simp [go_sem]) ?_
    refine cw_ret ⟨_, _, (by simp only [go_sem]; try exact rfl), by simp [go_sem], _, .inr (.inl rfl), ?_⟩
    have : a = b := by
      rw [e, List.take_length, hl, List.take_length] at ht
      exact ht
    simp [this]
end La

namespace La
open Go Go.Eng Go.Proofs
set_option maxRecDepth 10000
set_option linter.unusedSimpArgs false
set_option linter.unusedVariables false

theorem gone_none {l : List Rec} {k i : Nat} (h : goneB l k i = false) {f : Int} (hf : f ∈ fids (l.getD i default).act) : getB (lostAt l k i) f = false := by
  unfold goneB goneC at h
  rw [Bool.or_eq_false_iff, List.any_eq_false] at h
  have := h.2 f hf
  simpa using this
theorem left_slice {l : List Rec} {k i : Nat} (hi : i < l.length) (h : goneB l k i = false) : (((leftTo l k l.length).map recRow).take ((leftTo l k i).length + 1)).drop (leftTo l k i).length = [l.getD i default].map recRow := by
  have h1 := left_at hi h
  obtain ⟨h2, h3⟩ := List.getElem?_eq_some_iff.1 h1
  rw [← List.map_take, ← List.map_drop, List.drop_take, Nat.add_sub_cancel_left, List.drop_eq_getElem_cons h2, h3]
  rfl
theorem left_lt {l : List Rec} {k i : Nat} (hi : i < l.length) (h : goneB l k i = false) : (leftTo l k i).length < (leftTo l k l.length).length := (List.getElem?_eq_some_iff.1 (left_at hi h)).1

theorem rdrop_out (l : List Rec) (k : Int) (ho : outK l k) (hlen : l.length ≤ 2000000) : FnOK Try.prog 13 [.sl (l.map recRow), .int .i64 k] [] (fun r _ => r = .bool true) := by
  have hd := drop_out l k ho (by omega)
  refine fn_of_cwW tabOK (Go.Proofs.Try.func13) rfl (fun C => ?_)
  simp only [Go.Proofs.Try.ntmps13, Go.Proofs.Try.results13, go_sem]
  refine cw_go tabOK 99 (by simp only [go_sem]; try exact rfl) (by simp [go_sem]) ?_
  refine cw_call rfl rfl (by simp only [go_sem]; try exact rfl) (by simp [go_sem]) ⟨_, Go.Proofs.Try.func56, by kernel_rfl, rfl⟩ (by simp [go_sem]) (alive11) (by simp [go_sem]) (by simp only [go_sem]; exact rfl) ?_
  refine cw_go tabOK 99 (by simp only [go_sem]; try exact rfl) (by simp [go_sem]) ?_
  refine cw_cond (by simp only [go_sem]; try exact rfl) trivial (fun h => ?_) (fun h => ?_)
  · cases h
  refine cw_go tabOK 99 (by simp only [go_sem]; try exact rfl) (by simp [go_sem]) ?_
  refine cw_call rfl rfl (by simp only [go_sem]; try exact rfl) (by simp [go_sem]) ⟨_, Go.Proofs.Try.func57, by kernel_rfl, rfl⟩ (by simp [go_sem]) (hd) (by simp [go_sem]) (by simp only [go_sem]; exact rfl) ?_
  refine cw_go tabOK 99 (by simp only [go_sem]; try exact rfl) (by simp [go_sem]) ?_
  refine cw_condT (by simp only [go_sem]; try exact rfl) trivial (by simp) ?_
  refine cw_go tabOK 99 (by simp only [go_sem]; try exact rfl) (by simp [go_sem]) ?_
  refine cw_ret ⟨_, _, (by simp only [go_sem]; try exact rfl), by simp [go_sem], _, .inr (.inl rfl), ?_⟩
  rfl
set_option maxHeartbeats 4000000 in
theorem rdrop_in (l : List Rec) (k : Nat) (hk : k < l.length) (hl : SmallL l) (hlen : l.length ≤ 2000000) : FnOK Try.prog 13 [.sl (l.map recRow), .int .i64 k] [] (fun r _ => r = .bool true) := by
  have hd := drop_raw l k hk hl (by omega)
  have hre := rests_read l k hk (by omega)
  have hcl := left_count l k l.length
  rw [if_pos hk] at hcl
  have hgr : (goneL l k).map intRow = (restTo l k l.length).map intRow ++ [[.int .i64 (k : Int)]] := by unfold goneL; rw [List.map_append]; rfl
  have hgln : (goneL l k).length = (restTo l k l.length).length + 1 := by unfold goneL; simp
  have hws : IntKind.i64.wrap ((l.length : Int) - ((leftTo l k l.length).length : Int)) = (((goneL l k).length : Nat) : Int) := by rw [Eng.wrap_small (by omega) (by omega)]; omega
  have hgt : decide (((leftTo l k l.length).length : Int) > (l.length : Int)) = false := decide_eq_false (by omega)
  refine fn_of_cwW tabOK (Go.Proofs.Try.func13) rfl (fun C => ?_)
  simp only [Go.Proofs.Try.ntmps13, Go.Proofs.Try.results13, go_sem]
  refine cw_go tabOK 99 (by simp only [go_sem]; try exact rfl) (by simp [go_sem]) ?_
  refine cw_call rfl rfl (by simp only [go_sem]; try exact rfl) (by simp [go_sem]) ⟨_, Go.Proofs.Try.func56, by kernel_rfl, rfl⟩ (by simp [go_sem]) (alive11) (by simp [go_sem]) (by simp only [go_sem]; exact rfl) ?_
  refine cw_go tabOK 99 (by simp only [go_sem]; try exact rfl) (by simp [go_sem]) ?_
  refine cw_cond (by simp only [go_sem]; try exact rfl) trivial (fun h => ?_) (fun h => ?_)
  · cases h
  refine cw_go tabOK 99 (by simp only [go_sem]; try exact rfl) (by simp [go_sem]) ?_
  refine cw_call rfl rfl (by simp only [go_sem]; try exact rfl) (by simp [go_sem]) ⟨_, Go.Proofs.Try.func57, by kernel_rfl, rfl⟩ (by simp [go_sem]) (hd) (by simp [go_sem]) (by simp only [go_sem]; exact rfl) ?_
  refine cw_go tabOK 99 (by simp only [go_sem]; try exact rfl) (by simp [go_sem]) ?_
  refine cw_condF (by simp only [go_sem]; try exact rfl) trivial (by simp) ?_
  refine cw_go tabOK 99 (by simp only [go_sem]; try exact rfl) (by simp [go_sem]) ?_
  refine cw_call rfl rfl (by simp only [go_sem]; try exact rfl) (by simp [go_sem]) ⟨_, Go.Proofs.Try.func58, by kernel_rfl, rfl⟩ (by simp [go_sem]) (hre) (by simp [go_sem]) (by simp only [go_sem]; exact rfl) ?_
  refine cw_goR 99 (by simp only [go_sem]; try exact rfl) ?_
  refine cw_runN tabOK 4 (by simp only [go_sem]; exact rfl) (by simp only [go_sem]; exact rfl) (by simp only [go_sem]; try exact rfl) ?_ ?_
  · simp [rowsOf]; omega
  rw [← hgr, ← hgln]
  refine cw_freeze 34 rfl (intRow_pure _) ?_
  simp only [go_sem]
  refine cw_go tabOK 99 (by simp only [go_sem]; try exact rfl) (by simp [go_sem]) ?_
  refine cw_condF (by simp only [go_sem]; try exact rfl) trivial (by simp [hws]; omega) ?_
  refine cw_go tabOK 99 (by simp only [go_sem]; try exact rfl) (by simp [go_sem]) ?_
  refine cw_loopS (fun i : Nat => i ≤ l.length) (fun i => l.length - i) (fun i => [(8, .int .i64 ((leftTo l k i).length : Nat)), (10, .any), (11, .any), (13, .any), (53, .int .i64 i), (54, .any), (55, .any), (56, .any), (57, .any), (58, .any), (59, .any), (60, .any), (61, .any), (62, .any), (63, .any), (64, .any), (65, .any), (66, .any), (67, .any), (68, .any), (69, .any), (70, .any), (71, .any), (72, .any), (73, .any), (74, .any), (75, .any), (76, .any), (77, .any), (78, .any), (79, .any), (80, .any), (81, .any), (82, .any), (83, .any), (84, .any), (85, .any), (86, .any), (87, .any), (88, .any), (89, .any), (90, .any), (91, .any), (92, .any), (93, .any), (94, .any)]) (fun i => [(50, .map (mB (lostAt l k i)))]) 0 (by omega) ?_ fun i hi => ?_
  · simp only [go_sem]
    exact le_sub (by simp [go_sem, leftTo]) (by simp [go_sem, lostAt, mB]) (by simp [go_sem])
  simp only [go_sem]
  refine cw_go tabOK 99 (by simp only [go_sem]; try exact rfl) (by simp [go_sem]) ?_
  refine cw_cond (by simp only [go_sem]; try exact rfl) trivial (fun h => ?_) (fun h => ?_)
  · have hlt : i < l.length := by simp at h; omega
    have hg : (l.map recRow).getD i [] = recRow (l.getD i default) := Fam.getD hlt
    have hwi : IntKind.i64.wrap ((i : Int) + 1) = ((i + 1 : Nat) : Int) := by rw [Eng.wrap_small (by omega) (by omega)]; rfl
    have hls := leftTo_succ l k i
    have hos := lostAt_succ l k i
    have hhas := rhas_ok (goneL l k) (by omega) (i : Int)
    rw [goneL_has hlt] at hhas
    have hnone := fun h f => @gone_none l k i h f
    have hslice := @left_slice l k i hlt
    have hlts := @left_lt l k i hlt
    have hsam := sameLog_ok [l.getD i default] [l.getD i default] (by simp) (by simp)
    rw [decide_eq_true rfl] at hsam
    generalize l.getD i default = r at *
    refine cw_go tabOK 99 (by simp only [go_sem, hg, recRow]; try exact rfl) ?_ ?_
    · simp [hg, recRow, hlt]
    refine cw_call rfl rfl (by simp only [go_sem]; try exact rfl) (by simp [go_sem]) ⟨_, Go.Proofs.Try.func59, by kernel_rfl, rfl⟩ (by simp [go_sem]) (hhas) (by simp [go_sem]) (by simp only [go_sem]; exact rfl) ?_
    refine cw_go tabOK 99 (by simp only [go_sem]; try exact rfl) (by simp [go_sem]) ?_
    cases hb : goneB l k i with
    | true =>
      rw [hb, if_pos rfl] at hls hos
      refine cw_condT (by simp only [go_sem]; try exact rfl) trivial (by simp) ?_
      refine cw_go tabOK 99 (by simp only [go_sem, hwi]; try exact rfl) ?_ ?_
      · simp [AV.deepB, AV.pureB]
      refine cw_back ⟨i + 1, by omega, by omega, le_sub ?_ ?_ ?_⟩
      · simp [go_sem, hls]
      · simp [go_sem, hos]
      · simp [go_sem]
    | false =>
      rw [hb, if_neg Bool.false_ne_true] at hls hos
      have hsl := hslice hb
      have hl2 := hlts hb
      have hno := hnone hb
      have hge : decide (((leftTo l k i).length : Int) ≥ ((leftTo l k l.length).length : Int)) = false := decide_eq_false (by omega)
      have hwa : IntKind.i64.wrap (((leftTo l k i).length : Int) + 1) = (((leftTo l k i).length + 1 : Nat) : Int) := by rw [Eng.wrap_small (by omega) (by omega)]; rfl
      clear hslice hlts hnone
      have hfi := refFids_ok r.act
      have hf3 := fids_len r.act
      unfold actRow at hfi
      simp only [List.map_cons, List.map_nil, recRow] at hsl hsam
      refine cw_condF (by simp only [go_sem]; try exact rfl) trivial (by simp) ?_
      refine cw_go tabOK 99 (by simp only [go_sem]; try exact rfl) (by simp [go_sem]) ?_
      refine cw_draw mixed ?_
      refine seg_start rfl ?_
      refine seg_runN tabOK 9 (by simp only [go_sem]; exact rfl) (by simp only [go_sem]; exact rfl) (by simp only [go_sem, hge, hwa]; try exact rfl) (by simp [go_sem, hge, hwa]) (by simp only [go_sem]; exact rfl) ?_
      refine seg_runN tabOK 2 (by simp only [go_sem]; exact rfl) (by simp only [go_sem]; exact rfl) (by simp only [go_sem, hsl]; try exact rfl) ?_ (by simp only [go_sem]; exact rfl) ?_
      · simp
        exact ⟨by omega, by omega, fun a _ => rfl⟩
      refine seg_new tabOK rfl (by simp only [go_sem]; try exact rfl) (by simp only [go_sem]; try exact rfl) (by simp [go_sem]) (by simp only [go_sem]; try exact rfl) (by simp only [go_sem]; exact rfl) (by simp only [go_sem]; exact rfl) ?_
      refine seg_viewC rfl (by simp only [go_sem]; try exact rfl) (by simp only [go_sem]; try exact rfl) (by simp [go_sem]) (by simp only [go_sem]; try exact rfl) (by simp [go_sem]) ⟨_, Go.Proofs.Try.func18, by kernel_rfl, rfl⟩ (fun hb => (hsam)) (by simp [go_sem]) (by simp only [go_sem]; exact rfl) (by simp only [go_sem]; exact rfl) ?_
      refine seg_runN tabOK 2 (by simp only [go_sem]; exact rfl) (by simp only [go_sem]; exact rfl) (by simp only [go_sem]; try exact rfl) (by simp [go_sem]) (by simp only [go_sem]; exact rfl) ?_
      refine seg_end (by kernel_rfl) (by simp only [go_sem]; exact rfl) ?_
      refine draw_close (by kernel_rfl) ?_
      try simp only [go_sem, List.getElem_toArray, List.getElem_cons_succ, List.getElem_cons_zero]
      refine cw_go tabOK 99 (by simp only [go_sem]; try exact rfl) (by simp [go_sem]) ?_
      refine cw_condF (by simp only [go_sem]; try exact rfl) trivial (by simp) ?_
      refine cw_go tabOK 99 (by simp only [go_sem, hwa]; try exact rfl) (by simp [go_sem, hwa]) ?_
      refine cw_call rfl rfl (by simp only [go_sem]; try exact rfl) (by simp [go_sem]) ⟨_, Go.Proofs.Try.func60, by kernel_rfl, rfl⟩ (by simp [go_sem]) (hfi) (by simp [go_sem]) (by simp only [go_sem]; exact rfl) ?_
      refine cw_go tabOK 99 (by simp only [go_sem]; try exact rfl) (by simp [go_sem]) ?_
      refine cw_loopS (fun j : Nat => j ≤ (fids r.act).length) (fun j => (fids r.act).length - j) (fun j => [(13, .any), (86, .int .i64 j), (87, .any), (88, .any), (89, .any), (90, .any), (91, .any), (92, .any), (93, .any)]) (fun _ => []) 0 (by omega) ?_ fun j hj => ?_
      · simp only [go_sem]
        exact le_sub (by simp [go_sem]) (by simp [go_sem]) (by simp [go_sem])
      simp only [go_sem]
      refine cw_go tabOK 99 (by simp only [go_sem]; try exact rfl) (by simp [go_sem]) ?_
      refine cw_cond (by simp only [go_sem]; try exact rfl) trivial (fun h => ?_) (fun h => ?_)
      · have hlj : j < (fids r.act).length := by simp at h; omega
        have hgj : ((fids r.act).map intRow).getD j [] = intRow ((fids r.act).getD j default) := Fam.getD hlj
        have hnf := hno _ (getD_mem hlj)
        have hwj : IntKind.i64.wrap ((j : Int) + 1) = ((j + 1 : Nat) : Int) := by rw [Eng.wrap_small (by omega) (by omega)]; rfl
        generalize (fids r.act).getD j default = f at *
        refine cw_go tabOK 99 (by simp only [go_sem, hgj, intRow]; try exact rfl) ?_ ?_
        · simp [hgj, intRow, hlj]
        refine cw_condF (by simp only [go_sem]; try exact rfl) trivial (by simp [hnf]) ?_
        refine cw_go tabOK 99 (by simp only [go_sem, hwj]; try exact rfl) (by simp [go_sem, hwj]) ?_
        refine cw_back ⟨j + 1, by omega, by omega, le_sub ?_ ?_ ?_⟩
        · simp [go_sem]
        · simp [go_sem]
        · simp [go_sem]
      · have e : j = (fids r.act).length := by simp at h; omega
        subst e
        refine cw_go tabOK 99 (by simp only [go_sem, hwi]; try exact rfl) (by simp [go_sem, hwi]) ?_
        refine cw_back ⟨i + 1, by omega, by omega, le_sub ?_ ?_ ?_⟩
        · simp [go_sem, hls]
        · simp [go_sem, hos]
        · simp [go_sem]
  · have e : i = l.length := by simp at h; omega
    subst e
    refine cw_go tabOK 99 (by simp only [go_sem]; try exact rfl) (by simp [go_sem]) ?_
    refine cw_ret ⟨_, _, (by simp only [go_sem]; try exact rfl), by simp [go_sem], _, .inr (.inl rfl), ?_⟩
    simp
theorem rdrop_ok (l : List Rec) (k : Int) (hl : SmallL l) (hlen : l.length ≤ 2000000) : FnOK Try.prog 13 [.sl (l.map recRow), .int .i64 k] [] (fun r _ => r = .bool true) := by
  by_cases ho : outK l k
  · exact rdrop_out l k ho hlen
  · unfold outK at ho
    obtain ⟨k, rfl⟩ : ∃ n : Nat, k = n := ⟨k.toNat, by omega⟩
    exact rdrop_in l k (by omega) hl hlen
end La

namespace La
open Go Go.Eng Go.Proofs Go.Proofs.Ytldpfleilffanaa

/-- cells that read so, in blocks that are there -/
def RdC (w : World) (cs : List Value) (xs : List AV) : Prop := cs.length = xs.length ∧ ∀ (j : Nat) y, xs[j]? = some y → RdP (fun b => b < w.heap.size) w (cs.getD j undef) y

theorem rdc_nil {w : World} {cs : List Value} {off : Nat} (h : cs.length = off) : RdC w (cs.drop off) [] :=
  ⟨by simp; omega, fun j y hj => by simp at hj⟩

theorem rdc_cons {w : World} {cs : List Value} {xs ys : List AV} (off s : Nat) (h : RdC w ((cs.drop off).take s) xs) (hs : xs.length = s) (k : RdC w (cs.drop (off + s)) ys) : RdC w (cs.drop off) (xs ++ ys) := by
  obtain ⟨h1, h2⟩ := h
  obtain ⟨k1, k2⟩ := k
  have hl : (cs.drop off).length = s + (cs.drop (off + s)).length := by
    simp only [List.length_take, List.length_drop] at h1 k1 ⊢
    omega
  refine ⟨by rw [List.length_append, hl, hs, k1], fun j y hj => ?_⟩
  by_cases hjs : j < s
  · rw [List.getElem?_append_left (by omega)] at hj
    have := h2 j y hj
    rwa [List.getD_eq_getElem?_getD, List.getElem?_take, if_pos hjs, ← List.getD_eq_getElem?_getD] at this
  · rw [List.getElem?_append_right (by omega), hs] at hj
    have := k2 (j - s) y hj
    rw [List.getD_eq_getElem?_getD, List.getElem?_drop] at this
    rw [List.getD_eq_getElem?_getD, List.getElem?_drop]
    rwa [show off + s + (j - s) = off + j from by omega] at this

/-- A TYPE's VALUES, AS LEAN HAS THEM: the cells read as 'f x', 'q' holds of it, and it is no larger than what was read. -/
structure Rep (t : TypeId) {α : Type} (f : α → List AV) (q : α → Prop) (sz : α → Nat) : Prop where
  size : ∀ x, (f x).length = (Try.prog).cellsOf t
  opn : ∀ {H : Type} (enc : TypeId × Value → H) (w : World) (n : Nat) (cs : List Value) (y : DataW H × List MemPlace), DataW.trod enc Try.prog w 0 (fun _ => true) true n t cs = some y →
    ∃ x : α, q x ∧ sz x ≤ Rows.uptoBulk y.1 ∧ RdC w cs (f x)

theorem cells_tab {t : TypeId} {n : Nat} (h : tab.siz t = n) (h0 : n ≠ 0) : (Try.prog).cellsOf t = n := by
  obtain ⟨i, h1, h2, _⟩ := tabOK.siz t (by rw [h]; exact h0)
  unfold Program.cellsOf
  rw [h1]
  simp [h2, h]

theorem rep_int {t : TypeId} (ht : (Try.prog).underlying t = some (.int .i64)) (hs : (Try.prog).cellsOf t = 1) : Rep t (fun n : Int => [AV.int .i64 n]) (fun n => -9223372036854775808 ≤ n ∧ n ≤ 9223372036854775807) (fun _ => 1) where
  size := fun _ => by rw [hs]; rfl
  opn := fun enc w n cs y h => by
    obtain ⟨m, rfl, rfl, hw⟩ := DataW.trod_int ht h
    refine ⟨m, ?_, by simp [Rows.uptoBulk], rfl, fun j y hj => ?_⟩
    · simpa [Lit.wf, IntKind.min, IntKind.max, IntKind.bits, IntKind.signed] using hw
    · cases j with
      | zero => simp only [List.getElem?_cons_zero, Option.some.injEq] at hj; subst hj; exact .int _ _
      | succ j => simp at hj

theorem rep_bool {t : TypeId} (ht : (Try.prog).underlying t = some .bool) (hs : (Try.prog).cellsOf t = 1) : Rep t (fun b : Bool => [AV.bool b]) (fun _ => True) (fun _ => 1) where
  size := fun _ => by rw [hs]; rfl
  opn := fun enc w n cs y h => by
    obtain ⟨b, rfl, rfl⟩ := DataW.trod_bool ht h
    refine ⟨b, trivial, by simp [Rows.uptoBulk], rfl, fun j y hj => ?_⟩
    cases j with
    | zero => simp only [List.getElem?_cons_zero, Option.some.injEq] at hj; subst hj; exact .bool _
    | succ j => simp at hj

theorem rep_str {t : TypeId} (ht : (Try.prog).underlying t = some .string) (hs : (Try.prog).cellsOf t = 1) : Rep t (fun s : List UInt8 => [AV.str s]) (fun _ => True) (fun s => s.length + 1) where
  size := fun _ => by rw [hs]; rfl
  opn := fun enc w n cs y h => by
    obtain ⟨s, rfl, rfl, _⟩ := DataW.trod_string ht h
    refine ⟨s.data.toList, trivial, by simp [Rows.uptoBulk], rfl, fun j y hj => ?_⟩
    cases j with
    | zero => simp only [List.getElem?_cons_zero, Option.some.injEq] at hj; subst hj; exact .str _ _ rfl
    | succ j => simp at hj

theorem rep_byte {t : TypeId} (ht : (Try.prog).underlying t = some (.int .u8)) (hs : (Try.prog).cellsOf t = 1) : Rep t byteRow (fun _ => True) (fun _ => 1) where
  size := fun _ => by rw [hs]; rfl
  opn := fun enc w n cs y h => by
    obtain ⟨m, rfl, rfl, hw⟩ := DataW.trod_int ht h
    have hb : 0 ≤ m ∧ m ≤ 255 := by simpa [Lit.wf, IntKind.min, IntKind.max, IntKind.bits, IntKind.signed] using hw
    refine ⟨UInt8.ofNat m.toNat, trivial, by simp [Rows.uptoBulk], rfl, fun j y hj => ?_⟩
    cases j with
    | zero =>
      simp only [byteRow, List.getElem?_cons_zero, Option.some.injEq] at hj
      subst hj
      have : ((UInt8.ofNat m.toNat).toNat : Int) = m := by
        rw [UInt8.toNat_ofNat']
        omega
      rw [this]; exact .int _ _
    | succ j => simp [byteRow] at hj

/-- how much a list holds -/
def szL {α : Type} (sz : α → Nat) : List α → Nat
  | [] => 0
  | x :: r => sz x + szL sz r

theorem szL_mem {α : Type} {sz : α → Nat} {x : α} : ∀ {l : List α}, x ∈ l → sz x ≤ szL sz l
  | y :: r, h => by
    rcases List.mem_cons.1 h with rfl | h
    · simp only [szL]; omega
    · have := szL_mem (sz := sz) h; simp only [szL]; omega

theorem szL_len {α : Type} {sz : α → Nat} (h : ∀ x, 1 ≤ sz x) : ∀ (l : List α), l.length ≤ szL sz l
  | [] => Nat.le_refl _
  | x :: r => by have := szL_len h r; have := h x; simp only [szL, List.length_cons]; omega

theorem bulkAll_append {H : Type} : ∀ (a b : List (DataW H)), Rows.uptoBulkAll (a ++ b) = Rows.uptoBulkAll a + Rows.uptoBulkAll b
  | [], b => by simp [Rows.uptoBulkAll]
  | x :: a, b => by simp only [List.cons_append, Rows.uptoBulkAll, bulkAll_append a b]; omega

/-- what each element is, one by one -/
theorem pick_list {α H : Type} {q : α → Prop} {sz : α → Nat} {R : Nat → α → Prop} : ∀ (elems : List (DataW H × List MemPlace)) (i0 : Nat), (∀ (i : Nat) y, elems[i]? = some y → ∃ x, q x ∧ sz x ≤ Rows.uptoBulk y.1 ∧ R (i0 + i) x) →
    ∃ l : List α, l.length = elems.length ∧ (∀ x, x ∈ l → q x) ∧ szL sz l ≤ Rows.uptoBulkAll (elems.map (·.1)) ∧ ∀ (i : Nat) x, l[i]? = some x → R (i0 + i) x
  | [], _, _ => ⟨[], rfl, fun x h => by simp at h, by simp [szL], fun i x h => by simp at h⟩
  | y :: r, i0, h => by
    obtain ⟨x, h1, h2, h3⟩ := h 0 y rfl
    obtain ⟨l, k1, k2, k3, k4⟩ := pick_list (R := R) r (i0 + 1) (fun i z hz => by rw [show i0 + 1 + i = i0 + (i + 1) from by omega]; exact h (i + 1) z (by simpa using hz))
    refine ⟨x :: l, by simp [k1], fun z hz => ?_, ?_, fun i z hz => ?_⟩
    · rcases List.mem_cons.1 hz with rfl | hz
      · exact h1
      · exact k2 z hz
    · simp only [szL, List.map_cons, Rows.uptoBulkAll]; omega
    · cases i with
      | zero => simp only [List.getElem?_cons_zero, Option.some.injEq] at hz; subst hz; exact h3
      | succ i => rw [show i0 + (i + 1) = i0 + 1 + i from by omega]; exact k4 i z (by simpa using hz)

theorem cells_some {w : World} {a : Addr} {n : Nat} {cs : List Value} (h : w.cells? 0 a n = some cs) : cs.length = n ∧ ∀ i, i < n → w.cell? (a.add i) = cs[i]? := by
  unfold World.cells? at h
  rw [if_pos (Nat.zero_le _)] at h
  have hl := mapM_some_length h
  refine ⟨by simpa using hl, fun i hi => ?_⟩
  exact mapM_some_get h i i (by simp [hi])

theorem rep_slice {t e : TypeId} {α : Type} {f : α → List AV} {q : α → Prop} {sz : α → Nat} (ht : (Try.prog).underlying t = some (.slice e)) (hs : (Try.prog).cellsOf t = 1) (he : Rep e f q sz) (hsz : (Try.prog).cellsOf e ≠ 0) :
    Rep t (fun l : List α => [AV.sl (l.map f)]) (fun l => ∀ x, x ∈ l → q x) (fun l => szL sz l + 1) where
  size := fun _ => by rw [hs]; rfl
  opn := fun enc w n cs y h => by
    rcases DataW.trod_slice ht h with ⟨rfl, rfl⟩ | ⟨a, len, cap, elems, rest, m, rfl, rfl, rfl, h1, h2, h3, h4, h5, _⟩
    · refine ⟨[], fun x hx => by simp at hx, by simp [szL, Rows.uptoBulk], rfl, fun j y hj => ?_⟩
      cases j with
      | zero =>
        simp only [List.map_nil, List.getElem?_cons_zero, Option.some.injEq] at hj; subst hj
        exact .sl none 0 0 [] 0 0 0 (fun _ _ => undef) rfl (Nat.le_refl _) (fun row h => by simp at h) (fun h => by omega) (fun i j h => by omega) (fun i row h => by simp at h)
      | succ j => simp at hj
    · have key : ∀ (i : Nat) y, elems[i]? = some y → ∃ x, q x ∧ sz x ≤ Rows.uptoBulk y.1 ∧ (∃ cs, w.cells? 0 (a.add ((0 + i) * (Try.prog).cellsOf e)) ((Try.prog).cellsOf e) = some cs ∧ RdC w cs (f x)) := fun i y hy => by
        have hi : i < len := by rw [← h4]; exact (List.getElem?_eq_some_iff.1 hy).1
        have := h5 i hi
        rw [hy] at this
        obtain ⟨cs, k1, k2⟩ := Option.bind_eq_some_iff.1 this
        obtain ⟨x, q1, q2, q3⟩ := he.opn enc w m cs y k2
        exact ⟨x, q1, q2, cs, by rw [Nat.zero_add]; exact k1, q3⟩
      obtain ⟨l, l1, l2, l3, l4⟩ := pick_list (q := q) (sz := sz) (R := fun i x => ∃ cs, w.cells? 0 (a.add (i * (Try.prog).cellsOf e)) ((Try.prog).cellsOf e) = some cs ∧ RdC w cs (f x)) elems 0 key
      refine ⟨l, l2, by simp only [Rows.uptoBulk]; omega, rfl, fun j y hj => ?_⟩
      cases j with
      | succ j => simp at hj
      | zero =>
        simp only [List.getElem?_cons_zero, Option.some.injEq] at hj
        subst hj
        have hcell : ∀ i j, i < l.length → j < (Try.prog).cellsOf e → ∃ (b : a.spot = none ∨ True) (x : α) (cs : List Value), l[i]? = some x ∧ RdC w cs (f x) ∧ w.cell? (a.add (i * (Try.prog).cellsOf e) |>.add j) = cs[j]? ∧ j < cs.length := fun i j hi hj => by
          obtain ⟨cs, k1, k2⟩ := l4 i l[i] (List.getElem?_eq_getElem hi)
          obtain ⟨c1, c2⟩ := cells_some k1
          rw [Nat.zero_add] at c2
          exact ⟨.inr trivial, l[i], cs, List.getElem?_eq_getElem hi, k2, c2 j hj, by omega⟩
        by_cases h0 : l.length = 0
        · have : l = [] := List.eq_nil_of_length_eq_zero h0
          subst this
          simp only [List.map_nil]
          have e0 : len = 0 := by rw [← h4, ← l1]; rfl
          subst e0
          exact .sl (some a) 0 cap [] 0 0 0 (fun _ _ => undef) rfl (Nat.zero_le _) (fun row h => by simp at h) (fun h => by omega) (fun i j h => by omega) (fun i row h => by simp at h)
        · have hspot : a.spot = none ∧ a.block < w.heap.size := by
            obtain ⟨_, x, cs, _, _, c3, c4⟩ := hcell 0 0 (by omega) (by omega)
            rw [List.getElem?_eq_getElem c4] at c3
            have c3' : w.cell? a = some cs[0] := by simpa [Addr.add] using c3
            unfold World.cell? at c3'
            split at c3'
            · rename_i c e' f' hb
              split at c3'
              · cases c3'
              · rename_i hsp
                refine ⟨?_, ?_⟩
                · cases e : a.spot with
                  | none => rfl
                  | some k => rw [e] at hsp; simp at hsp
                · exact (Array.getElem?_eq_some_iff.1 hb).1
            · cases c3'
          obtain ⟨ab, ao, asp⟩ := a
          simp only at hspot
          obtain ⟨rfl, hlt⟩ := hspot
          have hadd : ∀ (i j : Nat), ((⟨ab, ao, none⟩ : Addr).add (i * (Try.prog).cellsOf e) |>.add j) = ⟨ab, ao + (i * (Try.prog).cellsOf e + j), none⟩ := fun i j => by
            rw [add_plain, add_plain, Nat.add_assoc]
          refine .sl (some ⟨ab, ao, none⟩) len cap (l.map f) ((Try.prog).cellsOf e) ab ao (fun i j => (w.cell? ⟨ab, ao + (i * (Try.prog).cellsOf e + j), none⟩).getD undef) (by simp [l1, h4]) h2 (fun row hr => ?_) (fun _ => ⟨rfl, hlt⟩) (fun i j hi hj => ?_) (fun i row hrow j x hx => ?_)
          · obtain ⟨x, _, rfl⟩ := List.mem_map.1 hr
            exact he.size x
          · obtain ⟨_, x, cs, _, _, c3, c4⟩ := hcell i j (by omega) hj
            rw [hadd, List.getElem?_eq_getElem c4] at c3
            rw [c3]; rfl
          · rw [List.getElem?_map] at hrow
            cases e1 : l[i]? with
            | none => rw [e1] at hrow; cases hrow
            | some x0 =>
              rw [e1] at hrow
              simp only [Option.map_some, Option.some.injEq] at hrow
              subst hrow
              have hi : i < l.length := (List.getElem?_eq_some_iff.1 e1).1
              have hj : j < (Try.prog).cellsOf e := by rw [← he.size x0]; exact (List.getElem?_eq_some_iff.1 hx).1
              obtain ⟨_, x1, cs, c1, c2, c3, c4⟩ := hcell i j hi hj
              rw [e1] at c1
              injection c1 with c1
              subst c1
              have := c2.2 j x hx
              rw [hadd, List.getElem?_eq_getElem c4] at c3
              simp only [c3, Option.getD_some]
              rwa [List.getD_eq_getElem?_getD, List.getElem?_eq_getElem c4] at this

/-! ### The program's types -/

theorem rep_i (t : TypeId) (ht : (Try.prog).underlying t = some (.int .i64)) (hs : tab.siz t = 1) : Rep t (fun n : Int => [AV.int .i64 n]) (fun n => -9223372036854775808 ≤ n ∧ n ≤ 9223372036854775807) (fun _ => 1) := rep_int ht (cells_tab hs (by decide))

theorem rep_bytes : Rep 23 (fun d : List UInt8 => [AV.sl (d.map byteRow)]) (fun l => ∀ x, x ∈ l → True) (fun l => szL (fun _ => 1) l + 1) :=
  rep_slice Try.underlying23 (cells_tab (t := 23) (n := 1) rfl (by decide)) (rep_byte Try.underlying5 (cells_tab (t := 5) (n := 1) rfl (by decide))) (by rw [cells_tab (t := 5) (n := 1) rfl (by decide)]; decide)

def i64 (n : Int) : Prop := -9223372036854775808 ≤ n ∧ n ≤ 9223372036854775807

structure Entry.Ok (e : Entry) : Prop where
  fid : i64 e.fid
structure Node.Ok (n : Node) : Prop where
  fid : i64 n.fid
  entries : ∀ e, e ∈ n.entries → e.Ok
  version : i64 n.version
structure Act.Ok (a : Act) : Prop where
  kind : i64 a.kind
  fid : i64 a.fid
  dir : i64 a.dir
  to : i64 a.to
structure Rec.Ok (r : Rec) : Prop where
  act : r.act.Ok
  version : i64 r.version
  id : i64 r.id
def Entry.sz (e : Entry) : Nat := e.name.length + 1
def Node.sz (n : Node) : Nat := n.data.length + szL Entry.sz n.entries + 1
def Act.sz (a : Act) : Nat := a.name.length + a.toName.length + a.data.length + 1
def Rec.sz (r : Rec) : Nat := r.act.sz + 1
theorem szL_ones {α : Type} : ∀ (l : List α), szL (fun _ => 1) l = l.length
  | [] => rfl
  | x :: r => by simp only [szL, szL_ones r, List.length_cons]; omega

theorem rep_entry : Rep 115 entryRow Entry.Ok Entry.sz where
  size := fun x => by rw [cells_tab (t := 115) (n := 2) rfl (by decide)]; rfl
  opn := fun enc w n cs y h => by
    obtain ⟨xs, m, rfl, rfl, hl, hxl, hf⟩ := DataW.trod_struct Try.underlying115 h
    obtain ⟨y0, y1, rfl⟩ : ∃ y0 y1, xs = [y0, y1] := by
      have hxl : xs.length = 2 := hxl
      match xs, hxl with
      | [a0, a1], _ => exact ⟨a0, a1, rfl⟩
    have e0 : DataW.trod enc Try.prog w 0 (fun _ => true) true m 9 ((cs.drop 0).take ((Try.prog).cellsOf 9)) = some y0 := hf 0 _ rfl
    obtain ⟨x0, q0, s0, r0⟩ := (rep_str Try.underlying9 (cells_tab (t := 9) (n := 1) rfl (by decide))).opn enc w m _ _ e0
    rw [cells_tab (t := 9) (n := 1) rfl (by decide)] at r0
    have e1 : DataW.trod enc Try.prog w 0 (fun _ => true) true m 3 ((cs.drop 1).take ((Try.prog).cellsOf 3)) = some y1 := hf 1 _ rfl
    obtain ⟨x1, q1, s1, r1⟩ := (rep_i 3 Try.underlying3 rfl).opn enc w m _ _ e1
    rw [cells_tab (t := 3) (n := 1) rfl (by decide)] at r1
    refine ⟨⟨x0, x1⟩, ⟨q1⟩, ?_, ?_⟩
    · simp only [Entry.sz, Rows.uptoBulk, Rows.uptoBulkAll, List.map_cons, List.map_nil]; omega
    · have hl : cs.length = 2 := by rw [hl, cells_tab (t := 115) (n := 2) rfl (by decide)]
      have := rdc_cons 0 1 r0 rfl (rdc_cons 1 1 r1 rfl (rdc_nil hl))
      rw [List.drop_zero] at this
      exact this

theorem rep_entries : Rep 44 (fun l : List Entry => [AV.sl (l.map entryRow)]) (fun l => ∀ x, x ∈ l → x.Ok) (fun l => szL Entry.sz l + 1) :=
  rep_slice Try.underlying44 (cells_tab (t := 44) (n := 1) rfl (by decide)) rep_entry (by rw [cells_tab (t := 115) (n := 2) rfl (by decide)]; decide)

theorem rep_node : Rep 46 nodeRow Node.Ok Node.sz where
  size := fun x => by rw [cells_tab (t := 46) (n := 5) rfl (by decide)]; rfl
  opn := fun enc w n cs y h => by
    obtain ⟨xs, m, rfl, rfl, hl, hxl, hf⟩ := DataW.trod_struct Try.underlying46 h
    obtain ⟨y0, y1, y2, y3, y4, rfl⟩ : ∃ y0 y1 y2 y3 y4, xs = [y0, y1, y2, y3, y4] := by
      have hxl : xs.length = 5 := hxl
      match xs, hxl with
      | [a0, a1, a2, a3, a4], _ => exact ⟨a0, a1, a2, a3, a4, rfl⟩
    have e0 : DataW.trod enc Try.prog w 0 (fun _ => true) true m 3 ((cs.drop 0).take ((Try.prog).cellsOf 3)) = some y0 := hf 0 _ rfl
    obtain ⟨x0, q0, s0, r0⟩ := (rep_i 3 Try.underlying3 rfl).opn enc w m _ _ e0
    rw [cells_tab (t := 3) (n := 1) rfl (by decide)] at r0
    have e1 : DataW.trod enc Try.prog w 0 (fun _ => true) true m 4 ((cs.drop 1).take ((Try.prog).cellsOf 4)) = some y1 := hf 1 _ rfl
    obtain ⟨x1, q1, s1, r1⟩ := (rep_bool Try.underlying4 (cells_tab (t := 4) (n := 1) rfl (by decide))).opn enc w m _ _ e1
    rw [cells_tab (t := 4) (n := 1) rfl (by decide)] at r1
    have e2 : DataW.trod enc Try.prog w 0 (fun _ => true) true m 23 ((cs.drop 2).take ((Try.prog).cellsOf 23)) = some y2 := hf 2 _ rfl
    obtain ⟨x2, q2, s2, r2⟩ := (rep_bytes).opn enc w m _ _ e2
    rw [cells_tab (t := 23) (n := 1) rfl (by decide)] at r2
    have e3 : DataW.trod enc Try.prog w 0 (fun _ => true) true m 44 ((cs.drop 3).take ((Try.prog).cellsOf 44)) = some y3 := hf 3 _ rfl
    obtain ⟨x3, q3, s3, r3⟩ := (rep_entries).opn enc w m _ _ e3
    rw [cells_tab (t := 44) (n := 1) rfl (by decide)] at r3
    have e4 : DataW.trod enc Try.prog w 0 (fun _ => true) true m 3 ((cs.drop 4).take ((Try.prog).cellsOf 3)) = some y4 := hf 4 _ rfl
    obtain ⟨x4, q4, s4, r4⟩ := (rep_i 3 Try.underlying3 rfl).opn enc w m _ _ e4
    rw [cells_tab (t := 3) (n := 1) rfl (by decide)] at r4
    refine ⟨⟨x0, x1, x2, x3, x4⟩, ⟨q0, q3, q4⟩, ?_, ?_⟩
    · simp only [szL_ones] at s2
      simp only [Node.sz, Rows.uptoBulk, Rows.uptoBulkAll, List.map_cons, List.map_nil]; omega
    · have hl : cs.length = 5 := by rw [hl, cells_tab (t := 46) (n := 5) rfl (by decide)]
      have := rdc_cons 0 1 r0 rfl (rdc_cons 1 1 r1 rfl (rdc_cons 2 1 r2 rfl (rdc_cons 3 1 r3 rfl (rdc_cons 4 1 r4 rfl (rdc_nil hl)))))
      rw [List.drop_zero] at this
      exact this

theorem rep_nodes : Rep 39 (fun l : List Node => [AV.sl (l.map nodeRow)]) (fun l => ∀ x, x ∈ l → x.Ok) (fun l => szL Node.sz l + 1) :=
  rep_slice Try.underlying39 (cells_tab (t := 39) (n := 1) rfl (by decide)) rep_node (by rw [cells_tab (t := 46) (n := 5) rfl (by decide)]; decide)

theorem rep_act : Rep 25 actRow Act.Ok Act.sz where
  size := fun x => by rw [cells_tab (t := 25) (n := 7) rfl (by decide)]; rfl
  opn := fun enc w n cs y h => by
    obtain ⟨xs, m, rfl, rfl, hl, hxl, hf⟩ := DataW.trod_struct Try.underlying25 h
    obtain ⟨y0, y1, y2, y3, y4, y5, y6, rfl⟩ : ∃ y0 y1 y2 y3 y4 y5 y6, xs = [y0, y1, y2, y3, y4, y5, y6] := by
      have hxl : xs.length = 7 := hxl
      match xs, hxl with
      | [a0, a1, a2, a3, a4, a5, a6], _ => exact ⟨a0, a1, a2, a3, a4, a5, a6, rfl⟩
    have e0 : DataW.trod enc Try.prog w 0 (fun _ => true) true m 3 ((cs.drop 0).take ((Try.prog).cellsOf 3)) = some y0 := hf 0 _ rfl
    obtain ⟨x0, q0, s0, r0⟩ := (rep_i 3 Try.underlying3 rfl).opn enc w m _ _ e0
    rw [cells_tab (t := 3) (n := 1) rfl (by decide)] at r0
    have e1 : DataW.trod enc Try.prog w 0 (fun _ => true) true m 3 ((cs.drop 1).take ((Try.prog).cellsOf 3)) = some y1 := hf 1 _ rfl
    obtain ⟨x1, q1, s1, r1⟩ := (rep_i 3 Try.underlying3 rfl).opn enc w m _ _ e1
    rw [cells_tab (t := 3) (n := 1) rfl (by decide)] at r1
    have e2 : DataW.trod enc Try.prog w 0 (fun _ => true) true m 3 ((cs.drop 2).take ((Try.prog).cellsOf 3)) = some y2 := hf 2 _ rfl
    obtain ⟨x2, q2, s2, r2⟩ := (rep_i 3 Try.underlying3 rfl).opn enc w m _ _ e2
    rw [cells_tab (t := 3) (n := 1) rfl (by decide)] at r2
    have e3 : DataW.trod enc Try.prog w 0 (fun _ => true) true m 9 ((cs.drop 3).take ((Try.prog).cellsOf 9)) = some y3 := hf 3 _ rfl
    obtain ⟨x3, q3, s3, r3⟩ := (rep_str Try.underlying9 (cells_tab (t := 9) (n := 1) rfl (by decide))).opn enc w m _ _ e3
    rw [cells_tab (t := 9) (n := 1) rfl (by decide)] at r3
    have e4 : DataW.trod enc Try.prog w 0 (fun _ => true) true m 3 ((cs.drop 4).take ((Try.prog).cellsOf 3)) = some y4 := hf 4 _ rfl
    obtain ⟨x4, q4, s4, r4⟩ := (rep_i 3 Try.underlying3 rfl).opn enc w m _ _ e4
    rw [cells_tab (t := 3) (n := 1) rfl (by decide)] at r4
    have e5 : DataW.trod enc Try.prog w 0 (fun _ => true) true m 9 ((cs.drop 5).take ((Try.prog).cellsOf 9)) = some y5 := hf 5 _ rfl
    obtain ⟨x5, q5, s5, r5⟩ := (rep_str Try.underlying9 (cells_tab (t := 9) (n := 1) rfl (by decide))).opn enc w m _ _ e5
    rw [cells_tab (t := 9) (n := 1) rfl (by decide)] at r5
    have e6 : DataW.trod enc Try.prog w 0 (fun _ => true) true m 23 ((cs.drop 6).take ((Try.prog).cellsOf 23)) = some y6 := hf 6 _ rfl
    obtain ⟨x6, q6, s6, r6⟩ := (rep_bytes).opn enc w m _ _ e6
    rw [cells_tab (t := 23) (n := 1) rfl (by decide)] at r6
    refine ⟨⟨x0, x1, x2, x3, x4, x5, x6⟩, ⟨q0, q1, q2, q4⟩, ?_, ?_⟩
    · simp only [szL_ones] at s6
      simp only [Act.sz, Rows.uptoBulk, Rows.uptoBulkAll, List.map_cons, List.map_nil]; omega
    · have hl : cs.length = 7 := by rw [hl, cells_tab (t := 25) (n := 7) rfl (by decide)]
      have := rdc_cons 0 1 r0 rfl (rdc_cons 1 1 r1 rfl (rdc_cons 2 1 r2 rfl (rdc_cons 3 1 r3 rfl (rdc_cons 4 1 r4 rfl (rdc_cons 5 1 r5 rfl (rdc_cons 6 1 r6 rfl (rdc_nil hl)))))))
      rw [List.drop_zero] at this
      exact this

theorem rep_acts : Rep 33 (fun l : List Act => [AV.sl (l.map actRow)]) (fun l => ∀ x, x ∈ l → x.Ok) (fun l => szL Act.sz l + 1) :=
  rep_slice Try.underlying33 (cells_tab (t := 33) (n := 1) rfl (by decide)) rep_act (by rw [cells_tab (t := 25) (n := 7) rfl (by decide)]; decide)

theorem rep_rec : Rep 27 recRow Rec.Ok Rec.sz where
  size := fun x => by rw [cells_tab (t := 27) (n := 9) rfl (by decide)]; rfl
  opn := fun enc w n cs y h => by
    obtain ⟨xs, m, rfl, rfl, hl, hxl, hf⟩ := DataW.trod_struct Try.underlying27 h
    obtain ⟨y0, y1, y2, rfl⟩ : ∃ y0 y1 y2, xs = [y0, y1, y2] := by
      have hxl : xs.length = 3 := hxl
      match xs, hxl with
      | [a0, a1, a2], _ => exact ⟨a0, a1, a2, rfl⟩
    have e0 : DataW.trod enc Try.prog w 0 (fun _ => true) true m 25 ((cs.drop 0).take ((Try.prog).cellsOf 25)) = some y0 := hf 0 _ rfl
    obtain ⟨x0, q0, s0, r0⟩ := (rep_act).opn enc w m _ _ e0
    rw [cells_tab (t := 25) (n := 7) rfl (by decide)] at r0
    have e1 : DataW.trod enc Try.prog w 0 (fun _ => true) true m 3 ((cs.drop 7).take ((Try.prog).cellsOf 3)) = some y1 := hf 1 _ rfl
    obtain ⟨x1, q1, s1, r1⟩ := (rep_i 3 Try.underlying3 rfl).opn enc w m _ _ e1
    rw [cells_tab (t := 3) (n := 1) rfl (by decide)] at r1
    have e2 : DataW.trod enc Try.prog w 0 (fun _ => true) true m 3 ((cs.drop 8).take ((Try.prog).cellsOf 3)) = some y2 := hf 2 _ rfl
    obtain ⟨x2, q2, s2, r2⟩ := (rep_i 3 Try.underlying3 rfl).opn enc w m _ _ e2
    rw [cells_tab (t := 3) (n := 1) rfl (by decide)] at r2
    refine ⟨⟨x0, x1, x2⟩, ⟨q0, q1, q2⟩, ?_, ?_⟩
    · simp only [Rec.sz, Rows.uptoBulk, Rows.uptoBulkAll, List.map_cons, List.map_nil]; omega
    · have hl : cs.length = 9 := by rw [hl, cells_tab (t := 27) (n := 9) rfl (by decide)]
      have := rdc_cons 0 7 r0 rfl (rdc_cons 7 1 r1 rfl (rdc_cons 8 1 r2 rfl (rdc_nil hl)))
      rw [List.drop_zero] at this
      exact this

theorem rep_recs : Rep 22 (fun l : List Rec => [AV.sl (l.map recRow)]) (fun l => ∀ x, x ∈ l → x.Ok) (fun l => szL Rec.sz l + 1) :=
  rep_slice Try.underlying22 (cells_tab (t := 22) (n := 1) rfl (by decide)) rep_rec (by rw [cells_tab (t := 27) (n := 9) rfl (by decide)]; decide)

/-! ### Arguments -/

/-- an argument, opened -/
theorem open_arg {t : TypeId} {α : Type} {f : α → List AV} {q : α → Prop} {sz : α → Nat} (h : Rep t f q sz) {H : Type} {enc : TypeId × Value → H} {w : World} {v : Value} {d : DataW H} {ps : List MemPlace}
    (hd : DataW.Trod enc Try.prog w 0 (fun _ => true) true t v d ps) : ∃ x, q x ∧ sz x ≤ Rows.uptoBulk d ∧ RdC w v.cells.toList (f x) := by
  obtain ⟨n, hn⟩ := hd
  exact h.opn enc w n _ _ hn

/-- of one cell -/
theorem rdc_one {w : World} {v : Value} {x : AV} (h : RdC w v.cells.toList [x]) (hv : ∀ cs, v ≠ .agg cs) : RdP (fun b => b < w.heap.size) w v x := by
  have := h.2 0 x rfl
  cases v with
  | agg cs => exact absurd rfl (hv cs)
  | _ => exact this

theorem rdc_agg {w : World} {cs : Array Value} {xs : List AV} (h : RdC w (Value.agg cs).cells.toList xs) : RdP (fun b => b < w.heap.size) w (.agg cs) (.agg xs) := by
  refine .agg cs xs (by have h1 : cs.toList.length = xs.length := h.1; simpa using h1) fun j y hj => ?_
  have := h.2 j y hj
  rwa [List.getD_eq_getElem?_getD, Array.getElem?_toList, ← Array.getD_eq_getD_getElem?] at this

/-! ### What is not large -/
theorem Act.sz_data (a : Act) : a.data.length ≤ a.sz := by unfold Act.sz; omega
theorem nodeSmall_of {n : Node} (h : n.sz ≤ 1048576) : n.Small := by
  have h1 := szL_len (sz := Entry.sz) (fun e => by unfold Entry.sz; omega) n.entries
  unfold Node.sz at h
  exact ⟨by omega, by omega⟩
theorem small_of {l : List Node} (h : szL Node.sz l ≤ 1048576) : Small l :=
  ⟨by have := szL_len (sz := Node.sz) (fun r => by unfold Node.sz; omega) l; omega, fun r hr => nodeSmall_of (by have := szL_mem (sz := Node.sz) hr; omega)⟩
theorem nodes_len {l : List Node} (h : szL Node.sz l ≤ 1048576) : l.length ≤ 99999999 := by
  have := szL_len (sz := Node.sz) (fun r => by unfold Node.sz; omega) l; omega
theorem entries_len {n : Node} (h : n.sz ≤ 1048576) : n.entries.length ≤ 99999999 := by
  have h1 := szL_len (sz := Entry.sz) (fun e => by unfold Entry.sz; omega) n.entries
  unfold Node.sz at h
  omega
end La

namespace La
open Go Go.Eng Go.Proofs Go.Proofs.Ytldpfleilffanaa
theorem actSmall_of {a : Act} (h : a.sz ≤ 1048576) : a.Small := by unfold Act.Small; have := a.sz_data; omega
theorem recSmall_of {r : Rec} (h : r.sz ≤ 1048576) : r.act.Small := actSmall_of (by unfold Rec.sz at h; omega)
theorem smallL_of {l : List Rec} (h : szL Rec.sz l ≤ 1048576) : SmallL l :=
  ⟨by have := szL_len (sz := Rec.sz) (fun r => by unfold Rec.sz; omega) l; omega, fun r hr => recSmall_of (by have := szL_mem (sz := Rec.sz) hr; omega)⟩
end La

namespace La
open Go Go.Eng Go.Proofs Go.Proofs.Ytldpfleilffanaa
theorem actFit_of {a : Act} (h : a.sz ≤ 1048576) : ActFit a := ⟨by unfold Act.sz at h; omega, by unfold Act.sz at h; omega, by unfold Act.sz at h; omega⟩
theorem actsFit_of {l : List Act} (h : szL Act.sz l ≤ 1048576) : ∀ a, a ∈ l → ActFit a := fun a ha => actFit_of (by have := szL_mem (sz := Act.sz) ha; omega)
theorem acts_len {l : List Act} (h : szL Act.sz l ≤ 1048576) : l.length ≤ 2000000 := by
  have := szL_len (sz := Act.sz) (fun r => by unfold Act.sz; omega) l; omega
theorem recsFit_of {l : List Rec} (h : szL Rec.sz l ≤ 1048576) : ∀ r, r ∈ l → ActFit r.act := fun r hr => actFit_of (by
  have := szL_mem (sz := Rec.sz) hr
  have h2 : r.sz = r.act.sz + 1 := rfl
  omega)
theorem recs_len {l : List Rec} (h : szL Rec.sz l ≤ 1048576) : l.length ≤ 2000000 := by
  have := szL_len (sz := Rec.sz) (fun r => by unfold Rec.sz; omega) l; omega
end La

namespace Go.Proofs.Ytldpfleilffanaa.repairDrop
set_option maxRecDepth 100000
set_option linter.unusedSimpArgs false
open Go Go.ChangeShapes Go.WideShapes Go.ChangeAt Go.RowKit Go.Eng

theorem contract (H : Type) (enc : TypeId × Value → H) (W : World) (base : Nat) (args : Array Value) (ds gs : List (DataW H)) (before : List MemPlace)
    (hval : ∀ (j : Nat) t v, Try.f13.params[j]? = some t → args[j]? = some v → Value.okWide Try.prog W .any base t v)
    (hW : DataW.Whole enc Try.prog Try.f13.params.toList Rows.repairDropSpec.vars false W args.toList ds gs before) (hk : Rows.uptoSmall H (ds ++ gs) = true) :
    Calls Try.prog 13 args W fun e W' => ∃ v, e = .returned v ∧ Rows.repairDropSpec.post enc Try.prog Try.f13 false true false false W args v W' := by
  have hW' := hW
  obtain ⟨p, q, hA0, hV, rfl, hfz, hnd⟩ := hW
  have hA : DataW.TrodAll enc Try.prog W 0 (fun _ => true) true Try.f13.params.toList args.toList ds p := hA0
  rw [Try.params13] at hA hval
  obtain ⟨v0, vs0, d0, ds0, p0, q0, hargs, rfl, rfl, h0, r0⟩ := trodAll_cons hA
  obtain ⟨v1, vs1, d1, ds1, p1, q1, rfl, rfl, rfl, h1, r1⟩ := trodAll_cons r0
  obtain ⟨rfl, rfl, rfl⟩ := trodAll_nil r1
  obtain rfl : args = #[v0, v1] := by cases args; simp_all
  obtain ⟨rfl, rfl⟩ := trodVars_none hV
  have hk2 : Rows.uptoBulkAll [d0, d1] ≤ 1048576 := of_decide_eq_true hk
  simp only [Rows.uptoBulkAll] at hk2
  obtain ⟨x0, o0, s0, c0⟩ := La.open_arg (La.rep_recs) h0
  obtain ⟨a0, len0, cap0, rfl⟩ := okWide_slice Try.underlying22 (hval 0 22 v0 rfl rfl)
  have R0 := La.rdc_one c0 (fun _ h => nomatch h)
  obtain ⟨x1, o1, s1, c1⟩ := La.open_arg (La.rep_i 3 Try.underlying3 rfl) h1
  obtain ⟨b1, rfl⟩ := okWide_int Try.underlying3 (hval 1 3 v1 rfl rfl)
  have R1 := La.rdc_one c1 (fun _ h => nomatch h)
  refine (calls_of_fn (La.rdrop_ok x0 x1 (La.smallL_of (by omega)) (La.recs_len (by omega))) (w := W) (vs := [.slice a0 len0 cap0, .int .i64 b1]) rfl (S := fun b => b < W.heap.size) (fun j x h => ?_) (fun _ h => h)).mono fun e W' ⟨v, μ, S', he, hv, hf⟩ => ?_
  · rcases j with _ | _ | j
    · simp only [List.getElem?_cons_zero, List.getElem?_cons_succ, Option.some.injEq] at h; subst h; exact R0
    · simp only [List.getElem?_cons_zero, List.getElem?_cons_succ, Option.some.injEq] at h; subst h; exact R1
    · simp at h
  subst he
  obtain rfl := hv.inv_bool
  exact ⟨_, rfl, post_true La.laid La.rowed La.full (by rw [Try.params13]; decide) rfl Try.underlying4 rfl hW' hf rfl rfl rfl⟩

theorem lifted (os : Os) (started : os.Started) (H : Type) (enc : TypeId × Value → H) (F : Stop.Interp) :
    ReturnsInHanded {} Try.checked os 13 .any ((Rows.OpenSpec.upto Rows.repairDropSpec).pre6 enc Try.prog Try.f13 Rows.repairDropUptoRow.domain false) (((Rows.OpenSpec.upto Rows.repairDropSpec).at F).post enc Try.prog Try.f13 false true false false) := by
  refine returnsInHanded_of_cond (C := Try.checked) (s := Rows.OpenSpec.upto Rows.repairDropSpec) (k := Rows.uptoSmall) rfl La.own started (by kernel_rfl) Try.func13
    (OpenSpec.witness (enc := enc) (C := Try.checked) (s := Rows.OpenSpec.upto Rows.repairDropSpec) (k := Rows.uptoSmall) rfl false ⟨#[], #[.slice none 0 0, .int .i64 0], []⟩ 8 (by kernel_rfl) (by kernel_rfl) (by kernel_rfl)
      (x := ([.nil, .lit (.int .i64 0)], [], [])) (by kernel_rfl) rfl (by kernel_rfl)) ?_
  intro W base args ds gs before hval hW _ hk _
  exact contract H enc W base args ds gs before hval hW hk

theorem over : Rows.repairDropUptoRow.holds Try.pinned (Rows.OpenSpec.upto Rows.repairDropSpec) :=
  OpenClaim.holds_of_cond 13 Try.f13 rfl rfl rfl rfl rfl rfl rfl ⟨rfl, rfl, rfl, rfl, rfl⟩ rfl rfl rfl rfl rfl (by kernel_rfl) Try.func13 (by kernel_rfl)
    (of_decide_eq_true (by kernel_rfl)) (by unfold Func.isWrapper; first | (rw [if_pos (by decide +kernel)]; kernel_rfl) | (rw [if_neg (by decide +kernel)]; exact ⟨rfl, rfl⟩))
    (fun os started H enc _ F => lifted os started H enc F)

theorem proved : Rows.RepairDropUptoSaid :=
  over
end Go.Proofs.Ytldpfleilffanaa.repairDrop
