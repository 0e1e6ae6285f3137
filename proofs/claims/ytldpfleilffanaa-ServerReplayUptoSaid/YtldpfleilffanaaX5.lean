/- The law ServerReplay is true of the program: its statement ServerReplayUptoSaid, in this seat's Rows. No condition. -/
import Derived.ChangeArms
import Derived.Test.YtldpfleilffanaaX4
namespace La
open Go Go.Eng Go.Proofs
set_option maxRecDepth 10000
set_option linter.unusedSimpArgs false
set_option linter.unusedVariables false

def jRow (j : JS) : List AV := [.sl (j.l.map nodeRow), .int .i64 j.next, .int .i64 j.version, .mp 25, .mp 26, .mp 27]
def jB (j : JS) : List (Nat × Blk) := [(29, .cells 194 6 [jRow j]), (27, .map (mB j.lost)), (26, .map (mB j.ours)), (25, .map (mI j.own))]
def jH (j : JS) (G Y N : Nat → Nat) : List (Nat × Blk) := jB j ++ pins [29, 25, 26, 27] G Y N
/-- with the box of who judges, that a closure holds -/
def jcH (j : JS) (G Y N : Nat → Nat) : List (Nat × Blk) := ([(2, .cells 192 1 [[.ptr 29 6 0 0]])] ++ jB j) ++ pins [29, 25, 26, 27, 2] G Y N
/-- with an act -/
def jaH (j : JS) (a : Act) (G Y N : Nat → Nat) : List (Nat × Blk) := ([(6, .cells 25 7 [actRow a])] ++ jB j) ++ pins [29, 25, 26, 27, 6] G Y N

/-- what is held is held still -/
def Holds (L H : List (Nat × Blk)) : Prop := ∀ i b, hget L i = some b → hget H i = some b
theorem holds_nil (H : List (Nat × Blk)) : Holds [] H := fun _ _ h => nomatch h
theorem holds_cons {L H : List (Nat × Blk)} {k : Nat} {B : Blk} (h : hget H k = some B) (hL : Holds L H) : Holds ((k, B) :: L) H := fun i b hb => by
  simp only [hget] at hb
  split at hb
  · rename_i e; subst e; rw [h]; exact hb
  · exact hL i b hb
theorem fid_ok (j : JS) (f : Int) (G Y N : Nat → Nat) : FnOK Try.prog 172 [.ptr 29 6 0 0, .int .i64 f] (jH j G Y N) (fun r H => r = .int .i64 (atF j.own f) ∧ Holds (jH j G Y N) H) := by
  unfold jH jB jRow atF
  refine fn_of_cwW tabOK (Go.Proofs.Try.func172) rfl (fun C => ?_)
  simp only [Go.Proofs.Try.ntmps172, Go.Proofs.Try.results172, go_sem]
  refine cw_goR 99 (by simp only [go_sem]; try exact rfl) ?_
  refine cw_runN tabOK 1 (by simp only [go_sem]; exact rfl) (by simp only [go_sem]; exact rfl) (by simp only [go_sem]; try exact rfl) (by simp [go_sem]) ?_
  refine cw_goR 99 (by simp only [go_sem]; try exact rfl) ?_
  refine cw_runN tabOK 5 (by simp only [go_sem]; exact rfl) (by simp only [go_sem]; exact rfl) (by simp only [go_sem]; try exact rfl) (by simp [go_sem]) ?_
  refine cw_go tabOK 99 (by simp only [go_sem]; try exact rfl) (by simp [go_sem]) ?_
  cases e : hasI j.own f with
  | true =>
    refine cw_condT (by simp only [go_sem]; try exact rfl) trivial (by simp [e]) ?_
    refine cw_go tabOK 99 (by simp only [go_sem]; try exact rfl) (by simp [go_sem]) ?_
    refine cw_ret ⟨_, _, (by simp only [go_sem]; try exact rfl), by simp [go_sem], _, .inr (.inl rfl), ?_⟩
    exact ⟨rfl, fun i b hb => hb⟩
  | false =>
    refine cw_condF (by simp only [go_sem]; try exact rfl) trivial (by simp [e]) ?_
    refine cw_go tabOK 99 (by simp only [go_sem]; try exact rfl) (by simp [go_sem]) ?_
    refine cw_ret ⟨_, _, (by simp only [go_sem]; try exact rfl), by simp [go_sem], _, .inr (.inl rfl), ?_⟩
    exact ⟨rfl, fun i b hb => hb⟩

theorem lost_ok (j : JS) (f : Int) (G Y N : Nat → Nat) : FnOK Try.prog 181 [.int .i64 f, .ptr 2 1 0 0] (jcH j G Y N) (fun r H => r = .bool (getB j.lost f) ∧ Holds (jcH j G Y N) H) := by
  unfold jcH jB jRow
  refine fn_of_cwW tabOK (Go.Proofs.Try.func181) rfl (fun C => ?_)
  simp only [Go.Proofs.Try.ntmps181, Go.Proofs.Try.results181, go_sem]
  refine cw_go tabOK 99 (by simp only [go_sem]; try exact rfl) (by simp [go_sem]) ?_
  refine cw_ret ⟨_, _, (by simp only [go_sem]; try exact rfl), by simp [go_sem], _, .inr (.inl rfl), ?_⟩
  exact ⟨rfl, fun i b hb => hb⟩

theorem lostIdx_ok (j : JS) (l : List Int) (hlen : l.length ≤ 100000000) (G Y N : Nat → Nat) : FnOK Try.prog 155 [.sl (l.map intRow), .fn 181 [.ptr 2 1 0 0]] (jcH j G Y N)
    (fun r H => r = .int .i64 (idxI (l.findIdx? (getB j.lost))) ∧ Holds (jcH j G Y N) H) := by
  unfold jcH jB jRow
  refine fn_of_cwW tabOK (Go.Proofs.Try.func155) rfl (fun C => ?_)
  simp only [Go.Proofs.Try.ntmps155, Go.Proofs.Try.results155, go_sem]
  refine cw_go tabOK 99 (by simp only [go_sem]; try exact rfl) (by simp [go_sem]) ?_
  refine cw_loopS (fun i : Nat => i ≤ l.length ∧ ∀ x, x ∈ l.take i → getB j.lost x = false) (fun i => l.length - i) (fun i => [(8, .int .i64 i), (5, .any), (9, .any), (10, .any), (11, .any), (12, .any), (13, .any), (14, .any), (15, .any), (16, .any), (17, .any), (18, .any)]) (fun _ => []) 0 ⟨by omega, by simp⟩ ?_ fun i hi => ?_
  · simp only [go_sem]
    exact le_sub (by simp [go_sem]) (by simp [go_sem]) (by simp [go_sem])
  obtain ⟨hi, hno⟩ := hi
  simp only [go_sem]
  refine cw_go tabOK 99 (by simp only [go_sem]; try exact rfl) (by simp [go_sem]) ?_
  refine cw_cond (by simp only [go_sem]; try exact rfl) trivial (fun h => ?_) (fun h => ?_)
  · have hlt : i < l.length := by simp at h; omega
    have hg : (l.map intRow).getD i [] = intRow (l.getD i default) := Fam.getD hlt
    have htk := take_succ_getD hlt
    have hgi : l[i]? = some (l.getD i default) := by rw [List.getD_eq_getElem?_getD, List.getElem?_eq_getElem hlt]; rfl
    have hc := lost_ok j (l.getD i default)
    unfold jcH jB jRow at hc
    generalize l.getD i default = n at hg htk hgi hc
    refine cw_go tabOK 99 (by simp only [go_sem, hg, intRow]; try exact rfl) ?_ ?_
    · simp [hlt, intRow]
    refine cw_step rfl (trip_callP rfl (by simp only [go_sem]; try exact rfl) (by simp [go_sem]) ⟨_, Go.Proofs.Try.func181, by kernel_rfl, rfl⟩ [29, 25, 26, 27, 2] (by simp only [go_sem, Bool.false_or, Bool.or_true, Bool.true_or, Bool.or_false, ↓reduceIte]; try exact rfl) (by simp [go_sem]) (by simp) (by simp [go_sem]) (by simp [go_sem]) (by simp [go_sem]) (hc) (by simp only [go_sem, Bool.false_or, Bool.or_true, Bool.true_or, Bool.or_false, ↓reduceIte]; exact rfl)) ?_
    refine cw_go tabOK 99 (by simp only [go_sem]; try exact rfl) (by simp [go_sem]) ?_
    refine cw_cond (by simp only [go_sem]; try exact rfl) trivial (fun h => ?_) (fun h => ?_)
    · refine cw_go tabOK 99 (by simp only [go_sem]; try exact rfl) (by simp [go_sem]) ?_
      refine cw_ret ⟨_, _, by simp only [go_sem]; try exact rfl, by simp [go_sem], _, .inr (.inl rfl), ?_, ?_⟩
      · rw [findIdx_at hgi hno h]; rfl
      · skip
        simp only [pins, List.cons_append, List.nil_append, List.map_cons, List.map_nil]
        repeat' refine holds_cons ?_ ?_
        all_goals first | exact holds_nil _ | rfl | simp [go_sem]
    · have hw : IntKind.i64.wrap ((i : Int) + 1) = (i : Int) + 1 := wrap_small (by omega) (by omega)
      refine cw_go tabOK 99 (by simp only [go_sem, hw]; try exact rfl) (by simp [go_sem, hw]) ?_
      refine cw_back ⟨i + 1, ⟨by omega, ?_⟩, by omega, le_sub ?_ ?_ ?_⟩
      · rw [htk]
        intro x hx
        rcases List.mem_append.1 hx with hx | hx
        · exact hno x hx
        · rw [List.mem_singleton.1 hx]; exact h
      · simp [go_sem]
      · simp [go_sem]
      · simp [go_sem]
  · have e : i = l.length := by simp at h; omega
    refine cw_go tabOK 99 (by simp only [go_sem]; try exact rfl) (by simp [go_sem]) ?_
    refine cw_ret ⟨_, _, by simp only [go_sem]; try exact rfl, by simp [go_sem], _, .inr (.inl rfl), ?_, ?_⟩
    · rw [e, List.take_length] at hno
      rw [List.findIdx?_eq_none_iff.2 hno]; rfl
    · skip
      simp only [pins, List.cons_append, List.nil_append, List.map_cons, List.map_nil]
      repeat' refine holds_cons ?_ ?_
      all_goals first | exact holds_nil _ | rfl | simp [go_sem]
theorem lostAny_ok (j : JS) (l : List Int) (hlen : l.length ≤ 100000000) (G Y N : Nat → Nat) : FnOK Try.prog 117 [.sl (l.map intRow), .fn 181 [.ptr 2 1 0 0]] (jcH j G Y N)
    (fun r H => r = .bool (l.any (getB j.lost)) ∧ Holds (jcH j G Y N) H) := by
  have hc := lostIdx_ok j l hlen
  unfold jcH jB jRow at hc ⊢
  refine fn_of_cwW tabOK (Go.Proofs.Try.func117) rfl (fun C => ?_)
  simp only [Go.Proofs.Try.ntmps117, Go.Proofs.Try.results117, go_sem]
  refine cw_go tabOK 99 (by simp only [go_sem]; try exact rfl) (by simp [go_sem]) ?_
  refine cw_step rfl (trip_callP rfl (by simp only [go_sem]; try exact rfl) (by simp [go_sem]) ⟨_, Go.Proofs.Try.func155, by kernel_rfl, rfl⟩ [29, 25, 26, 27, 2] (by simp only [go_sem, Bool.false_or, Bool.or_true, Bool.true_or, Bool.or_false, ↓reduceIte]; try exact rfl) (by simp [go_sem]) (by simp) (by simp [go_sem]) (by simp [go_sem]) (by simp [go_sem]) (hc) (by simp only [go_sem, Bool.false_or, Bool.or_true, Bool.true_or, Bool.or_false, ↓reduceIte]; exact rfl)) ?_
  refine cw_go tabOK 99 (by simp only [go_sem]; try exact rfl) (by simp [go_sem]) ?_
  refine cw_ret ⟨_, _, by simp only [go_sem]; try exact rfl, by simp [go_sem], _, .inr (.inl rfl), ?_, ?_⟩
  · rw [idxI_any]
  · skip
    simp only [pins, List.cons_append, List.nil_append, List.map_cons, List.map_nil]
    repeat' refine holds_cons ?_ ?_
    all_goals first | exact holds_nil _ | rfl | simp [go_sem]

theorem rests_ok (j : JS) (a : Act) (G Y N : Nat → Nat) : FnOK Try.prog 171 [.ptr 29 6 0 0, .ptr 6 7 0 0] (jaH j a G Y N) (fun r H => r = .bool (restsB j a) ∧ Holds (jaH j a G Y N) H) := by
  have hc := lostAny_ok j (fids a) (by have := fids_len a; omega)
  have hf := fids_ok a
  unfold restsB
  generalize (fids a).any (getB j.lost) = z at hc ⊢
  generalize fids a = l at hc hf
  unfold jcH jB jRow at hc
  unfold actRow at hf
  unfold jaH jB jRow actRow
  refine fn_of_cwW tabOK (Go.Proofs.Try.func171) rfl (fun C => ?_)
  simp only [Go.Proofs.Try.ntmps171, Go.Proofs.Try.results171, go_sem]
  refine cw_go tabOK 99 (by simp only [go_sem]; try exact rfl) (by simp [go_sem]) ?_
  refine cw_call rfl rfl (by simp only [go_sem]; try exact rfl) (by simp [go_sem]) ⟨_, Go.Proofs.Try.func99, by kernel_rfl, rfl⟩ (by simp [go_sem]) (hf) (by simp [go_sem]) (by simp only [go_sem]; exact rfl) ?_
  refine cw_go tabOK 99 (by simp only [go_sem]; try exact rfl) (by simp [go_sem]) ?_
  refine cw_step rfl (trip_callP rfl (by simp only [go_sem]; try exact rfl) (by simp [go_sem]) ⟨_, Go.Proofs.Try.func117, by kernel_rfl, rfl⟩ [29, 25, 26, 27, 2] (by simp only [go_sem, Bool.false_or, Bool.or_true, Bool.true_or, Bool.or_false, ↓reduceIte]; try exact rfl) (by simp [go_sem]) (by simp) (by simp [go_sem]) (by simp [go_sem]) (by simp [go_sem]) (hc) (by simp only [go_sem, Bool.false_or, Bool.or_true, Bool.true_or, Bool.or_false, ↓reduceIte]; exact rfl)) ?_
  refine cw_go tabOK 99 (by simp only [go_sem]; try exact rfl) (by simp [go_sem]) ?_
  refine cw_ret ⟨_, _, by simp only [go_sem]; try exact rfl, by simp [go_sem], _, .inr (.inl rfl), ?_, ?_⟩
  · rfl
  · skip
    simp only [pins, List.cons_append, List.nil_append, List.map_cons, List.map_nil]
    repeat' refine holds_cons ?_ ?_
    all_goals first | exact holds_nil _ | rfl | simp [go_sem]

set_option maxHeartbeats 1000000 in
theorem stale_ok (j : JS) (r : Rec) (a : Act) (hl : Small j.l) (G Y N : Nat → Nat) : FnOK Try.prog 173 [.ptr 29 6 0 0, .rp (recRow r) 0, .ptr 6 7 0 0] (jaH j a G Y N) (fun x H => x = .bool (staleB j r a) ∧ Holds (jaH j a G Y N) H) := by
  have hf := find_ok j.l a.fid hl
  unfold staleB
  unfold jaH jB jRow actRow recRow
  refine fn_of_cwW tabOK (Go.Proofs.Try.func173) rfl (fun C => ?_)
  simp only [Go.Proofs.Try.ntmps173, Go.Proofs.Try.results173, go_sem]
  refine cw_go tabOK 99 (by simp only [go_sem]; try exact rfl) (by simp [go_sem]) ?_
  refine cw_draw mixed ?_
  refine seg_start rfl ?_
  refine seg_runN tabOK 12 (by simp only [go_sem]; exact rfl) (by simp only [go_sem]; exact rfl) (by simp only [go_sem]; try exact rfl) (by simp [go_sem]) (by simp only [go_sem]; exact rfl) ?_
  refine seg_name 20 (by simp only [go_sem]; exact rfl) (fun c20 h20 => ?_)
  simp only [go_sem]
  refine seg_runN tabOK 7 (by simp only [go_sem]; exact rfl) (by simp only [go_sem]; exact rfl) (by simp only [go_sem]; try exact rfl) (by simp [go_sem]) (by simp only [go_sem]; exact rfl) ?_
  refine seg_name 27 (by simp only [go_sem]; exact rfl) (fun c27 h27 => ?_)
  simp only [go_sem]
  refine seg_run tabOK (by simp only [go_sem]; try exact rfl) (by simp [go_sem]) (by simp only [go_sem]; exact rfl) ?_
  refine seg_end (by kernel_rfl) (by simp only [go_sem]; exact rfl) ?_
  refine draw_close (by kernel_rfl) ?_
  try simp only [go_sem, List.getElem_toArray, List.getElem_cons_succ, List.getElem_cons_zero]
  refine cw_goR 99 (by simp only [go_sem]; try exact rfl) ?_
  refine cw_name 38 (by simp only [go_sem]; exact rfl) (fun c38 h38 => ?_)
  simp only [go_sem]
  have hst : (((a.kind ≠ 3 ∧ a.kind ≠ 4) ∨ r.version < 0) ∨ getB j.ours a.fid = true) ↔ c38 = true := by
    subst h38 h27 h20
    simp [cond_and, cond_or]
  clear h38 h27 h20
  cases c38 with
  | true =>
    rw [if_pos (hst.2 rfl)]
    refine cw_condT (by simp only [go_sem]; try exact rfl) trivial (rfl) ?_
    refine cw_go tabOK 99 (by simp only [go_sem]; try exact rfl) (by simp [go_sem]) ?_
    refine cw_ret ⟨_, _, by simp only [go_sem]; try exact rfl, by simp [go_sem], _, .inr (.inl rfl), ?_, ?_⟩
    · rfl
    · skip
      simp only [pins, List.cons_append, List.nil_append, List.map_cons, List.map_nil]
      repeat' refine holds_cons ?_ ?_
      all_goals first | exact holds_nil _ | rfl | simp [go_sem]
  | false =>
    rw [if_neg (fun h => nomatch hst.1 h)]
    refine cw_condF (by simp only [go_sem]; try exact rfl) trivial (rfl) ?_
    refine cw_go tabOK 99 (by simp only [go_sem]; try exact rfl) (by simp [go_sem]) ?_
    refine cw_draw mixed ?_
    refine seg_start rfl ?_
    refine seg_runN tabOK 8 (by simp only [go_sem]; exact rfl) (by simp only [go_sem]; exact rfl) (by simp only [go_sem]; try exact rfl) (by simp [go_sem]) (by simp only [go_sem]; exact rfl) ?_
    refine seg_call rfl rfl (by simp only [go_sem]; try exact rfl) (by simp [go_sem]) ⟨_, Go.Proofs.Try.func33, by kernel_rfl, rfl⟩ (by simp [go_sem]) (hf) (by simp [go_sem]) (by simp only [go_sem]; exact rfl) (by simp only [go_sem]; exact rfl) ?_
    simp only [go_sem, findR]
    rw [isAt_eq]
    cases findN j.l a.fid with
    | none =>
      simp only [Option.getD_none, Option.isSome_none]
      refine seg_run tabOK (by simp only [go_sem]; try exact rfl) (by simp [go_sem]) (by simp only [go_sem]; exact rfl) ?_
      refine seg_new tabOK rfl (by simp only [go_sem]; try exact rfl) (by simp only [go_sem]; try exact rfl) (by simp [go_sem]) (by simp only [go_sem]; try exact rfl) (by simp only [go_sem]; exact rfl) (by simp only [go_sem]; exact rfl) ?_
      simp only [go_sem, nodeRow, zeroN]
      refine seg_store tabOK rfl rfl (by simp only [go_sem]; try exact rfl) (by simp only [go_sem]; try exact rfl) (by simp only [go_sem]; try exact rfl) (by first | trivial | simp [go_sem]) (by simp only [go_sem]; exact rfl) (by simp [go_sem]) (by simp only [go_sem]; exact rfl) (by simp only [go_sem]; exact rfl) (by simp only [go_sem]; exact rfl) ?_
      refine seg_end (by kernel_rfl) (by simp only [go_sem]; exact rfl) ?_
      refine draw_step tabOK rfl (by kernel_rfl) rfl (by simp only [go_sem]; try exact rfl) (by simp [go_sem]) rfl ?_
      refine draw_close (by kernel_rfl) ?_
      try simp only [go_sem, List.getElem_toArray, List.getElem_cons_succ, List.getElem_cons_zero]
      refine cw_go tabOK 99 (by simp only [go_sem]; try exact rfl) (by simp [go_sem]) ?_
      refine cw_draw mixed ?_
      refine seg_start rfl ?_
      refine seg_run tabOK (by simp only [go_sem]; try exact rfl) (by simp [go_sem]) (by simp only [go_sem]; exact rfl) ?_
      refine seg_end (by kernel_rfl) (by simp only [go_sem]; exact rfl) ?_
      refine draw_close (by kernel_rfl) ?_
      try simp only [go_sem, List.getElem_toArray, List.getElem_cons_succ, List.getElem_cons_zero]
      refine cw_go tabOK 99 (by simp only [go_sem]; try exact rfl) (by simp [go_sem]) ?_
      refine cw_ret ⟨_, _, by simp only [go_sem]; try exact rfl, by simp [go_sem], _, .inr (.inl rfl), ?_, ?_⟩
      · rfl
      · skip
        simp only [pins, List.cons_append, List.nil_append, List.map_cons, List.map_nil]
        repeat' refine holds_cons ?_ ?_
        all_goals first | exact holds_nil _ | rfl | simp [go_sem]
    | some n =>
      simp only [Option.getD_some, Option.isSome_some]
      refine seg_run tabOK (by simp only [go_sem]; try exact rfl) (by simp [go_sem]) (by simp only [go_sem]; exact rfl) ?_
      refine seg_new tabOK rfl (by simp only [go_sem]; try exact rfl) (by simp only [go_sem]; try exact rfl) (by simp [go_sem]) (by simp only [go_sem]; try exact rfl) (by simp only [go_sem]; exact rfl) (by simp only [go_sem]; exact rfl) ?_
      simp only [go_sem, nodeRow]
      refine seg_store tabOK rfl rfl (by simp only [go_sem]; try exact rfl) (by simp only [go_sem]; try exact rfl) (by simp only [go_sem]; try exact rfl) (by first | trivial | simp [go_sem]) (by simp only [go_sem]; exact rfl) (by simp [go_sem]) (by simp only [go_sem]; exact rfl) (by simp only [go_sem]; exact rfl) (by simp only [go_sem]; exact rfl) ?_
      refine seg_end (by kernel_rfl) (by simp only [go_sem]; exact rfl) ?_
      refine draw_step tabOK rfl (by kernel_rfl) rfl (by simp only [go_sem]; try exact rfl) (by simp [go_sem]) rfl ?_
      refine draw_close (by kernel_rfl) ?_
      try simp only [go_sem, List.getElem_toArray, List.getElem_cons_succ, List.getElem_cons_zero]
      refine cw_go tabOK 99 (by simp only [go_sem]; try exact rfl) (by simp [go_sem]) ?_
      refine cw_draw mixed ?_
      refine seg_start rfl ?_
      refine seg_run tabOK (by simp only [go_sem]; try exact rfl) (by simp [go_sem]) (by simp only [go_sem]; exact rfl) ?_
      refine seg_end (by kernel_rfl) (by simp only [go_sem]; exact rfl) ?_
      refine draw_close (by kernel_rfl) ?_
      try simp only [go_sem, List.getElem_toArray, List.getElem_cons_succ, List.getElem_cons_zero]
      refine cw_go tabOK 99 (by simp only [go_sem]; try exact rfl) (by simp [go_sem]) ?_
      refine cw_ret ⟨_, _, by simp only [go_sem]; try exact rfl, by simp [go_sem], _, .inr (.inl rfl), ?_, ?_⟩
      · rfl
      · skip
        simp only [pins, List.cons_append, List.nil_append, List.map_cons, List.map_nil]
        repeat' refine holds_cons ?_ ?_
        all_goals first | exact holds_nil _ | rfl | simp [go_sem]
end La

namespace La
open Go Go.Eng Go.Proofs
set_option maxRecDepth 10000
set_option linter.unusedSimpArgs false
set_option linter.unusedVariables false

theorem one_rests {j : JS} {r : Rec} (h : restsB j r.act = true) : oneV j r = ⟨14, 0⟩ ∧ oneA j r = r.act ∧ oneJ j r = j := by
  simp [oneV, oneA, oneJ, oneE, h]
theorem one_form {j : JS} {r : Rec} (h : restsB j r.act = false) (h1 : madeB r.act = true) (h2 : hasI j.own r.act.fid = true ∨ r.act.fid ≥ 0) : oneV j r = ⟨2, 0⟩ ∧ oneA j r = r.act ∧ oneJ j r = j := by
  simp [oneV, oneA, oneJ, oneE, h, h1, h2]
theorem one_stale {j : JS} {r : Rec} (h : restsB j r.act = false) (h1 : ¬ (madeB r.act = true ∧ (hasI j.own r.act.fid = true ∨ r.act.fid ≥ 0))) (h2 : staleB { j with own := own1 j r } r (actJ j r) = true) :
    oneV j r = ⟨13, 0⟩ ∧ oneA j r = actJ j r ∧ oneJ j r = { j with own := own1 j r } := by
  simp [oneV, oneA, oneJ, oneE, h, h1, h2]
theorem one_err {j : JS} {r : Rec} (h : restsB j r.act = false) (h1 : ¬ (madeB r.act = true ∧ (hasI j.own r.act.fid = true ∨ r.act.fid ≥ 0))) (h2 : staleB { j with own := own1 j r } r (actJ j r) = false) (h3 : applyE j.l (actJ j r) ≠ 0) :
    oneV j r = ⟨applyE j.l (actJ j r), 0⟩ ∧ oneA j r = actJ j r ∧ oneJ j r = { j with own := if madeB r.act = true then mdel (own1 j r) r.act.fid else own1 j r } := by
  simp [oneV, oneA, oneJ, oneE, h, h1, h2, h3]
theorem one_done {j : JS} {r : Rec} (h : restsB j r.act = false) (h1 : ¬ (madeB r.act = true ∧ (hasI j.own r.act.fid = true ∨ r.act.fid ≥ 0))) (h2 : staleB { j with own := own1 j r } r (actJ j r) = false) (h3 : applyE j.l (actJ j r) = 0) :
    oneV j r = ⟨0, (actJ j r).fid⟩ ∧ oneA j r = actJ j r ∧ oneJ j r = { j with l := applyL j.l (actJ j r) j.version, next := if madeB r.act = true then j.next + 1 else j.next, version := j.version + 1, own := own1 j r } := by
  simp [oneV, oneA, oneJ, oneE, h, h1, h2, h3]

set_option maxHeartbeats 2000000 in
theorem one_ok (j : JS) (r : Rec) (hg : Good j.l) (hr : ActFit r.act) (hn : j.next.natAbs ≤ 90000000) (hv : j.version.natAbs ≤ 90000000) (G Y N : Nat → Nat) : FnOK Try.prog 156 [.ptr 29 6 0 0, .rp (recRow r) 0] (jH j G Y N)
    (fun x H => x = .tup [.agg (verdictRow (oneV j r)), .agg (actRow (oneA j r))] ∧ Holds (jH (oneJ j r) G Y N) H) := by
  have how := acts_own r.act hr.data
  have hre := rests_ok j r.act
  have q0 := @one_rests j r
  have q1 := @one_form j r
  have q2 := @one_stale j r
  have q3 := @one_err j r
  have q4 := @one_done j r
  have hfid : ∀ f (G Y N : Nat → Nat), FnOK Try.prog 172 [.ptr 29 6 0 0, .int .i64 f] (jH { j with own := own1 j r } G Y N) (fun x H => x = .int .i64 (atF (own1 j r) f) ∧ Holds (jH { j with own := own1 j r } G Y N) H) := fun f => fid_ok { j with own := own1 j r } f
  unfold jH jB jRow at hfid
  simp only at hfid
  have hst := stale_ok { j with own := own1 j r } r (actJ j r) hg.small
  have hap := apply_good hg (actJ j r) j.version (actJ_fit hr)
  have hwn : IntKind.i64.wrap (j.next + 1) = j.next + 1 := Eng.wrap_small (by omega) (by omega)
  have hwv : IntKind.i64.wrap (j.version + 1) = j.version + 1 := Eng.wrap_small (by omega) (by omega)
  unfold jaH jB jRow at hst
  unfold applyR at hap
  generalize staleB { j with own := own1 j r } r (actJ j r) = st at *
  generalize applyE j.l (actJ j r) = E at *
  generalize applyL j.l (actJ j r) j.version = L at *
  simp only [actRow, actJ] at hst hap
  generalize oneV j r = V at *
  generalize oneA j r = A at *
  generalize oneJ j r = J at *
  unfold jaH jB jRow actRow at hre
  unfold actRow at how
  unfold jH jB jRow recRow
  refine fn_of_cwW tabOK (Go.Proofs.Try.func156) rfl (fun C => ?_)
  simp only [Go.Proofs.Try.ntmps156, Go.Proofs.Try.results156, go_sem]
  refine cw_go tabOK 99 (by simp only [go_sem]; try exact rfl) (by simp [go_sem]) ?_
  refine cw_call rfl rfl (by simp only [go_sem]; try exact rfl) (by simp [go_sem]) ⟨_, Go.Proofs.Try.func72, by kernel_rfl, rfl⟩ (by simp [go_sem]) (how) (by simp [go_sem]) (by simp only [go_sem]; exact rfl) ?_
  refine cw_go tabOK 99 (by simp only [go_sem]; try exact rfl) (by simp [go_sem]) ?_
  refine cw_step rfl (trip_callP rfl (by simp only [go_sem]; try exact rfl) (by simp [go_sem]) ⟨_, Go.Proofs.Try.func171, by kernel_rfl, rfl⟩ [29, 25, 26, 27, 6] (by simp only [go_sem, Bool.false_or, Bool.or_true, Bool.true_or, Bool.or_false, ↓reduceIte]; try exact rfl) (by simp [go_sem]) (by simp) (by simp [go_sem]) (by simp [go_sem]) (by simp [go_sem]) (hre) (by simp only [go_sem, Bool.false_or, Bool.or_true, Bool.true_or, Bool.or_false, ↓reduceIte]; exact rfl)) ?_
  cases h0 : restsB j r.act with
  | true =>
    obtain ⟨e1, e2, e3⟩ := q0 h0
    refine cw_go tabOK 99 (by simp only [go_sem]; try exact rfl) (by simp [go_sem]) ?_
    refine cw_condT (by simp only [go_sem]; try exact rfl) trivial (rfl) ?_
    refine cw_go tabOK 99 (by simp only [go_sem]; try exact rfl) (by simp [go_sem]) ?_
    refine cw_draw mixed ?_
    refine seg_start rfl ?_
    refine seg_build tabOK rfl (by simp only [go_sem]; try exact rfl) (by simp only [go_sem]; try exact rfl) (by simp [go_sem]) (by simp only [go_sem, cond_true, cond_false]; exact rfl) (by simp only [go_sem]; exact rfl) (by simp only [go_sem]; exact rfl) ?_
    refine seg_runN tabOK 1 (by simp only [go_sem]; exact rfl) (by simp only [go_sem]; exact rfl) (by simp only [go_sem]; try exact rfl) (by simp [go_sem]) (by simp only [go_sem]; exact rfl) ?_
    refine seg_store tabOK rfl rfl (by simp only [go_sem]; try exact rfl) (by simp only [go_sem]; try exact rfl) (by simp only [go_sem]; try exact rfl) (by first | trivial | simp [go_sem]) (by simp only [go_sem]; exact rfl) (by simp [go_sem]) (by simp only [go_sem]; exact rfl) (by simp only [go_sem]; exact rfl) (by simp only [go_sem]; exact rfl) ?_
    refine seg_store tabOK rfl rfl (by simp only [go_sem]; try exact rfl) (by simp only [go_sem]; try exact rfl) (by simp only [go_sem]; try exact rfl) (by first | trivial | simp [go_sem]) (by simp only [go_sem]; exact rfl) (by simp [go_sem]) (by simp only [go_sem]; exact rfl) (by simp only [go_sem]; exact rfl) (by simp only [go_sem]; exact rfl) ?_
    refine seg_end (by kernel_rfl) (by simp only [go_sem]; exact rfl) ?_
    refine draw_close (by kernel_rfl) ?_
    try simp only [go_sem, List.getElem_toArray, List.getElem_cons_succ, List.getElem_cons_zero]
    refine cw_go tabOK 99 (by simp only [go_sem]; try exact rfl) (by simp [go_sem]) ?_
    refine cw_ret ⟨_, _, by simp only [go_sem]; try exact rfl, by simp [go_sem], _, .inr (.inl rfl), ?_, ?_⟩
    · simp [verdictRow, actRow, e1, e2]
    · rw [e3]
      simp only [pins, List.cons_append, List.nil_append, List.map_cons, List.map_nil]
      repeat' refine holds_cons ?_ ?_
      all_goals first | exact holds_nil _ | rfl | simp [go_sem]
  | false =>
    clear q0
    refine cw_go tabOK 99 (by simp only [go_sem]; try exact rfl) (by simp [go_sem]) ?_
    refine cw_condF (by simp only [go_sem]; try exact rfl) trivial (rfl) ?_
    refine cw_goR 99 (by simp only [go_sem]; try exact rfl) ?_
    refine cw_runN tabOK 8 (by simp only [go_sem]; exact rfl) (by simp only [go_sem]; exact rfl) (by simp only [go_sem]; try exact rfl) (by simp [go_sem]) ?_
    refine cw_name 28 (by simp only [go_sem]; exact rfl) (fun c28 h28 => ?_)
    simp only [go_sem]
    have h28' : c28 = madeB r.act := by rw [← h28, cond_or]; rfl
    clear h28
    subst h28'
    refine cw_go tabOK 99 (by simp only [go_sem]; try exact rfl) (by simp [go_sem]) ?_
    cases h1 : madeB r.act with
    | true =>
      refine cw_condT (by simp only [go_sem]; try exact rfl) trivial (rfl) ?_
      refine cw_go tabOK 99 (by simp only [go_sem]; try exact rfl) (by simp [go_sem]) ?_
      refine cw_draw mixed ?_
      refine seg_start rfl ?_
      refine seg_run tabOK (by simp only [go_sem]; try exact rfl) (by simp [go_sem]) (by simp only [go_sem]; exact rfl) ?_
      refine seg_end (by kernel_rfl) (by simp only [go_sem]; exact rfl) ?_
      refine draw_close (by kernel_rfl) ?_
      try simp only [go_sem, List.getElem_toArray, List.getElem_cons_succ, List.getElem_cons_zero]
      refine cw_go tabOK 99 (by simp only [go_sem]; try exact rfl) (by simp [go_sem]) ?_
      cases h2 : (hasI j.own r.act.fid || decide (r.act.fid ≥ 0)) with
      | true =>
        obtain ⟨e1, e2, e3⟩ := q1 h0 h1 (by simpa using h2)
        refine cw_condT (by simp only [go_sem]; try exact rfl) trivial (by simpa [cond_or] using h2) ?_
        refine cw_go tabOK 99 (by simp only [go_sem]; try exact rfl) (by simp [go_sem]) ?_
        refine cw_draw mixed ?_
        refine seg_start rfl ?_
        refine seg_build tabOK rfl (by simp only [go_sem]; try exact rfl) (by simp only [go_sem]; try exact rfl) (by simp [go_sem]) (by simp only [go_sem, cond_true, cond_false]; exact rfl) (by simp only [go_sem]; exact rfl) (by simp only [go_sem]; exact rfl) ?_
        refine seg_runN tabOK 1 (by simp only [go_sem]; exact rfl) (by simp only [go_sem]; exact rfl) (by simp only [go_sem]; try exact rfl) (by simp [go_sem]) (by simp only [go_sem]; exact rfl) ?_
        refine seg_store tabOK rfl rfl (by simp only [go_sem]; try exact rfl) (by simp only [go_sem]; try exact rfl) (by simp only [go_sem]; try exact rfl) (by first | trivial | simp [go_sem]) (by simp only [go_sem]; exact rfl) (by simp [go_sem]) (by simp only [go_sem]; exact rfl) (by simp only [go_sem]; exact rfl) (by simp only [go_sem]; exact rfl) ?_
        refine seg_store tabOK rfl rfl (by simp only [go_sem]; try exact rfl) (by simp only [go_sem]; try exact rfl) (by simp only [go_sem]; try exact rfl) (by first | trivial | simp [go_sem]) (by simp only [go_sem]; exact rfl) (by simp [go_sem]) (by simp only [go_sem]; exact rfl) (by simp only [go_sem]; exact rfl) (by simp only [go_sem]; exact rfl) ?_
        refine seg_end (by kernel_rfl) (by simp only [go_sem]; exact rfl) ?_
        refine draw_close (by kernel_rfl) ?_
        try simp only [go_sem, List.getElem_toArray, List.getElem_cons_succ, List.getElem_cons_zero]
        refine cw_go tabOK 99 (by simp only [go_sem]; try exact rfl) (by simp [go_sem]) ?_
        refine cw_ret ⟨_, _, by simp only [go_sem]; try exact rfl, by simp [go_sem], _, .inr (.inl rfl), ?_, ?_⟩
        · simp [verdictRow, actRow, e1, e2]
        · rw [e3]
          simp only [pins, List.cons_append, List.nil_append, List.map_cons, List.map_nil]
          repeat' refine holds_cons ?_ ?_
          all_goals first | exact holds_nil _ | rfl | simp [go_sem]
      | false =>
        refine cw_condF (by simp only [go_sem]; try exact rfl) trivial (by simpa [cond_or] using h2) ?_
        refine cw_go tabOK 99 (by simp only [go_sem]; try exact rfl) (by simp [go_sem]) ?_
        refine cw_draw mixed ?_
        refine seg_start rfl ?_
        refine seg_runN tabOK 10 (by simp only [go_sem]; exact rfl) (by simp only [go_sem]; exact rfl) (by simp only [go_sem]; try exact rfl) (by simp [go_sem]) (by simp only [go_sem]; exact rfl) ?_
        refine seg_end (by kernel_rfl) (by simp only [go_sem]; exact rfl) ?_
        refine draw_step tabOK rfl (by kernel_rfl) rfl (by simp only [go_sem]; try exact rfl) (by simp [go_sem]) rfl ?_
        refine draw_close (by kernel_rfl) ?_
        try simp only [go_sem, List.getElem_toArray, List.getElem_cons_succ, List.getElem_cons_zero]
        refine cw_go tabOK 99 (by simp only [go_sem]; try exact rfl) (by simp [go_sem]) ?_
        have ho : own1 j r = mput j.own r.act.fid j.next := by unfold own1; rw [if_pos h1]
        rw [← ho]
        have hnf : ¬ (madeB r.act = true ∧ (hasI j.own r.act.fid = true ∨ r.act.fid ≥ 0)) := fun hh => by
          have := hh.2
          simp only [Bool.or_eq_false_iff, decide_eq_false_iff_not] at h2
          rcases this with h | h
          · rw [h2.1] at h; cases h
          · exact h2.2 h
        clear h2
        have hk5 : ¬ r.act.kind = 5 := fun e => by simp [madeB, e] at h1
        have hT : (if r.act.kind = 5 then atF (own1 j r) r.act.to else r.act.to) = r.act.to := if_neg hk5
        rw [hT] at hst hap
        -- the fids as they are here
        refine cw_draw mixed ?_
        refine seg_start rfl ?_
        refine seg_runN tabOK 3 (by simp only [go_sem]; exact rfl) (by simp only [go_sem]; exact rfl) (by simp only [go_sem]; try exact rfl) (by simp [go_sem]) (by simp only [go_sem]; exact rfl) ?_
        refine seg_callK rfl rfl (by simp only [go_sem]; try exact rfl) (by simp [go_sem]) ⟨_, Go.Proofs.Try.func172, by kernel_rfl, rfl⟩ [29, 25, 26, 27] (by simp only [go_sem, Bool.false_or, Bool.or_true, Bool.true_or, Bool.or_false, ↓reduceIte]; try exact rfl) (by simp [go_sem]) (by simp) (by simp [go_sem]) (by simp [go_sem]) (hfid r.act.fid) (by simp only [go_sem]; exact rfl) (by simp only [go_sem, Bool.false_or, Bool.or_true, Bool.true_or, Bool.or_false, ↓reduceIte]; exact rfl) ?_
        refine seg_runN tabOK 3 (by simp only [go_sem]; exact rfl) (by simp only [go_sem]; exact rfl) (by simp only [go_sem]; try exact rfl) (by simp [go_sem]) (by simp only [go_sem]; exact rfl) ?_
        refine seg_callK rfl rfl (by simp only [go_sem]; try exact rfl) (by simp [go_sem]) ⟨_, Go.Proofs.Try.func172, by kernel_rfl, rfl⟩ [29, 25, 26, 27] (by simp only [go_sem, Bool.false_or, Bool.or_true, Bool.true_or, Bool.or_false, ↓reduceIte]; try exact rfl) (by simp [go_sem]) (by simp) (by simp [go_sem]) (by simp [go_sem]) (hfid r.act.dir) (by simp only [go_sem]; exact rfl) (by simp only [go_sem, Bool.false_or, Bool.or_true, Bool.true_or, Bool.or_false, ↓reduceIte]; exact rfl) ?_
        refine seg_runN tabOK 1 (by simp only [go_sem]; exact rfl) (by simp only [go_sem]; exact rfl) (by simp only [go_sem]; try exact rfl) (by simp [go_sem]) (by simp only [go_sem]; exact rfl) ?_
        refine seg_store tabOK rfl rfl (by simp only [go_sem]; try exact rfl) (by simp only [go_sem]; try exact rfl) (by simp only [go_sem]; try exact rfl) (by first | trivial | simp [go_sem]) (by simp only [go_sem]; exact rfl) (by simp [go_sem]) (by simp only [go_sem]; exact rfl) (by simp only [go_sem]; exact rfl) (by simp only [go_sem]; exact rfl) ?_
        refine seg_runN tabOK 1 (by simp only [go_sem]; exact rfl) (by simp only [go_sem]; exact rfl) (by simp only [go_sem]; try exact rfl) (by simp [go_sem]) (by simp only [go_sem]; exact rfl) ?_
        refine seg_store tabOK rfl rfl (by simp only [go_sem]; try exact rfl) (by simp only [go_sem]; try exact rfl) (by simp only [go_sem]; try exact rfl) (by first | trivial | simp [go_sem]) (by simp only [go_sem]; exact rfl) (by simp [go_sem]) (by simp only [go_sem]; exact rfl) (by simp only [go_sem]; exact rfl) (by simp only [go_sem]; exact rfl) ?_
        refine seg_end (by kernel_rfl) (by simp only [go_sem]; exact rfl) ?_
        refine draw_close (by kernel_rfl) ?_
        try simp only [go_sem, List.getElem_toArray, List.getElem_cons_succ, List.getElem_cons_zero]
        refine cw_go tabOK 99 (by simp only [go_sem]; try exact rfl) (by simp [go_sem]) ?_
        refine cw_condF (by simp only [go_sem]; try exact rfl) trivial (by simp [hk5]) ?_
        refine cw_go tabOK 99 (by simp only [go_sem]; try exact rfl) (by simp [go_sem]) ?_
        refine cw_step rfl (trip_callP rfl (by simp only [go_sem]; try exact rfl) (by simp [go_sem]) ⟨_, Go.Proofs.Try.func173, by kernel_rfl, rfl⟩ [29, 25, 26, 27, 6] (by simp only [go_sem, Bool.false_or, Bool.or_true, Bool.true_or, Bool.or_false, ↓reduceIte]; try exact rfl) (by simp [go_sem]) (by simp) (by simp [go_sem]) (by simp [go_sem]) (by simp [go_sem]) (hst) (by simp only [go_sem, Bool.false_or, Bool.or_true, Bool.true_or, Bool.or_false, ↓reduceIte]; exact rfl)) ?_
        refine cw_go tabOK 99 (by simp only [go_sem]; try exact rfl) (by simp [go_sem]) ?_
        cases st with
        | true =>
          obtain ⟨e1, e2, e3⟩ := q2 h0 hnf rfl
          refine cw_condT (by simp only [go_sem]; try exact rfl) trivial (rfl) ?_
          refine cw_go tabOK 99 (by simp only [go_sem]; try exact rfl) (by simp [go_sem]) ?_
          refine cw_draw mixed ?_
          refine seg_start rfl ?_
          refine seg_build tabOK rfl (by simp only [go_sem]; try exact rfl) (by simp only [go_sem]; try exact rfl) (by simp [go_sem]) (by simp only [go_sem, cond_true, cond_false]; exact rfl) (by simp only [go_sem]; exact rfl) (by simp only [go_sem]; exact rfl) ?_
          refine seg_runN tabOK 1 (by simp only [go_sem]; exact rfl) (by simp only [go_sem]; exact rfl) (by simp only [go_sem]; try exact rfl) (by simp [go_sem]) (by simp only [go_sem]; exact rfl) ?_
          refine seg_store tabOK rfl rfl (by simp only [go_sem]; try exact rfl) (by simp only [go_sem]; try exact rfl) (by simp only [go_sem]; try exact rfl) (by first | trivial | simp [go_sem]) (by simp only [go_sem]; exact rfl) (by simp [go_sem]) (by simp only [go_sem]; exact rfl) (by simp only [go_sem]; exact rfl) (by simp only [go_sem]; exact rfl) ?_
          refine seg_store tabOK rfl rfl (by simp only [go_sem]; try exact rfl) (by simp only [go_sem]; try exact rfl) (by simp only [go_sem]; try exact rfl) (by first | trivial | simp [go_sem]) (by simp only [go_sem]; exact rfl) (by simp [go_sem]) (by simp only [go_sem]; exact rfl) (by simp only [go_sem]; exact rfl) (by simp only [go_sem]; exact rfl) ?_
          refine seg_end (by kernel_rfl) (by simp only [go_sem]; exact rfl) ?_
          refine draw_close (by kernel_rfl) ?_
          try simp only [go_sem, List.getElem_toArray, List.getElem_cons_succ, List.getElem_cons_zero]
          refine cw_go tabOK 99 (by simp only [go_sem]; try exact rfl) (by simp [go_sem]) ?_
          refine cw_ret ⟨_, _, by simp only [go_sem]; try exact rfl, by simp [go_sem], _, .inr (.inl rfl), ?_, ?_⟩
          · simp [verdictRow, actRow, e1, e2, actJ, hk5]
          · rw [e3]
            simp only [pins, List.cons_append, List.nil_append, List.map_cons, List.map_nil]
            repeat' refine holds_cons ?_ ?_
            all_goals first | exact holds_nil _ | rfl | simp [go_sem]
        | false =>
          refine cw_condF (by simp only [go_sem]; try exact rfl) trivial (rfl) ?_
          refine cw_go tabOK 99 (by simp only [go_sem]; try exact rfl) (by simp [go_sem]) ?_
          by_cases hE : E = 0
          · obtain ⟨e1, e2, e3⟩ := q4 h0 hnf rfl hE
            subst hE
            rw [h1] at e3
            simp only [if_true, Bool.false_eq_true, if_false] at hap e3
            refine cw_draw mixed ?_
            refine seg_start rfl ?_
            refine seg_runN tabOK 9 (by simp only [go_sem]; exact rfl) (by simp only [go_sem]; exact rfl) (by simp only [go_sem]; try exact rfl) (by simp [go_sem]) (by simp only [go_sem]; exact rfl) ?_
            refine seg_call rfl rfl (by simp only [go_sem]; try exact rfl) (by simp [go_sem]) ⟨_, Go.Proofs.Try.func40, by kernel_rfl, rfl⟩ (by simp [go_sem]) (hap) (by simp [go_sem]) (by simp only [go_sem]; exact rfl) (by simp only [go_sem]; exact rfl) ?_
            refine seg_run tabOK (by simp only [go_sem]; try exact rfl) (by simp [go_sem]) (by simp only [go_sem]; exact rfl) ?_
            refine seg_end (by kernel_rfl) (by simp only [go_sem]; exact rfl) ?_
            refine draw_close (by kernel_rfl) ?_
            try simp only [go_sem, List.getElem_toArray, List.getElem_cons_succ, List.getElem_cons_zero]
            refine cw_go tabOK 99 (by simp only [go_sem]; try exact rfl) (by simp [go_sem]) ?_
            refine cw_condF (by simp only [go_sem]; try exact rfl) trivial (by simp) ?_
            refine cw_go tabOK 99 (by simp only [go_sem, hwn, hwv]; try exact rfl) (by simp [go_sem, hwn, hwv]) ?_
            refine cw_condT (by simp only [go_sem]; try exact rfl) trivial (by simp) ?_
            refine cw_go tabOK 99 (by simp only [go_sem, hwn, hwv]; try exact rfl) (by simp [go_sem, hwn, hwv]) ?_
            refine cw_draw mixed ?_
            refine seg_start rfl ?_
            refine seg_runN tabOK 2 (by simp only [go_sem]; exact rfl) (by simp only [go_sem]; exact rfl) (by simp only [go_sem]; try exact rfl) (by simp [go_sem]) (by simp only [go_sem]; exact rfl) ?_
            refine seg_build tabOK rfl (by simp only [go_sem]; try exact rfl) (by simp only [go_sem]; try exact rfl) (by simp [go_sem]) (by simp only [go_sem, cond_true, cond_false]; exact rfl) (by simp only [go_sem]; exact rfl) (by simp only [go_sem]; exact rfl) ?_
            refine seg_runN tabOK 1 (by simp only [go_sem]; exact rfl) (by simp only [go_sem]; exact rfl) (by simp only [go_sem]; try exact rfl) (by simp [go_sem]) (by simp only [go_sem]; exact rfl) ?_
            refine seg_store tabOK rfl rfl (by simp only [go_sem]; try exact rfl) (by simp only [go_sem]; try exact rfl) (by simp only [go_sem]; try exact rfl) (by first | trivial | simp [go_sem]) (by simp only [go_sem]; exact rfl) (by simp [go_sem]) (by simp only [go_sem]; exact rfl) (by simp only [go_sem]; exact rfl) (by simp only [go_sem]; exact rfl) ?_
            refine seg_store tabOK rfl rfl (by simp only [go_sem]; try exact rfl) (by simp only [go_sem]; try exact rfl) (by simp only [go_sem]; try exact rfl) (by first | trivial | simp [go_sem]) (by simp only [go_sem]; exact rfl) (by simp [go_sem]) (by simp only [go_sem]; exact rfl) (by simp only [go_sem]; exact rfl) (by simp only [go_sem]; exact rfl) ?_
            refine seg_end (by kernel_rfl) (by simp only [go_sem]; exact rfl) ?_
            refine draw_close (by kernel_rfl) ?_
            try simp only [go_sem, List.getElem_toArray, List.getElem_cons_succ, List.getElem_cons_zero]
            refine cw_go tabOK 99 (by simp only [go_sem]; try exact rfl) (by simp [go_sem]) ?_
            refine cw_ret ⟨_, _, by simp only [go_sem]; try exact rfl, by simp [go_sem], _, .inr (.inl rfl), ?_, ?_⟩
            · simp [verdictRow, actRow, e1, e2, actJ, hk5]
            · rw [e3]
              simp only [pins, List.cons_append, List.nil_append, List.map_cons, List.map_nil]
              repeat' refine holds_cons ?_ ?_
              all_goals first | exact holds_nil _ | rfl | simp [go_sem]
          · obtain ⟨e1, e2, e3⟩ := q3 h0 hnf rfl hE
            rw [h1] at e3
            simp only [hE, if_true, Bool.false_eq_true, if_false] at hap e3
            refine cw_draw mixed ?_
            refine seg_start rfl ?_
            refine seg_runN tabOK 9 (by simp only [go_sem]; exact rfl) (by simp only [go_sem]; exact rfl) (by simp only [go_sem]; try exact rfl) (by simp [go_sem]) (by simp only [go_sem]; exact rfl) ?_
            refine seg_call rfl rfl (by simp only [go_sem]; try exact rfl) (by simp [go_sem]) ⟨_, Go.Proofs.Try.func40, by kernel_rfl, rfl⟩ (by simp [go_sem]) (hap) (by simp [go_sem]) (by simp only [go_sem]; exact rfl) (by simp only [go_sem]; exact rfl) ?_
            refine seg_run tabOK (by simp only [go_sem]; try exact rfl) (by simp [go_sem]) (by simp only [go_sem]; exact rfl) ?_
            refine seg_end (by kernel_rfl) (by simp only [go_sem]; exact rfl) ?_
            refine draw_close (by kernel_rfl) ?_
            try simp only [go_sem, List.getElem_toArray, List.getElem_cons_succ, List.getElem_cons_zero]
            refine cw_go tabOK 99 (by simp only [go_sem]; try exact rfl) (by simp [go_sem]) ?_
            refine cw_condT (by simp only [go_sem]; try exact rfl) trivial (by simp [hE]) ?_
            refine cw_go tabOK 99 (by simp only [go_sem]; try exact rfl) (by simp [go_sem]) ?_
            refine cw_condT (by simp only [go_sem]; try exact rfl) trivial (by simp) ?_
            refine cw_go tabOK 99 (by simp only [go_sem]; try exact rfl) (by simp [go_sem]) ?_
            refine cw_draw mixed ?_
            refine seg_start rfl ?_
            refine seg_runN tabOK 9 (by simp only [go_sem]; exact rfl) (by simp only [go_sem]; exact rfl) (by simp only [go_sem]; try exact rfl) (by simp [go_sem]) (by simp only [go_sem]; exact rfl) ?_
            refine seg_end (by kernel_rfl) (by simp only [go_sem]; exact rfl) ?_
            refine draw_step tabOK rfl (by kernel_rfl) rfl (by simp only [go_sem]; try exact rfl) (by simp [go_sem]) rfl ?_
            refine draw_close (by kernel_rfl) ?_
            try simp only [go_sem, List.getElem_toArray, List.getElem_cons_succ, List.getElem_cons_zero]
            refine cw_go tabOK 99 (by simp only [go_sem]; try exact rfl) (by simp [go_sem]) ?_
            refine cw_draw mixed ?_
            refine seg_start rfl ?_
            refine seg_runN tabOK 1 (by simp only [go_sem]; exact rfl) (by simp only [go_sem]; exact rfl) (by simp only [go_sem]; try exact rfl) (by simp [go_sem]) (by simp only [go_sem]; exact rfl) ?_
            refine seg_build tabOK rfl (by simp only [go_sem]; try exact rfl) (by simp only [go_sem]; try exact rfl) (by simp [go_sem]) (by simp only [go_sem, cond_true, cond_false]; exact rfl) (by simp only [go_sem]; exact rfl) (by simp only [go_sem]; exact rfl) ?_
            refine seg_runN tabOK 1 (by simp only [go_sem]; exact rfl) (by simp only [go_sem]; exact rfl) (by simp only [go_sem]; try exact rfl) (by simp [go_sem]) (by simp only [go_sem]; exact rfl) ?_
            refine seg_store tabOK rfl rfl (by simp only [go_sem]; try exact rfl) (by simp only [go_sem]; try exact rfl) (by simp only [go_sem]; try exact rfl) (by first | trivial | simp [go_sem]) (by simp only [go_sem]; exact rfl) (by simp [go_sem]) (by simp only [go_sem]; exact rfl) (by simp only [go_sem]; exact rfl) (by simp only [go_sem]; exact rfl) ?_
            refine seg_store tabOK rfl rfl (by simp only [go_sem]; try exact rfl) (by simp only [go_sem]; try exact rfl) (by simp only [go_sem]; try exact rfl) (by first | trivial | simp [go_sem]) (by simp only [go_sem]; exact rfl) (by simp [go_sem]) (by simp only [go_sem]; exact rfl) (by simp only [go_sem]; exact rfl) (by simp only [go_sem]; exact rfl) ?_
            refine seg_end (by kernel_rfl) (by simp only [go_sem]; exact rfl) ?_
            refine draw_close (by kernel_rfl) ?_
            try simp only [go_sem, List.getElem_toArray, List.getElem_cons_succ, List.getElem_cons_zero]
            refine cw_go tabOK 99 (by simp only [go_sem]; try exact rfl) (by simp [go_sem]) ?_
            refine cw_ret ⟨_, _, by simp only [go_sem]; try exact rfl, by simp [go_sem], _, .inr (.inl rfl), ?_, ?_⟩
            · simp [verdictRow, actRow, e1, e2, actJ, hk5]
            · rw [e3]
              simp only [pins, List.cons_append, List.nil_append, List.map_cons, List.map_nil]
              repeat' refine holds_cons ?_ ?_
              all_goals first | exact holds_nil _ | rfl | simp [go_sem]
    | false =>
      refine cw_condF (by simp only [go_sem]; try exact rfl) trivial (rfl) ?_
      refine cw_go tabOK 99 (by simp only [go_sem]; try exact rfl) (by simp [go_sem]) ?_
      have ho : own1 j r = j.own := by unfold own1; rw [h1]; rfl
      have hnf : ¬ (madeB r.act = true ∧ (hasI j.own r.act.fid = true ∨ r.act.fid ≥ 0)) := fun hh => by rw [h1] at hh; cases hh.1
      rw [← ho]
      -- the fids as they are here
      refine cw_draw mixed ?_
      refine seg_start rfl ?_
      refine seg_runN tabOK 3 (by simp only [go_sem]; exact rfl) (by simp only [go_sem]; exact rfl) (by simp only [go_sem]; try exact rfl) (by simp [go_sem]) (by simp only [go_sem]; exact rfl) ?_
      refine seg_callK rfl rfl (by simp only [go_sem]; try exact rfl) (by simp [go_sem]) ⟨_, Go.Proofs.Try.func172, by kernel_rfl, rfl⟩ [29, 25, 26, 27] (by simp only [go_sem, Bool.false_or, Bool.or_true, Bool.true_or, Bool.or_false, ↓reduceIte]; try exact rfl) (by simp [go_sem]) (by simp) (by simp [go_sem]) (by simp [go_sem]) (hfid r.act.fid) (by simp only [go_sem]; exact rfl) (by simp only [go_sem, Bool.false_or, Bool.or_true, Bool.true_or, Bool.or_false, ↓reduceIte]; exact rfl) ?_
      refine seg_runN tabOK 3 (by simp only [go_sem]; exact rfl) (by simp only [go_sem]; exact rfl) (by simp only [go_sem]; try exact rfl) (by simp [go_sem]) (by simp only [go_sem]; exact rfl) ?_
      refine seg_callK rfl rfl (by simp only [go_sem]; try exact rfl) (by simp [go_sem]) ⟨_, Go.Proofs.Try.func172, by kernel_rfl, rfl⟩ [29, 25, 26, 27] (by simp only [go_sem, Bool.false_or, Bool.or_true, Bool.true_or, Bool.or_false, ↓reduceIte]; try exact rfl) (by simp [go_sem]) (by simp) (by simp [go_sem]) (by simp [go_sem]) (hfid r.act.dir) (by simp only [go_sem]; exact rfl) (by simp only [go_sem, Bool.false_or, Bool.or_true, Bool.true_or, Bool.or_false, ↓reduceIte]; exact rfl) ?_
      refine seg_runN tabOK 1 (by simp only [go_sem]; exact rfl) (by simp only [go_sem]; exact rfl) (by simp only [go_sem]; try exact rfl) (by simp [go_sem]) (by simp only [go_sem]; exact rfl) ?_
      refine seg_store tabOK rfl rfl (by simp only [go_sem]; try exact rfl) (by simp only [go_sem]; try exact rfl) (by simp only [go_sem]; try exact rfl) (by first | trivial | simp [go_sem]) (by simp only [go_sem]; exact rfl) (by simp [go_sem]) (by simp only [go_sem]; exact rfl) (by simp only [go_sem]; exact rfl) (by simp only [go_sem]; exact rfl) ?_
      refine seg_runN tabOK 1 (by simp only [go_sem]; exact rfl) (by simp only [go_sem]; exact rfl) (by simp only [go_sem]; try exact rfl) (by simp [go_sem]) (by simp only [go_sem]; exact rfl) ?_
      refine seg_store tabOK rfl rfl (by simp only [go_sem]; try exact rfl) (by simp only [go_sem]; try exact rfl) (by simp only [go_sem]; try exact rfl) (by first | trivial | simp [go_sem]) (by simp only [go_sem]; exact rfl) (by simp [go_sem]) (by simp only [go_sem]; exact rfl) (by simp only [go_sem]; exact rfl) (by simp only [go_sem]; exact rfl) ?_
      refine seg_end (by kernel_rfl) (by simp only [go_sem]; exact rfl) ?_
      refine draw_close (by kernel_rfl) ?_
      try simp only [go_sem, List.getElem_toArray, List.getElem_cons_succ, List.getElem_cons_zero]
      refine cw_go tabOK 99 (by simp only [go_sem]; try exact rfl) (by simp [go_sem]) ?_
      by_cases hk5 : r.act.kind = 5
      · have hT : (if r.act.kind = 5 then atF (own1 j r) r.act.to else r.act.to) = atF (own1 j r) r.act.to := if_pos hk5
        rw [hT] at hst hap
        refine cw_condT (by simp only [go_sem]; try exact rfl) trivial (by simp [hk5]) ?_
        refine cw_go tabOK 99 (by simp only [go_sem]; try exact rfl) (by simp [go_sem]) ?_
        refine cw_step rfl (trip_callP rfl (by simp only [go_sem]; try exact rfl) (by simp [go_sem]) ⟨_, Go.Proofs.Try.func172, by kernel_rfl, rfl⟩ [29, 25, 26, 27] (by simp only [go_sem, Bool.false_or, Bool.or_true, Bool.true_or, Bool.or_false, ↓reduceIte]; try exact rfl) (by simp [go_sem]) (by simp) (by simp [go_sem]) (by simp [go_sem]) (by simp [go_sem]) (hfid r.act.to) (by simp only [go_sem, Bool.false_or, Bool.or_true, Bool.true_or, Bool.or_false, ↓reduceIte]; exact rfl)) ?_
        refine cw_go tabOK 99 (by simp only [go_sem]; try exact rfl) (by simp [go_sem]) ?_
        refine cw_step rfl (trip_callP rfl (by simp only [go_sem]; try exact rfl) (by simp [go_sem]) ⟨_, Go.Proofs.Try.func173, by kernel_rfl, rfl⟩ [29, 25, 26, 27, 6] (by simp only [go_sem, Bool.false_or, Bool.or_true, Bool.true_or, Bool.or_false, ↓reduceIte]; try exact rfl) (by simp [go_sem]) (by simp) (by simp [go_sem]) (by simp [go_sem]) (by simp [go_sem]) (hst) (by simp only [go_sem, Bool.false_or, Bool.or_true, Bool.true_or, Bool.or_false, ↓reduceIte]; exact rfl)) ?_
        refine cw_go tabOK 99 (by simp only [go_sem]; try exact rfl) (by simp [go_sem]) ?_
        cases st with
        | true =>
          obtain ⟨e1, e2, e3⟩ := q2 h0 hnf rfl
          refine cw_condT (by simp only [go_sem]; try exact rfl) trivial (rfl) ?_
          refine cw_go tabOK 99 (by simp only [go_sem]; try exact rfl) (by simp [go_sem]) ?_
          refine cw_draw mixed ?_
          refine seg_start rfl ?_
          refine seg_build tabOK rfl (by simp only [go_sem]; try exact rfl) (by simp only [go_sem]; try exact rfl) (by simp [go_sem]) (by simp only [go_sem, cond_true, cond_false]; exact rfl) (by simp only [go_sem]; exact rfl) (by simp only [go_sem]; exact rfl) ?_
          refine seg_runN tabOK 1 (by simp only [go_sem]; exact rfl) (by simp only [go_sem]; exact rfl) (by simp only [go_sem]; try exact rfl) (by simp [go_sem]) (by simp only [go_sem]; exact rfl) ?_
          refine seg_store tabOK rfl rfl (by simp only [go_sem]; try exact rfl) (by simp only [go_sem]; try exact rfl) (by simp only [go_sem]; try exact rfl) (by first | trivial | simp [go_sem]) (by simp only [go_sem]; exact rfl) (by simp [go_sem]) (by simp only [go_sem]; exact rfl) (by simp only [go_sem]; exact rfl) (by simp only [go_sem]; exact rfl) ?_
          refine seg_store tabOK rfl rfl (by simp only [go_sem]; try exact rfl) (by simp only [go_sem]; try exact rfl) (by simp only [go_sem]; try exact rfl) (by first | trivial | simp [go_sem]) (by simp only [go_sem]; exact rfl) (by simp [go_sem]) (by simp only [go_sem]; exact rfl) (by simp only [go_sem]; exact rfl) (by simp only [go_sem]; exact rfl) ?_
          refine seg_end (by kernel_rfl) (by simp only [go_sem]; exact rfl) ?_
          refine draw_close (by kernel_rfl) ?_
          try simp only [go_sem, List.getElem_toArray, List.getElem_cons_succ, List.getElem_cons_zero]
          refine cw_go tabOK 99 (by simp only [go_sem]; try exact rfl) (by simp [go_sem]) ?_
          refine cw_ret ⟨_, _, by simp only [go_sem]; try exact rfl, by simp [go_sem], _, .inr (.inl rfl), ?_, ?_⟩
          · simp [verdictRow, actRow, e1, e2, actJ, hk5]
          · rw [e3]
            simp only [pins, List.cons_append, List.nil_append, List.map_cons, List.map_nil]
            repeat' refine holds_cons ?_ ?_
            all_goals first | exact holds_nil _ | rfl | simp [go_sem]
        | false =>
          refine cw_condF (by simp only [go_sem]; try exact rfl) trivial (rfl) ?_
          refine cw_go tabOK 99 (by simp only [go_sem]; try exact rfl) (by simp [go_sem]) ?_
          by_cases hE : E = 0
          · obtain ⟨e1, e2, e3⟩ := q4 h0 hnf rfl hE
            subst hE
            rw [h1] at e3
            simp only [if_true, Bool.false_eq_true, if_false] at hap e3
            refine cw_draw mixed ?_
            refine seg_start rfl ?_
            refine seg_runN tabOK 9 (by simp only [go_sem]; exact rfl) (by simp only [go_sem]; exact rfl) (by simp only [go_sem]; try exact rfl) (by simp [go_sem]) (by simp only [go_sem]; exact rfl) ?_
            refine seg_call rfl rfl (by simp only [go_sem]; try exact rfl) (by simp [go_sem]) ⟨_, Go.Proofs.Try.func40, by kernel_rfl, rfl⟩ (by simp [go_sem]) (hap) (by simp [go_sem]) (by simp only [go_sem]; exact rfl) (by simp only [go_sem]; exact rfl) ?_
            refine seg_run tabOK (by simp only [go_sem]; try exact rfl) (by simp [go_sem]) (by simp only [go_sem]; exact rfl) ?_
            refine seg_end (by kernel_rfl) (by simp only [go_sem]; exact rfl) ?_
            refine draw_close (by kernel_rfl) ?_
            try simp only [go_sem, List.getElem_toArray, List.getElem_cons_succ, List.getElem_cons_zero]
            refine cw_go tabOK 99 (by simp only [go_sem]; try exact rfl) (by simp [go_sem]) ?_
            refine cw_condF (by simp only [go_sem]; try exact rfl) trivial (by simp) ?_
            refine cw_go tabOK 99 (by simp only [go_sem, hwn, hwv]; try exact rfl) (by simp [go_sem, hwn, hwv]) ?_
            refine cw_condF (by simp only [go_sem]; try exact rfl) trivial (by simp) ?_
            refine cw_go tabOK 99 (by simp only [go_sem, hwn, hwv]; try exact rfl) (by simp [go_sem, hwn, hwv]) ?_
            refine cw_draw mixed ?_
            refine seg_start rfl ?_
            refine seg_runN tabOK 2 (by simp only [go_sem]; exact rfl) (by simp only [go_sem]; exact rfl) (by simp only [go_sem]; try exact rfl) (by simp [go_sem]) (by simp only [go_sem]; exact rfl) ?_
            refine seg_build tabOK rfl (by simp only [go_sem]; try exact rfl) (by simp only [go_sem]; try exact rfl) (by simp [go_sem]) (by simp only [go_sem, cond_true, cond_false]; exact rfl) (by simp only [go_sem]; exact rfl) (by simp only [go_sem]; exact rfl) ?_
            refine seg_runN tabOK 1 (by simp only [go_sem]; exact rfl) (by simp only [go_sem]; exact rfl) (by simp only [go_sem]; try exact rfl) (by simp [go_sem]) (by simp only [go_sem]; exact rfl) ?_
            refine seg_store tabOK rfl rfl (by simp only [go_sem]; try exact rfl) (by simp only [go_sem]; try exact rfl) (by simp only [go_sem]; try exact rfl) (by first | trivial | simp [go_sem]) (by simp only [go_sem]; exact rfl) (by simp [go_sem]) (by simp only [go_sem]; exact rfl) (by simp only [go_sem]; exact rfl) (by simp only [go_sem]; exact rfl) ?_
            refine seg_store tabOK rfl rfl (by simp only [go_sem]; try exact rfl) (by simp only [go_sem]; try exact rfl) (by simp only [go_sem]; try exact rfl) (by first | trivial | simp [go_sem]) (by simp only [go_sem]; exact rfl) (by simp [go_sem]) (by simp only [go_sem]; exact rfl) (by simp only [go_sem]; exact rfl) (by simp only [go_sem]; exact rfl) ?_
            refine seg_end (by kernel_rfl) (by simp only [go_sem]; exact rfl) ?_
            refine draw_close (by kernel_rfl) ?_
            try simp only [go_sem, List.getElem_toArray, List.getElem_cons_succ, List.getElem_cons_zero]
            refine cw_go tabOK 99 (by simp only [go_sem]; try exact rfl) (by simp [go_sem]) ?_
            refine cw_ret ⟨_, _, by simp only [go_sem]; try exact rfl, by simp [go_sem], _, .inr (.inl rfl), ?_, ?_⟩
            · simp [verdictRow, actRow, e1, e2, actJ, hk5]
            · rw [e3]
              simp only [pins, List.cons_append, List.nil_append, List.map_cons, List.map_nil]
              repeat' refine holds_cons ?_ ?_
              all_goals first | exact holds_nil _ | rfl | simp [go_sem]
          · obtain ⟨e1, e2, e3⟩ := q3 h0 hnf rfl hE
            rw [h1] at e3
            simp only [hE, if_true, Bool.false_eq_true, if_false] at hap e3
            refine cw_draw mixed ?_
            refine seg_start rfl ?_
            refine seg_runN tabOK 9 (by simp only [go_sem]; exact rfl) (by simp only [go_sem]; exact rfl) (by simp only [go_sem]; try exact rfl) (by simp [go_sem]) (by simp only [go_sem]; exact rfl) ?_
            refine seg_call rfl rfl (by simp only [go_sem]; try exact rfl) (by simp [go_sem]) ⟨_, Go.Proofs.Try.func40, by kernel_rfl, rfl⟩ (by simp [go_sem]) (hap) (by simp [go_sem]) (by simp only [go_sem]; exact rfl) (by simp only [go_sem]; exact rfl) ?_
            refine seg_run tabOK (by simp only [go_sem]; try exact rfl) (by simp [go_sem]) (by simp only [go_sem]; exact rfl) ?_
            refine seg_end (by kernel_rfl) (by simp only [go_sem]; exact rfl) ?_
            refine draw_close (by kernel_rfl) ?_
            try simp only [go_sem, List.getElem_toArray, List.getElem_cons_succ, List.getElem_cons_zero]
            refine cw_go tabOK 99 (by simp only [go_sem]; try exact rfl) (by simp [go_sem]) ?_
            refine cw_condT (by simp only [go_sem]; try exact rfl) trivial (by simp [hE]) ?_
            refine cw_go tabOK 99 (by simp only [go_sem]; try exact rfl) (by simp [go_sem]) ?_
            refine cw_condF (by simp only [go_sem]; try exact rfl) trivial (by simp) ?_
            refine cw_go tabOK 99 (by simp only [go_sem]; try exact rfl) (by simp [go_sem]) ?_
            refine cw_draw mixed ?_
            refine seg_start rfl ?_
            refine seg_runN tabOK 1 (by simp only [go_sem]; exact rfl) (by simp only [go_sem]; exact rfl) (by simp only [go_sem]; try exact rfl) (by simp [go_sem]) (by simp only [go_sem]; exact rfl) ?_
            refine seg_build tabOK rfl (by simp only [go_sem]; try exact rfl) (by simp only [go_sem]; try exact rfl) (by simp [go_sem]) (by simp only [go_sem, cond_true, cond_false]; exact rfl) (by simp only [go_sem]; exact rfl) (by simp only [go_sem]; exact rfl) ?_
            refine seg_runN tabOK 1 (by simp only [go_sem]; exact rfl) (by simp only [go_sem]; exact rfl) (by simp only [go_sem]; try exact rfl) (by simp [go_sem]) (by simp only [go_sem]; exact rfl) ?_
            refine seg_store tabOK rfl rfl (by simp only [go_sem]; try exact rfl) (by simp only [go_sem]; try exact rfl) (by simp only [go_sem]; try exact rfl) (by first | trivial | simp [go_sem]) (by simp only [go_sem]; exact rfl) (by simp [go_sem]) (by simp only [go_sem]; exact rfl) (by simp only [go_sem]; exact rfl) (by simp only [go_sem]; exact rfl) ?_
            refine seg_store tabOK rfl rfl (by simp only [go_sem]; try exact rfl) (by simp only [go_sem]; try exact rfl) (by simp only [go_sem]; try exact rfl) (by first | trivial | simp [go_sem]) (by simp only [go_sem]; exact rfl) (by simp [go_sem]) (by simp only [go_sem]; exact rfl) (by simp only [go_sem]; exact rfl) (by simp only [go_sem]; exact rfl) ?_
            refine seg_end (by kernel_rfl) (by simp only [go_sem]; exact rfl) ?_
            refine draw_close (by kernel_rfl) ?_
            try simp only [go_sem, List.getElem_toArray, List.getElem_cons_succ, List.getElem_cons_zero]
            refine cw_go tabOK 99 (by simp only [go_sem]; try exact rfl) (by simp [go_sem]) ?_
            refine cw_ret ⟨_, _, by simp only [go_sem]; try exact rfl, by simp [go_sem], _, .inr (.inl rfl), ?_, ?_⟩
            · simp [verdictRow, actRow, e1, e2, actJ, hk5]
            · rw [e3]
              simp only [pins, List.cons_append, List.nil_append, List.map_cons, List.map_nil]
              repeat' refine holds_cons ?_ ?_
              all_goals first | exact holds_nil _ | rfl | simp [go_sem]
      · have hT : (if r.act.kind = 5 then atF (own1 j r) r.act.to else r.act.to) = r.act.to := if_neg hk5
        rw [hT] at hst hap
        refine cw_condF (by simp only [go_sem]; try exact rfl) trivial (by simp [hk5]) ?_
        refine cw_go tabOK 99 (by simp only [go_sem]; try exact rfl) (by simp [go_sem]) ?_
        refine cw_step rfl (trip_callP rfl (by simp only [go_sem]; try exact rfl) (by simp [go_sem]) ⟨_, Go.Proofs.Try.func173, by kernel_rfl, rfl⟩ [29, 25, 26, 27, 6] (by simp only [go_sem, Bool.false_or, Bool.or_true, Bool.true_or, Bool.or_false, ↓reduceIte]; try exact rfl) (by simp [go_sem]) (by simp) (by simp [go_sem]) (by simp [go_sem]) (by simp [go_sem]) (hst) (by simp only [go_sem, Bool.false_or, Bool.or_true, Bool.true_or, Bool.or_false, ↓reduceIte]; exact rfl)) ?_
        refine cw_go tabOK 99 (by simp only [go_sem]; try exact rfl) (by simp [go_sem]) ?_
        cases st with
        | true =>
          obtain ⟨e1, e2, e3⟩ := q2 h0 hnf rfl
          refine cw_condT (by simp only [go_sem]; try exact rfl) trivial (rfl) ?_
          refine cw_go tabOK 99 (by simp only [go_sem]; try exact rfl) (by simp [go_sem]) ?_
          refine cw_draw mixed ?_
          refine seg_start rfl ?_
          refine seg_build tabOK rfl (by simp only [go_sem]; try exact rfl) (by simp only [go_sem]; try exact rfl) (by simp [go_sem]) (by simp only [go_sem, cond_true, cond_false]; exact rfl) (by simp only [go_sem]; exact rfl) (by simp only [go_sem]; exact rfl) ?_
          refine seg_runN tabOK 1 (by simp only [go_sem]; exact rfl) (by simp only [go_sem]; exact rfl) (by simp only [go_sem]; try exact rfl) (by simp [go_sem]) (by simp only [go_sem]; exact rfl) ?_
          refine seg_store tabOK rfl rfl (by simp only [go_sem]; try exact rfl) (by simp only [go_sem]; try exact rfl) (by simp only [go_sem]; try exact rfl) (by first | trivial | simp [go_sem]) (by simp only [go_sem]; exact rfl) (by simp [go_sem]) (by simp only [go_sem]; exact rfl) (by simp only [go_sem]; exact rfl) (by simp only [go_sem]; exact rfl) ?_
          refine seg_store tabOK rfl rfl (by simp only [go_sem]; try exact rfl) (by simp only [go_sem]; try exact rfl) (by simp only [go_sem]; try exact rfl) (by first | trivial | simp [go_sem]) (by simp only [go_sem]; exact rfl) (by simp [go_sem]) (by simp only [go_sem]; exact rfl) (by simp only [go_sem]; exact rfl) (by simp only [go_sem]; exact rfl) ?_
          refine seg_end (by kernel_rfl) (by simp only [go_sem]; exact rfl) ?_
          refine draw_close (by kernel_rfl) ?_
          try simp only [go_sem, List.getElem_toArray, List.getElem_cons_succ, List.getElem_cons_zero]
          refine cw_go tabOK 99 (by simp only [go_sem]; try exact rfl) (by simp [go_sem]) ?_
          refine cw_ret ⟨_, _, by simp only [go_sem]; try exact rfl, by simp [go_sem], _, .inr (.inl rfl), ?_, ?_⟩
          · simp [verdictRow, actRow, e1, e2, actJ, hk5]
          · rw [e3]
            simp only [pins, List.cons_append, List.nil_append, List.map_cons, List.map_nil]
            repeat' refine holds_cons ?_ ?_
            all_goals first | exact holds_nil _ | rfl | simp [go_sem]
        | false =>
          refine cw_condF (by simp only [go_sem]; try exact rfl) trivial (rfl) ?_
          refine cw_go tabOK 99 (by simp only [go_sem]; try exact rfl) (by simp [go_sem]) ?_
          by_cases hE : E = 0
          · obtain ⟨e1, e2, e3⟩ := q4 h0 hnf rfl hE
            subst hE
            rw [h1] at e3
            simp only [if_true, Bool.false_eq_true, if_false] at hap e3
            refine cw_draw mixed ?_
            refine seg_start rfl ?_
            refine seg_runN tabOK 9 (by simp only [go_sem]; exact rfl) (by simp only [go_sem]; exact rfl) (by simp only [go_sem]; try exact rfl) (by simp [go_sem]) (by simp only [go_sem]; exact rfl) ?_
            refine seg_call rfl rfl (by simp only [go_sem]; try exact rfl) (by simp [go_sem]) ⟨_, Go.Proofs.Try.func40, by kernel_rfl, rfl⟩ (by simp [go_sem]) (hap) (by simp [go_sem]) (by simp only [go_sem]; exact rfl) (by simp only [go_sem]; exact rfl) ?_
            refine seg_run tabOK (by simp only [go_sem]; try exact rfl) (by simp [go_sem]) (by simp only [go_sem]; exact rfl) ?_
            refine seg_end (by kernel_rfl) (by simp only [go_sem]; exact rfl) ?_
            refine draw_close (by kernel_rfl) ?_
            try simp only [go_sem, List.getElem_toArray, List.getElem_cons_succ, List.getElem_cons_zero]
            refine cw_go tabOK 99 (by simp only [go_sem]; try exact rfl) (by simp [go_sem]) ?_
            refine cw_condF (by simp only [go_sem]; try exact rfl) trivial (by simp) ?_
            refine cw_go tabOK 99 (by simp only [go_sem, hwn, hwv]; try exact rfl) (by simp [go_sem, hwn, hwv]) ?_
            refine cw_condF (by simp only [go_sem]; try exact rfl) trivial (by simp) ?_
            refine cw_go tabOK 99 (by simp only [go_sem, hwn, hwv]; try exact rfl) (by simp [go_sem, hwn, hwv]) ?_
            refine cw_draw mixed ?_
            refine seg_start rfl ?_
            refine seg_runN tabOK 2 (by simp only [go_sem]; exact rfl) (by simp only [go_sem]; exact rfl) (by simp only [go_sem]; try exact rfl) (by simp [go_sem]) (by simp only [go_sem]; exact rfl) ?_
            refine seg_build tabOK rfl (by simp only [go_sem]; try exact rfl) (by simp only [go_sem]; try exact rfl) (by simp [go_sem]) (by simp only [go_sem, cond_true, cond_false]; exact rfl) (by simp only [go_sem]; exact rfl) (by simp only [go_sem]; exact rfl) ?_
            refine seg_runN tabOK 1 (by simp only [go_sem]; exact rfl) (by simp only [go_sem]; exact rfl) (by simp only [go_sem]; try exact rfl) (by simp [go_sem]) (by simp only [go_sem]; exact rfl) ?_
            refine seg_store tabOK rfl rfl (by simp only [go_sem]; try exact rfl) (by simp only [go_sem]; try exact rfl) (by simp only [go_sem]; try exact rfl) (by first | trivial | simp [go_sem]) (by simp only [go_sem]; exact rfl) (by simp [go_sem]) (by simp only [go_sem]; exact rfl) (by simp only [go_sem]; exact rfl) (by simp only [go_sem]; exact rfl) ?_
            refine seg_store tabOK rfl rfl (by simp only [go_sem]; try exact rfl) (by simp only [go_sem]; try exact rfl) (by simp only [go_sem]; try exact rfl) (by first | trivial | simp [go_sem]) (by simp only [go_sem]; exact rfl) (by simp [go_sem]) (by simp only [go_sem]; exact rfl) (by simp only [go_sem]; exact rfl) (by simp only [go_sem]; exact rfl) ?_
            refine seg_end (by kernel_rfl) (by simp only [go_sem]; exact rfl) ?_
            refine draw_close (by kernel_rfl) ?_
            try simp only [go_sem, List.getElem_toArray, List.getElem_cons_succ, List.getElem_cons_zero]
            refine cw_go tabOK 99 (by simp only [go_sem]; try exact rfl) (by simp [go_sem]) ?_
            refine cw_ret ⟨_, _, by simp only [go_sem]; try exact rfl, by simp [go_sem], _, .inr (.inl rfl), ?_, ?_⟩
            · simp [verdictRow, actRow, e1, e2, actJ, hk5]
            · rw [e3]
              simp only [pins, List.cons_append, List.nil_append, List.map_cons, List.map_nil]
              repeat' refine holds_cons ?_ ?_
              all_goals first | exact holds_nil _ | rfl | simp [go_sem]
          · obtain ⟨e1, e2, e3⟩ := q3 h0 hnf rfl hE
            rw [h1] at e3
            simp only [hE, if_true, Bool.false_eq_true, if_false] at hap e3
            refine cw_draw mixed ?_
            refine seg_start rfl ?_
            refine seg_runN tabOK 9 (by simp only [go_sem]; exact rfl) (by simp only [go_sem]; exact rfl) (by simp only [go_sem]; try exact rfl) (by simp [go_sem]) (by simp only [go_sem]; exact rfl) ?_
            refine seg_call rfl rfl (by simp only [go_sem]; try exact rfl) (by simp [go_sem]) ⟨_, Go.Proofs.Try.func40, by kernel_rfl, rfl⟩ (by simp [go_sem]) (hap) (by simp [go_sem]) (by simp only [go_sem]; exact rfl) (by simp only [go_sem]; exact rfl) ?_
            refine seg_run tabOK (by simp only [go_sem]; try exact rfl) (by simp [go_sem]) (by simp only [go_sem]; exact rfl) ?_
            refine seg_end (by kernel_rfl) (by simp only [go_sem]; exact rfl) ?_
            refine draw_close (by kernel_rfl) ?_
            try simp only [go_sem, List.getElem_toArray, List.getElem_cons_succ, List.getElem_cons_zero]
            refine cw_go tabOK 99 (by simp only [go_sem]; try exact rfl) (by simp [go_sem]) ?_
            refine cw_condT (by simp only [go_sem]; try exact rfl) trivial (by simp [hE]) ?_
            refine cw_go tabOK 99 (by simp only [go_sem]; try exact rfl) (by simp [go_sem]) ?_
            refine cw_condF (by simp only [go_sem]; try exact rfl) trivial (by simp) ?_
            refine cw_go tabOK 99 (by simp only [go_sem]; try exact rfl) (by simp [go_sem]) ?_
            refine cw_draw mixed ?_
            refine seg_start rfl ?_
            refine seg_runN tabOK 1 (by simp only [go_sem]; exact rfl) (by simp only [go_sem]; exact rfl) (by simp only [go_sem]; try exact rfl) (by simp [go_sem]) (by simp only [go_sem]; exact rfl) ?_
            refine seg_build tabOK rfl (by simp only [go_sem]; try exact rfl) (by simp only [go_sem]; try exact rfl) (by simp [go_sem]) (by simp only [go_sem, cond_true, cond_false]; exact rfl) (by simp only [go_sem]; exact rfl) (by simp only [go_sem]; exact rfl) ?_
            refine seg_runN tabOK 1 (by simp only [go_sem]; exact rfl) (by simp only [go_sem]; exact rfl) (by simp only [go_sem]; try exact rfl) (by simp [go_sem]) (by simp only [go_sem]; exact rfl) ?_
            refine seg_store tabOK rfl rfl (by simp only [go_sem]; try exact rfl) (by simp only [go_sem]; try exact rfl) (by simp only [go_sem]; try exact rfl) (by first | trivial | simp [go_sem]) (by simp only [go_sem]; exact rfl) (by simp [go_sem]) (by simp only [go_sem]; exact rfl) (by simp only [go_sem]; exact rfl) (by simp only [go_sem]; exact rfl) ?_
            refine seg_store tabOK rfl rfl (by simp only [go_sem]; try exact rfl) (by simp only [go_sem]; try exact rfl) (by simp only [go_sem]; try exact rfl) (by first | trivial | simp [go_sem]) (by simp only [go_sem]; exact rfl) (by simp [go_sem]) (by simp only [go_sem]; exact rfl) (by simp only [go_sem]; exact rfl) (by simp only [go_sem]; exact rfl) ?_
            refine seg_end (by kernel_rfl) (by simp only [go_sem]; exact rfl) ?_
            refine draw_close (by kernel_rfl) ?_
            try simp only [go_sem, List.getElem_toArray, List.getElem_cons_succ, List.getElem_cons_zero]
            refine cw_go tabOK 99 (by simp only [go_sem]; try exact rfl) (by simp [go_sem]) ?_
            refine cw_ret ⟨_, _, by simp only [go_sem]; try exact rfl, by simp [go_sem], _, .inr (.inl rfl), ?_, ?_⟩
            · simp [verdictRow, actRow, e1, e2, actJ, hk5]
            · rw [e3]
              simp only [pins, List.cons_append, List.nil_append, List.map_cons, List.map_nil]
              repeat' refine holds_cons ?_ ?_
              all_goals first | exact holds_nil _ | rfl | simp [go_sem]
end La

namespace La
open Go Go.Eng Go.Proofs
set_option maxRecDepth 10000
set_option linter.unusedSimpArgs false
set_option linter.unusedVariables false

theorem oursP_snoc (m : List (Int × Bool)) (l : List Int) (x : Int) : oursP m (l ++ [x]) = mput (oursP m l) x true := by
  unfold oursP; rw [List.foldl_append]; rfl
/-- where Judge is, behind so many records -/
noncomputable def jgAt (l : List Node) (next version : Int) (log : List Rec) (i : Nat) : JG := (log.take i).foldl stepJ (startJ l next version)
theorem jgAt_succ (l : List Node) (next version : Int) {log : List Rec} {i : Nat} (h : i < log.length) : jgAt l next version log (i + 1) = stepJ (jgAt l next version log i) (log.getD i default) := by
  unfold jgAt; rw [take_succ_getD h, List.foldl_append]; rfl
theorem jgAt_inv {p : List Past} {l : List Node} (h : Hist p l) (next : Int) {log : List Rec} (hl : ∀ r, r ∈ log → ActFit r.act) {i : Nat} (hi : i ≤ log.length) : JInv p 0 i next (jgAt l next ((p.length + 1 : Nat) : Int) log i) := by
  have := JInv.judge h 0 next (log.take i) (fun r hr => hl r (List.mem_of_mem_take hr))
  rw [List.length_take, Nat.min_eq_left hi] at this
  exact this
def jgB (s : JG) : List (Nat × Blk) := [(45, .cells 154 2 (s.vs.map verdictRow)), (72, .cells 25 7 (s.done.map actRow)), (29, .cells 194 6 [jRow s.j]), (25, .map (mI s.j.own)), (26, .map (mB s.j.ours)), (27, .map (mB s.j.lost))]

set_option maxHeartbeats 4000000 in
theorem judge_ok (p : List Past) (l : List Node) (next : Int) (log : List Rec) (h : Hist p l) (hp : p.length ≤ 80000000) (hn : next.natAbs ≤ 80000000) (hlog : SmallL log) (hl2 : log.length ≤ 2000000) (hfit : ∀ r, r ∈ log → ActFit r.act) :
    FnOK Try.prog 121 [.sl (l.map nodeRow), .int .i64 next, .int .i64 ((p.length + 1 : Nat) : Int), .sl (log.map recRow)] []
      (fun r _ => r = .tup [.sl ((judgeJ l next ((p.length + 1 : Nat) : Int) log).vs.map verdictRow), .sl ((judgeJ l next ((p.length + 1 : Nat) : Int) log).done.map actRow), .sl ((judgeJ l next ((p.length + 1 : Nat) : Int) log).j.l.map nodeRow), .int .i64 (judgeJ l next ((p.length + 1 : Nat) : Int) log).j.next]) := by
  have how := own_ok l h.good.small
  have hlo := logs_own log hlog
  have hfin : judgeJ l next ((p.length + 1 : Nat) : Int) log = jgAt l next ((p.length + 1 : Nat) : Int) log log.length := by unfold jgAt; rw [List.take_length]; rfl
  have hinv := fun i => @jgAt_inv p l h next log hfit i
  have hsucc := fun i => @jgAt_succ l next ((p.length + 1 : Nat) : Int) log i
  have hz : jgAt l next ((p.length + 1 : Nat) : Int) log 0 = startJ l next ((p.length + 1 : Nat) : Int) := rfl
  rw [hfin]
  generalize jgAt l next ((p.length + 1 : Nat) : Int) log = st at *
  refine fn_of_cwW tabOK (Go.Proofs.Try.func121) rfl (fun C => ?_)
  simp only [Go.Proofs.Try.ntmps121, Go.Proofs.Try.results121, go_sem]
  refine cw_go tabOK 99 (by simp only [go_sem]; try exact rfl) (by simp [go_sem]) ?_
  refine cw_call rfl rfl (by simp only [go_sem]; try exact rfl) (by simp [go_sem]) ⟨_, Go.Proofs.Try.func86, by kernel_rfl, rfl⟩ (by simp [go_sem]) (how) (by simp [go_sem]) (by simp only [go_sem]; exact rfl) ?_
  refine cw_go tabOK 99 (by simp only [go_sem]; try exact rfl) (by simp [go_sem]) ?_
  refine cw_call rfl rfl (by simp only [go_sem]; try exact rfl) (by simp [go_sem]) ⟨_, Go.Proofs.Try.func19, by kernel_rfl, rfl⟩ (by simp [go_sem]) (hlo) (by simp [go_sem]) (by simp only [go_sem]; exact rfl) ?_
  refine cw_go tabOK 99 (by simp only [go_sem]; try exact rfl) (by simp [go_sem]) ?_
  refine cw_le (le_empty 72 25 7 (by simp only [go_sem]; try exact rfl)) ?_
  refine cw_le (le_empty 45 154 2 (by simp only [go_sem]; try exact rfl)) ?_
  simp only [go_sem]
  refine cw_loopS (fun i : Nat => i ≤ log.length) (fun i => log.length - i) (fun i => [(13, .osl 45 2 0 (st i).vs.length), (14, .osl 72 7 0 (st i).done.length), (16, .any), (17, .any), (18, .any), (20, .any), (33, .int .i64 i), (34, .any), (35, .any), (36, .any), (37, .any), (38, .any), (39, .any), (40, .any), (41, .any), (42, .any), (43, .any), (44, .any), (45, .any), (46, .any), (47, .any), (48, .any), (49, .any), (50, .any), (51, .any), (52, .any), (53, .any), (54, .any), (55, .any), (56, .any), (57, .any), (58, .any), (59, .any), (60, .any), (61, .any), (62, .any), (63, .any), (64, .any), (65, .any), (66, .any), (67, .any), (68, .any), (69, .any), (70, .any), (71, .any), (72, .any), (73, .any)]) (fun i => jgB (st i)) 0 (by omega) ?_ fun i hi => ?_
  · rw [hz]
    simp only [startJ, jgB, jRow, mI, mB]
    simp only [go_sem]
    exact le_sub (by simp [go_sem]) (by simp [go_sem]) (by simp only [go_sem])
  unfold jgB jRow
  simp only [go_sem]
  refine cw_go tabOK 99 (by simp only [go_sem]; try exact rfl) (by simp [go_sem]) ?_
  refine cw_cond (by simp only [go_sem]; try exact rfl) trivial (fun h => ?_) (fun h => ?_)
  · have hlt : i < log.length := by simp at h; omega
    have hg : (log.map recRow).getD i [] = recRow (log.getD i default) := Fam.getD hlt
    have hv := hinv i (by omega)
    have hf := hfit _ (getD_mem hlt)
    have hsc := hsucc i hlt
    clear hinv hsucc
    generalize log.getD i default = r at *
    have hnx := hv.next
    have hvs := hv.vlen
    have hdl := hv.len
    have hone := one_ok (st i).j r hv.hist.good hf (by omega) (by have := hv.version; omega)
    have hst : st (i + 1) = (if (oneV (st i).j r).err = 0 then ⟨{ oneJ (st i).j r with ours := oursP (oneJ (st i).j r).ours (fids (oneA (st i).j r)) }, (st i).vs ++ [oneV (st i).j r], (st i).done ++ [oneA (st i).j r]⟩ else ⟨lose (oneJ (st i).j r) r.act.fid, (st i).vs ++ [oneV (st i).j r], (st i).done⟩) := by
      rw [hsc]; unfold stepJ oneV; rfl
    unfold jH jB jRow recRow at hone
    clear hsc hv
    generalize oneV (st i).j r = V at *
    generalize oneA (st i).j r = A at *
    generalize oneJ (st i).j r = J at *
    have hfd := fids_ok A
    have hf3 := fids_len A
    have how' : IntKind.i64.wrap ((i : Int) + 1) = ((i + 1 : Nat) : Int) := by rw [Eng.wrap_small (by omega) (by omega)]; rfl
    refine cw_go tabOK 99 (by simp only [go_sem, hg, recRow]; try exact rfl) ?_ ?_
    · simp [hg, recRow, hlt]
    refine cw_freeze 16 rfl (rfl) ?_
    simp only [go_sem]
    refine cw_step rfl (trip_callP rfl (by simp only [go_sem]; try exact rfl) (by simp [go_sem]) ⟨_, Go.Proofs.Try.func156, by kernel_rfl, rfl⟩ [29, 25, 26, 27] (by simp only [go_sem, Bool.false_or, Bool.or_true, Bool.true_or, Bool.or_false, ↓reduceIte]; try exact rfl) (by simp [go_sem]) (by simp) (by simp [go_sem]) (by simp [go_sem]) (by simp [go_sem]) (hone) (by simp only [go_sem, Bool.false_or, Bool.or_true, Bool.true_or, Bool.or_false, ↓reduceIte]; exact rfl)) ?_
    refine cw_go tabOK 99 (by simp only [go_sem, verdictRow, actRow]; try exact rfl) ?_ ?_
    · simp [verdictRow, actRow, rowsOf]; omega
    by_cases hE : V.err = 0
    · rw [if_pos hE] at hst
      refine cw_condF (by simp only [go_sem]; try exact rfl) trivial (by simp [hE]) ?_
      refine cw_go tabOK 99 (by simp only [go_sem]; try exact rfl) (by simp [go_sem]) ?_
      unfold actRow at hfd
      refine cw_call rfl rfl (by simp only [go_sem]; try exact rfl) (by simp [go_sem]) ⟨_, Go.Proofs.Try.func99, by kernel_rfl, rfl⟩ (by simp [go_sem]) (hfd) (by simp [go_sem]) (by simp only [go_sem]; exact rfl) ?_
      refine cw_go tabOK 99 (by simp only [go_sem]; try exact rfl) (by simp [go_sem]) ?_
      refine cw_loopS (fun k : Nat => k ≤ (fids A).length) (fun k => (fids A).length - k) (fun k => [(20, .any), (59, .int .i64 k), (60, .any), (61, .any), (62, .any), (63, .any), (64, .any), (65, .any), (66, .any), (67, .any), (68, .any)]) (fun k => [(26, .map (mB (oursP J.ours ((fids A).take k))))]) 0 (by omega) ?_ fun k hk => ?_
      · simp only [go_sem]
        exact le_sub (by simp [go_sem]) (by simp [go_sem, oursP]) (by simp [go_sem])
      simp only [go_sem]
      refine cw_go tabOK 99 (by simp only [go_sem]; try exact rfl) (by simp [go_sem]) ?_
      refine cw_cond (by simp only [go_sem]; try exact rfl) trivial (fun h => ?_) (fun h => ?_)
      · have hlk : k < (fids A).length := by simp at h; omega
        have hgk : ((fids A).map intRow).getD k [] = intRow ((fids A).getD k default) := Fam.getD hlk
        have htk : oursP J.ours ((fids A).take (k + 1)) = mput (oursP J.ours ((fids A).take k)) ((fids A).getD k default) true := by rw [take_succ_getD hlk, oursP_snoc]
        have hwk : IntKind.i64.wrap ((k : Int) + 1) = ((k + 1 : Nat) : Int) := by rw [Eng.wrap_small (by omega) (by omega)]; rfl
        generalize (fids A).getD k default = f at *
        refine cw_go tabOK 99 (by simp only [go_sem, hgk, intRow, hwk]; try exact rfl) ?_ ?_
        · simp [hgk, intRow, hlk, AV.deepB, AV.pureB]
        refine cw_back ⟨k + 1, by omega, by omega, le_sub ?_ ?_ ?_⟩
        · simp [go_sem]
        · simp [go_sem, htk]
        · simp [go_sem]
      · have e : k = (fids A).length := by simp at h; omega
        subst e
        refine cw_go tabOK 99 (by simp only [go_sem, actRow, how']; try exact rfl) ?_ ?_
        · simp [actRow, rowsOf]; omega
        refine cw_back ⟨i + 1, by omega, by omega, le_sub ?_ ?_ ?_⟩
        · simp [go_sem, hst]
        · simp [go_sem, hst, jgB, jRow, verdictRow, actRow, List.take_length]
        · simp [go_sem, hst]
    · rw [if_neg hE] at hst
      refine cw_condT (by simp only [go_sem]; try exact rfl) trivial (by simp [hE]) ?_
      refine cw_go tabOK 99 (by simp only [go_sem]; try exact rfl) (by simp [go_sem]) ?_
      refine cw_draw mixed ?_
      refine seg_start rfl ?_
      refine seg_runN tabOK 7 (by simp only [go_sem]; exact rfl) (by simp only [go_sem]; exact rfl) (by simp only [go_sem]; try exact rfl) (by simp [go_sem]) (by simp only [go_sem]; exact rfl) ?_
      refine seg_end (by kernel_rfl) (by simp only [go_sem]; exact rfl) ?_
      refine draw_step tabOK rfl (by kernel_rfl) rfl (by simp only [go_sem]; try exact rfl) (by simp [go_sem]) rfl ?_
      refine draw_close (by kernel_rfl) ?_
      try simp only [go_sem, List.getElem_toArray, List.getElem_cons_succ, List.getElem_cons_zero]
      refine cw_go tabOK 99 (by simp only [go_sem, how']; try exact rfl) (by simp [go_sem, how']) ?_
      refine cw_back ⟨i + 1, by omega, by omega, le_sub ?_ ?_ ?_⟩
      · simp [go_sem, hst]
      · simp [go_sem, hst, jgB, jRow, lose, verdictRow]
      · simp [go_sem, hst]
  · have e : i = log.length := by simp at h; omega
    subst e
    refine cw_go tabOK 99 (by simp only [go_sem]; try exact rfl) (by simp [go_sem]) ?_
    refine cw_draw mixed ?_
    refine seg_start rfl ?_
    refine seg_run tabOK (by simp only [go_sem]; try exact rfl) (by simp [go_sem]) (by simp only [go_sem]; exact rfl) ?_
    refine seg_end (by kernel_rfl) (by simp only [go_sem]; exact rfl) ?_
    refine draw_close (by kernel_rfl) ?_
    try simp only [go_sem, List.getElem_toArray, List.getElem_cons_succ, List.getElem_cons_zero]
    refine cw_go tabOK 99 (by simp only [go_sem]; try exact rfl) (by simp [go_sem]) ?_
    refine cw_freeze 45 rfl (verdictRow_pure _) ?_
    simp only [go_sem]
    refine cw_freeze 72 rfl (actRow_pure _) ?_
    simp only [go_sem]
    refine cw_ret ⟨_, _, (by simp only [go_sem]; try exact rfl), by simp [go_sem], _, .inr (.inl rfl), ?_⟩
    simp
end La

namespace La
open Go Go.Eng Go.Proofs
set_option maxRecDepth 10000
set_option linter.unusedSimpArgs false
set_option linter.unusedVariables false

def pastTo (s : Srv) (c : Int) (done : List Act) (i : Nat) : List Past := s.past ++ (done.take i).map fun a => ⟨c, a⟩
theorem pastTo_succ (s : Srv) (c : Int) {done : List Act} {i : Nat} (h : i < done.length) : pastTo s c done (i + 1) = pastTo s c done i ++ [⟨c, done.getD i default⟩] := by
  unfold pastTo; rw [take_succ_getD h, List.map_append, List.append_assoc]; rfl
theorem pastTo_len (s : Srv) (c : Int) (done : List Act) {i : Nat} (h : i ≤ done.length) : (pastTo s c done i).length = s.past.length + i := by
  unfold pastTo; simp; omega

set_option maxHeartbeats 2000000 in
theorem take_ok (s : Srv) (h : SrvOK 40000000 s) (c : Int) (log : List Rec) (hlog : SmallL log) (hl2 : log.length ≤ 2000000) (hfit : ∀ r, r ∈ log → ActFit r.act) :
    FnOK Try.prog 64 [.agg (srvRow s), .int .i64 c, .sl (log.map recRow)] []
      (fun r _ => r = .tup [.agg (srvRow (takeS s c log)), .sl ((judgeJ s.tree s.next ((s.past.length + 1 : Nat) : Int) log).vs.map verdictRow)]) := by
  have hn := h.next
  have hlen := h.len
  have hsp : SmallP s.past := ⟨by omega, fun p hp => by
    obtain ⟨st, _, _, h3⟩ := h.hist.st
    obtain ⟨i, hi⟩ := List.getElem?_of_mem hp
    have hil := (List.getElem?_eq_some_iff.1 hi).1
    have := (h3 i hil).2.1.data
    rwa [show s.past.getD i default = p by rw [List.getD_eq_getElem?_getD, hi]; rfl] at this⟩
  have hv := version_ok s (by omega)
  have hso := sown_okH s h.hist.good.small hsp
  have hj := judge_ok s.past s.tree s.next log h.hist (by omega) (by omega) hlog hl2 hfit
  have hinv := (JInv.judge h.hist c s.next log hfit).len
  have hT : takeS s c log = ⟨(judgeJ s.tree s.next ((s.past.length + 1 : Nat) : Int) log).j.l, (judgeJ s.tree s.next ((s.past.length + 1 : Nat) : Int) log).j.next, pastTo s c (judgeJ s.tree s.next ((s.past.length + 1 : Nat) : Int) log).done (judgeJ s.tree s.next ((s.past.length + 1 : Nat) : Int) log).done.length⟩ := by
    unfold takeS pastTo; rw [List.take_length]
  rw [hT]
  clear hT
  unfold srvRow at hv hso ⊢
  generalize judgeJ s.tree s.next ((s.past.length + 1 : Nat) : Int) log = g at *
  have hsu := fun i => @pastTo_succ s c g.done i
  have hle := fun i => @pastTo_len s c g.done i
  have hz : pastTo s c g.done 0 = s.past := by simp [pastTo]
  generalize pastTo s c g.done = P at *
  refine fn_of_cwW tabOK (Go.Proofs.Try.func64) rfl (fun C => ?_)
  simp only [Go.Proofs.Try.ntmps64, Go.Proofs.Try.results64, go_sem]
  refine cw_go tabOK 99 (by simp only [go_sem]; try exact rfl) (by simp [go_sem]) ?_
  refine cw_freeze 3 rfl (rfl) ?_
  simp only [go_sem]
  refine cw_draw mixed ?_
  refine seg_start rfl ?_
  refine seg_runN tabOK 5 (by simp only [go_sem]; exact rfl) (by simp only [go_sem]; exact rfl) (by simp only [go_sem]; try exact rfl) (by simp [go_sem]) (by simp only [go_sem]; exact rfl) ?_
  refine seg_call rfl rfl (by simp only [go_sem]; try exact rfl) (by simp [go_sem]) ⟨_, Go.Proofs.Try.func119, by kernel_rfl, rfl⟩ (by simp [go_sem]) (hv) (by simp [go_sem]) (by simp only [go_sem]; exact rfl) (by simp only [go_sem]; exact rfl) ?_
  refine seg_runN tabOK 1 (by simp only [go_sem]; exact rfl) (by simp only [go_sem]; exact rfl) (by simp only [go_sem]; try exact rfl) (by simp [go_sem]) (by simp only [go_sem]; exact rfl) ?_
  refine seg_call rfl rfl (by simp only [go_sem]; try exact rfl) (by simp [go_sem]) ⟨_, Go.Proofs.Try.func121, by kernel_rfl, rfl⟩ (by simp [go_sem]) (hj) (by simp [go_sem]) (by simp only [go_sem]; exact rfl) (by simp only [go_sem]; exact rfl) ?_
  refine seg_run tabOK (by simp only [go_sem]; try exact rfl) (by simp [go_sem]) (by simp only [go_sem]; exact rfl) ?_
  refine seg_end (by kernel_rfl) (by simp only [go_sem]; exact rfl) ?_
  refine draw_close (by kernel_rfl) ?_
  try simp only [go_sem, List.getElem_toArray, List.getElem_cons_succ, List.getElem_cons_zero]
  refine cw_go tabOK 99 (by simp only [go_sem]; try exact rfl) (by simp [go_sem]) ?_
  refine cw_callG [] 18 rfl rfl (by simp only [go_sem]; try exact rfl) (by simp [go_sem]) ⟨_, Go.Proofs.Try.func120, by kernel_rfl, rfl⟩ (by simp only [go_sem, Bool.false_or, Bool.or_true, Bool.true_or, if_true]; try exact rfl) (hso) (by simp [go_sem]) (by simp [go_sem]) (by simp [go_sem]) (by simp only [go_sem]) (by simp [go_sem]) (by simp only [go_sem, Bool.false_or, Bool.or_true, Bool.true_or, Bool.or_false, ↓reduceIte]; exact rfl) ?_
  refine cw_go tabOK 99 (by simp only [go_sem]; try exact rfl) (by simp [go_sem]) ?_
  refine cw_loopS (fun i : Nat => i ≤ g.done.length) (fun i => g.done.length - i) (fun i => [(14, .any), (29, .any), (36, .int .i64 i), (37, .any), (38, .any), (39, .any), (40, .any), (41, .any), (42, .any), (43, .any), (44, .any), (45, .any), (46, .any), (47, .any), (48, .any)])
    (fun i => [(12, .cells 97 3 [[.sl (g.j.l.map nodeRow), .int .i64 g.j.next, .osl 46 8 0 (P i).length]]), (46, .cells 158 8 ((P i).map pastRow))]) 0 (by omega) ?_ fun i hi => ?_
  · rw [hz]
    simp only [go_sem]
    exact le_sub (by simp [go_sem]) (by simp [go_sem]) (by simp [go_sem])
  simp only [go_sem]
  refine cw_go tabOK 99 (by simp only [go_sem]; try exact rfl) (by simp [go_sem]) ?_
  refine cw_cond (by simp only [go_sem]; try exact rfl) trivial (fun h => ?_) (fun h => ?_)
  · have hlt : i < g.done.length := by simp at h; omega
    have hg : (g.done.map actRow).getD i [] = actRow (g.done.getD i default) := Fam.getD hlt
    have hs1 := hsu i hlt
    have hl1 := hle i (by omega)
    have how' : IntKind.i64.wrap ((i : Int) + 1) = ((i + 1 : Nat) : Int) := by rw [Eng.wrap_small (by omega) (by omega)]; rfl
    generalize g.done.getD i default = a at *
    generalize P i = Q at *
    refine cw_goR 99 (by simp only [go_sem]; try exact rfl) ?_
    refine cw_runN tabOK 4 (by simp only [go_sem]; exact rfl) (by simp only [go_sem]; exact rfl) (by simp only [go_sem, hg, actRow]; try exact rfl) ?_ ?_
    · simp [hg, actRow, hlt]
    refine cw_goR 99 (by simp only [go_sem]; try exact rfl) ?_
    refine cw_runN tabOK 6 (by simp only [go_sem]; exact rfl) (by simp only [go_sem]; exact rfl) (by simp only [go_sem]; try exact rfl) (by simp [go_sem]) ?_
    refine cw_le (le_killB 46 12 (by simp only [go_sem]; exact rfl) (by simp only [go_sem, kill]; exact rfl)) ?_
    refine cw_go tabOK 99 (by simp only [go_sem, how']; try exact rfl) ?_ ?_
    · simp [rowsOf, pastRow]; omega
    refine cw_back ⟨i + 1, by omega, by omega, le_sub ?_ ?_ ?_⟩
    · simp [go_sem]
    · simp [go_sem, hs1, pastRow, List.take_length]
    · simp [go_sem]
  · have e : i = g.done.length := by simp at h; omega
    subst e
    refine cw_go tabOK 99 (by simp only [go_sem]; try exact rfl) (by simp [go_sem]) ?_
    refine cw_freeze 46 rfl (pastRow_pure _) ?_
    simp only [go_sem]
    refine cw_ret ⟨_, _, (by simp only [go_sem]; try exact rfl), by simp [go_sem], _, .inr (.inl rfl), ?_⟩
    simp
end La

namespace La
open Go Go.Eng Go.Proofs
set_option maxRecDepth 10000
set_option linter.unusedSimpArgs false
set_option linter.unusedVariables false

set_option maxHeartbeats 1000000 in
theorem all_good (l : List Node) (al : List Act) (v : Int) (st : Nat → List Node) (hl : Small l) (hlen : al.length ≤ 100000000) (h0 : st 0 = l)
    (hs : ∀ i, i < al.length → FitA (st i) (al.getD i default) ∧ (al.getD i default).kind ≠ 5 ∧ applyE (st i) (al.getD i default) = 0 ∧ st (i + 1) = applyL (st i) (al.getD i default) v) :
    FnOK Try.prog 98 [.sl (l.map nodeRow), .sl (al.map actRow), .int .i64 v] [] (fun r _ => r = .tup [.sl ((st al.length).map nodeRow), .int .i64 al.length, .int .i64 0]) := by
  refine fn_of_cwW tabOK (Go.Proofs.Try.func98) rfl (fun C => ?_)
  simp only [Go.Proofs.Try.ntmps98, Go.Proofs.Try.results98, go_sem]
  refine cw_go tabOK 99 (by simp only [go_sem]; try exact rfl) (by simp [go_sem]) ?_
  refine cw_call rfl rfl (by simp only [go_sem]; try exact rfl) (by simp [go_sem]) ⟨_, Go.Proofs.Try.func86, by kernel_rfl, rfl⟩ (by simp [go_sem]) (own_ok l hl) (by simp [go_sem]) (by simp only [go_sem]; exact rfl) ?_
  refine cw_go tabOK 99 (by simp only [go_sem]; try exact rfl) (by simp [go_sem]) ?_
  rw [← h0]
  refine cw_loopS (fun i : Nat => i ≤ al.length) (fun i => al.length - i) (fun i => [(9, .sl ((st i).map nodeRow)), (10, .any), (11, .any), (12, .any), (13, .any), (18, .int .i64 i), (19, .any), (20, .any), (21, .any), (22, .any), (23, .any), (24, .any), (25, .any), (26, .any), (27, .any), (28, .any), (29, .any), (30, .any), (31, .any), (32, .any), (33, .any), (34, .any), (35, .any)]) (fun _ => []) 0 (by omega) ?_ fun i hi => ?_
  · simp only [go_sem]
    exact le_sub (by simp [go_sem]) (by simp [go_sem]) (by simp [go_sem])
  simp only [go_sem]
  refine cw_go tabOK 99 (by simp only [go_sem]; try exact rfl) (by simp [go_sem]) ?_
  refine cw_cond (by simp only [go_sem]; try exact rfl) trivial (fun h => ?_) (fun h => ?_)
  · have hlt : i < al.length := by simp at h; omega
    have hg : (al.map actRow).getD i [] = actRow (al.getD i default) := Fam.getD hlt
    have hw : IntKind.i64.wrap ((i : Int) + 1) = ((i + 1 : Nat) : Int) := by rw [Eng.wrap_small (by omega) (by omega)]; rfl
    obtain ⟨h1, h2, h3, h4⟩ := hs i hlt
    have hap := apply_ok (st i) (al.getD i default) v h1 (fun h => absurd h h2)
    unfold applyR at hap
    rw [if_pos h3, ← h4] at hap
    generalize al.getD i default = a at hg hap
    refine cw_go tabOK 99 (by simp only [go_sem, hg, actRow]; try exact rfl) ?_ ?_
    · simp [hg, hlt, actRow]
    refine cw_call rfl rfl (by simp only [go_sem]; try exact rfl) (by simp [go_sem]) ⟨_, Go.Proofs.Try.func40, by kernel_rfl, rfl⟩ (by simp [go_sem]) (hap) (by simp [go_sem]) (by simp only [go_sem]; exact rfl) ?_
    refine cw_go tabOK 99 (by simp only [go_sem]; try exact rfl) (by simp [go_sem]) ?_
    refine cw_cond (by simp only [go_sem]; try exact rfl) trivial (fun h => ?_) (fun h => ?_)
    · cases h
    refine cw_go tabOK 99 (by simp only [go_sem, hw]; try exact rfl) (by simp [go_sem, hw]) ?_
    refine cw_back ⟨i + 1, by omega, by omega, le_sub ?_ ?_ ?_⟩
    · simp [go_sem]
    · simp [go_sem]
    · simp [go_sem]
  · have e : i = al.length := by simp at h; omega
    subst e
    refine cw_go tabOK 99 (by simp only [go_sem]; try exact rfl) (by simp [go_sem]) ?_
    refine cw_ret ⟨_, _, (by simp only [go_sem]; try exact rfl), by simp [go_sem], _, .inr (.inl rfl), ?_⟩
    rfl

def a3M : Act := ⟨1, 1, 0, [97], 0, [], []⟩
def a3S : Act := ⟨3, 1, 0, [], 0, [], [113]⟩
theorem a3fit (l : List Node) (a : Act) (h : l.length ≤ 1000) (h2 : ∀ n, n ∈ l → n.data.length ≤ 1000 ∧ n.entries.length ≤ 1000) (h3 : a.name.length ≤ 1000) (h4 : a.toName.length ≤ 1000) (h5 : a.data.length ≤ 1000) : FitA l a :=
  ⟨smallC_of l h h2, by omega, fun n hn => by have := (h2 n hn).2; omega, by omega, by omega, by omega⟩
theorem a3p1 : FnOK Try.prog 40 [.sl ([rootN].map nodeRow), .agg (actRow a3M), .int .i64 4] [] (fun r _ => r = .tup [.sl ([⟨0, true, [], [⟨[97], 1⟩], 4⟩, ⟨1, false, [], [], 4⟩].map nodeRow), .int .i64 0]) :=
  apply_ok [rootN] a3M 4 (a3fit _ _ (by decide) (by decide) (by decide) (by decide) (by decide)) (fun h => absurd h (by decide))
def a3st : Nat → List Node
  | 0 => [rootN]
  | 1 => [⟨0, true, [], [⟨[97], 1⟩], 1⟩, ⟨1, false, [], [], 1⟩]
  | _ => [⟨0, true, [], [⟨[97], 1⟩], 1⟩, ⟨1, false, [113], [], 1⟩]
theorem a3p2 : FnOK Try.prog 98 [.sl ([rootN].map nodeRow), .sl ([a3M, a3S].map actRow), .int .i64 1] [] (fun r _ => r = .tup [.sl ([⟨0, true, [], [⟨[97], 1⟩], 1⟩, ⟨1, false, [113], [], 1⟩].map nodeRow), .int .i64 2, .int .i64 0]) :=
  all_good [rootN] [a3M, a3S] 1 a3st a2s0 (by decide) rfl (fun i hi => by
    have : i = 0 ∨ i = 1 := by simp at hi; omega
    rcases this with rfl | rfl
    · exact ⟨a3fit _ _ (by decide) (by decide) (by decide) (by decide) (by decide), by decide, by decide, by decide⟩
    · exact ⟨a3fit _ _ (by decide) (by decide) (by decide) (by decide) (by decide), by decide, by decide, by decide⟩)
theorem a3p3 : FnOK Try.prog 99 [.agg (actRow ⟨5, 0, 0, [], 0, [], []⟩)] [] (fun r _ => r = .sl ([0, 0, 0].map intRow)) := fids_ok ⟨5, 0, 0, [], 0, [], []⟩
theorem a3p4 : FnOK Try.prog 72 [.agg (actRow ⟨0, 0, 0, [], 0, [], [120]⟩)] [] (fun r _ => r = .agg (actRow ⟨0, 0, 0, [], 0, [], [120]⟩)) := acts_own ⟨0, 0, 0, [], 0, [], [120]⟩ (by unfold Act.Small; decide)

set_option maxHeartbeats 2000000 in
theorem alive3 : FnOK Try.prog 39 [] [] (fun r _ => r = .bool true) := by
  refine fn_of_cwW tabOK (Go.Proofs.Try.func39) rfl (fun C => ?_)
  simp only [Go.Proofs.Try.ntmps39, Go.Proofs.Try.results39, go_sem]
  refine cw_go tabOK 99 (by simp only [go_sem]; try exact rfl) (by simp [go_sem]) ?_
  refine cw_freeze 8 rfl (rfl) ?_
  simp only [go_sem]
  refine cw_call rfl rfl (by simp only [go_sem]; try exact rfl) (by simp [go_sem]) ⟨_, Go.Proofs.Try.func40, by kernel_rfl, rfl⟩ (by simp [go_sem]) (by exact FnOK.nrm rfl (a3p1)) (by simp [go_sem]) (by simp only [go_sem]; exact rfl) ?_
  refine cw_go tabOK 99 (by simp only [go_sem]; try exact rfl) (by simp [go_sem]) ?_
  refine cw_step rfl (trip_bytes tabOK rfl rfl rfl (id := 17) (n := 1) (by simp only [go_sem]; try exact rfl) (by simp only [go_sem]; exact rfl) (by decide) rfl rfl) ?_
  simp only [go_sem]
  refine cw_go tabOK 99 (by simp only [go_sem]; try exact rfl) (by simp [go_sem]) ?_
  refine cw_freeze 15 rfl (rfl) ?_
  refine cw_freeze 20 rfl (rfl) ?_
  simp only [go_sem]
  refine cw_call rfl rfl (by simp only [go_sem]; try exact rfl) (by simp [go_sem]) ⟨_, Go.Proofs.Try.func98, by kernel_rfl, rfl⟩ (by simp [go_sem]) (by exact FnOK.nrm rfl (a3p2)) (by simp [go_sem]) (by simp only [go_sem]; exact rfl) ?_
  refine cw_go tabOK 99 (by simp only [go_sem, nodeRow]; try exact rfl) ?_ ?_
  · simp [go_sem, nodeRow]
  refine cw_callC rfl (by simp only [go_sem]; try exact rfl) (by simp only [go_sem]; try exact rfl) (by simp [go_sem]) ⟨_, Go.Proofs.Try.func99, by kernel_rfl, rfl⟩ (by simp [go_sem]) (fun hb => (by exact FnOK.nrm rfl (a3p3))) (by simp [go_sem]) (by simp only [go_sem]; exact rfl) ?_
  refine cw_go tabOK 99 (by simp only [go_sem]; try exact rfl) (by simp [go_sem]) ?_
  refine cw_step (by simp only [go_sem]; try exact rfl) (trip_bytes tabOK rfl rfl rfl (id := 62) (n := 1) (by simp only [go_sem]; try exact rfl) (by simp only [go_sem]; exact rfl) (by decide) rfl rfl) ?_
  simp only [go_sem]
  refine cw_go tabOK 99 (by simp only [go_sem]; try exact rfl) (by simp [go_sem]) ?_
  refine cw_callC rfl (by simp only [go_sem]; try exact rfl) (by simp only [go_sem]; try exact rfl) (by simp [go_sem]) ⟨_, Go.Proofs.Try.func72, by kernel_rfl, rfl⟩ (by simp [go_sem]) (fun hb => (by exact FnOK.nrm rfl (a3p4))) (by simp [go_sem]) (by simp only [go_sem]; exact rfl) ?_
  refine cw_go tabOK 99 (by simp only [go_sem, actRow]; try exact rfl) ?_ ?_
  · simp [go_sem, actRow]
  refine cw_ret ⟨_, _, (by simp only [go_sem]; try exact rfl), by simp [go_sem], _, .inr (.inl rfl), ?_⟩
  rfl
end La

namespace La
open Go Go.Eng Go.Proofs
set_option maxRecDepth 10000
set_option linter.unusedSimpArgs false
set_option linter.unusedVariables false

def a7M : Act := ⟨1, 0, 0, [97], 0, [], []⟩
def a7s0 : Srv := ⟨[rootN], 1, []⟩
def a7s1 : Srv := ⟨[⟨0, true, [], [⟨[97], 1⟩], 1⟩, ⟨1, false, [], [], 1⟩], 2, [⟨2, ⟨1, 1, 0, [97], 0, [], []⟩⟩]⟩
def a7R : Rec := ⟨⟨3, 1, 0, [], 0, [], [107]⟩, 1, 0⟩
def a7t : List Node := [⟨0, true, [], [⟨[97], 1⟩], 1⟩, ⟨1, false, [107], [], 2⟩]
def a7P : List Past := [⟨2, ⟨1, 1, 0, [97], 0, [], []⟩⟩, ⟨1, ⟨3, 1, 0, [], 0, [], [107]⟩⟩]
theorem a7fit : ActFit a7M := ⟨by decide, by decide, by decide⟩
theorem a7ok0 : SrvOK 0 a7s0 := SrvOK.new
theorem a7e : doE a7s0 a7M = 0 := by decide
theorem a7d : doS a7s0 2 a7M = a7s1 := rfl
theorem a7ok1 : SrvOK 1 a7s1 := by rw [← a7d]; exact a7ok0.step 2 a7fit a7e
theorem a7p1 : FnOK Try.prog 63 [.agg (srvRow a7s0), .int .i64 2, .agg (actRow a7M)] [] (fun r _ => r = .tup [.agg (srvRow a7s1), .int .i64 0]) := by
  have := do_raw a7s0 2 a7M a7ok0.hist.good ⟨by decide, by simp [a7s0]⟩ a7fit (by decide)
  unfold doR at this
  rwa [if_pos a7e, a7d] at this
theorem a7j : judgeJ a7s1.tree a7s1.next ((a7s1.past.length + 1 : Nat) : Int) [a7R] = ⟨⟨a7t, 2, 3, [], [(1, true)], []⟩, [⟨0, 1⟩], [a7R.act]⟩ := rfl
theorem a7k : takeS a7s1 1 [a7R] = ⟨a7t, 2, a7P⟩ := rfl
theorem a7f1 : ∀ r, r ∈ [a7R] → ActFit r.act := fun r hr => by rw [List.mem_singleton.1 hr]; exact ⟨by decide, by decide, by decide⟩
theorem a7p2 : FnOK Try.prog 64 [.agg (srvRow a7s1), .int .i64 1, .sl ([a7R].map recRow)] [] (fun r _ => r = .tup [.agg (srvRow ⟨a7t, 2, a7P⟩), .sl ([(⟨0, 1⟩ : Verdict)].map verdictRow)]) := by
  have := take_ok a7s1 (a7ok1.mono (by decide)) 1 [a7R] ⟨by decide, fun r hr => by rw [List.mem_singleton.1 hr]; unfold Act.Small; decide⟩ (by decide) a7f1
  rw [a7k, a7j] at this
  exact this
theorem a7ok2 : SrvOK 2 ⟨a7t, 2, a7P⟩ := by rw [← a7k]; exact a7ok1.take 1 a7f1
theorem replay_hist {p : List Past} {t : List Node} (h : Hist p t) (hlen : p.length ≤ 90000000) : FnOK Try.prog 65 [.sl (p.map pastRow)] [] (fun r _ => r = .tup [.sl (t.map nodeRow), .int .i64 0]) := by
  obtain ⟨st, h0, h1, h2⟩ := h.st
  rw [← h1]
  exact replay_ok p st hlen h0 h2
theorem a7p3 : FnOK Try.prog 65 [.sl (a7P.map pastRow)] [] (fun r _ => r = .tup [.sl (a7t.map nodeRow), .int .i64 0]) := replay_hist a7ok2.hist (by decide)
theorem a7p4 : FnOK Try.prog 119 [.agg (srvRow ⟨a7t, 2, a7P⟩)] [] (fun r _ => r = .int .i64 3) := version_ok ⟨a7t, 2, a7P⟩ (by decide)
theorem a7p5 : FnOK Try.prog 120 [.agg (srvRow ⟨a7t, 2, a7P⟩)] [] (fun r _ => r = .agg (srvRow ⟨a7t, 2, a7P⟩)) := sown_ok ⟨a7t, 2, a7P⟩ a7ok2.hist.good.small ⟨by decide, by decide⟩
set_option maxHeartbeats 2000000 in
theorem alive7 : FnOK Try.prog 61 [] [] (fun r _ => r = .bool true) := by
  have p0 := snew_ok
  have p1 := a7p1
  have p2 := a7p2
  have p4 := a7p4
  have p5 := a7p5
  simp only [srvRow, a7s0, a7s1] at p0 p1 p2 p4 p5
  refine fn_of_cwW tabOK (Go.Proofs.Try.func61) rfl (fun C => ?_)
  simp only [Go.Proofs.Try.ntmps61, Go.Proofs.Try.results61, go_sem]
  refine cw_go tabOK 99 (by simp only [go_sem]; try exact rfl) (by simp [go_sem]) ?_
  refine cw_call rfl rfl (by simp only [go_sem]; try exact rfl) (by simp [go_sem]) ⟨_, Go.Proofs.Try.func62, by kernel_rfl, rfl⟩ (by simp [go_sem]) (p0) (by simp [go_sem]) (by simp only [go_sem]; exact rfl) ?_
  refine cw_go tabOK 99 (by simp only [go_sem]; try exact rfl) (by simp [go_sem]) ?_
  refine cw_call rfl rfl (by simp only [go_sem]; try exact rfl) (by simp [go_sem]) ⟨_, Go.Proofs.Try.func63, by kernel_rfl, rfl⟩ (by simp [go_sem]) (by exact FnOK.nrm rfl (p1)) (by simp [go_sem]) (by simp only [go_sem]; exact rfl) ?_
  refine cw_go tabOK 99 (by simp only [go_sem]; try exact rfl) (by simp [go_sem]) ?_
  refine cw_step rfl (trip_bytes tabOK rfl rfl rfl (id := 15) (n := 1) (by simp only [go_sem]; try exact rfl) (by simp only [go_sem]; exact rfl) (by decide) rfl rfl) ?_
  simp only [go_sem]
  refine cw_go tabOK 99 (by simp only [go_sem]; try exact rfl) (by simp [go_sem]) ?_
  refine cw_freeze 19 rfl (rfl) ?_
  simp only [go_sem]
  refine cw_call rfl rfl (by simp only [go_sem]; try exact rfl) (by simp [go_sem]) ⟨_, Go.Proofs.Try.func64, by kernel_rfl, rfl⟩ (by simp [go_sem]) (by exact FnOK.nrm rfl (p2)) (by simp [go_sem]) (by simp only [go_sem]; exact rfl) ?_
  refine cw_go tabOK 99 (by simp only [go_sem]; try exact rfl) (by simp [go_sem]) ?_
  refine cw_call rfl rfl (by simp only [go_sem]; try exact rfl) (by simp [go_sem]) ⟨_, Go.Proofs.Try.func65, by kernel_rfl, rfl⟩ (by simp [go_sem]) (a7p3) (by simp [go_sem]) (by simp only [go_sem]; exact rfl) ?_
  refine cw_go tabOK 99 (by simp only [go_sem, pastRow, verdictRow]; try exact rfl) ?_ ?_
  · simp [go_sem, pastRow, verdictRow]
  refine cw_callC rfl (by simp only [go_sem]; try exact rfl) (by simp only [go_sem]; try exact rfl) (by simp [go_sem]) ⟨_, Go.Proofs.Try.func119, by kernel_rfl, rfl⟩ (by simp [go_sem]) (fun hb => (p4)) (by simp [go_sem]) (by simp only [go_sem]; exact rfl) ?_
  refine cw_go tabOK 99 (by simp only [go_sem, nodeRow, a7t]; try exact rfl) ?_ ?_
  · simp [go_sem, nodeRow, a7t]
  refine cw_callC rfl (by simp only [go_sem]; try exact rfl) (by simp only [go_sem]; try exact rfl) (by simp [go_sem]) ⟨_, Go.Proofs.Try.func120, by kernel_rfl, rfl⟩ (by simp [go_sem]) (fun hb => (p5)) (by simp [go_sem]) (by simp only [go_sem]; exact rfl) ?_
  refine cw_go tabOK 99 (by simp only [go_sem]; try exact rfl) (by simp [go_sem]) ?_
  refine cw_ret ⟨_, _, (by simp only [go_sem]; try exact rfl), by simp [go_sem], _, .inr (.inl rfl), ?_⟩
  rfl
end La

namespace La
open Go Go.Eng Go.Proofs
set_option maxRecDepth 10000
set_option linter.unusedSimpArgs false
set_option linter.unusedVariables false

/-- the server behind so many of the acts -/
noncomputable def srvAt (al : List Act) : Nat → Srv
  | 0 => ⟨[rootN], 1, []⟩
  | i + 1 => if doE (srvAt al i) (al.getD i default) = 0 then doS (srvAt al i) (i : Int) (al.getD i default) else srvAt al i
theorem srvAt_ok (al : List Act) (h : ∀ a, a ∈ al → ActFit a) : ∀ i, i ≤ al.length → SrvOK i (srvAt al i)
  | 0, _ => SrvOK.new
  | i + 1, hi => by
    have ih := srvAt_ok al h i (by omega)
    unfold srvAt
    split
    · rename_i he
      exact ih.step (i : Int) (h _ (getD_mem (by omega))) he
    · exact ih.mono (by omega)
theorem SrvOK.past {k : Nat} {s : Srv} (h : SrvOK k s) (hk : k ≤ 80000000) : SmallP s.past := ⟨by have := h.len; omega, fun p hp => by
  obtain ⟨st, _, _, h3⟩ := h.hist.st
  obtain ⟨i, hi⟩ := List.getElem?_of_mem hp
  have hil := (List.getElem?_eq_some_iff.1 hi).1
  have := (h3 i hil).2.1.data
  rwa [show s.past.getD i default = p by rw [List.getD_eq_getElem?_getD, hi]; rfl] at this⟩

theorem sameT_refl (v : Bool) (l : List Node) : sameT v l l = true := (sameT_iff v l l).2 ⟨rfl, fun j _ => by simp [sameN]⟩

set_option maxHeartbeats 2000000 in
theorem sreplay_ok (al : List Act) (log : List Rec) (hlen : al.length ≤ 2000000) (hfa : ∀ a, a ∈ al → ActFit a) (hlog : SmallL log) (hl2 : log.length ≤ 2000000) (hfit : ∀ r, r ∈ log → ActFit r.act) :
    FnOK Try.prog 14 [.sl (al.map actRow), .sl (log.map recRow)] [] (fun r _ => r = .bool true) := by
  have hz : srvAt al 0 = ⟨[rootN], 1, []⟩ := rfl
  have hs := fun i => @srvAt_ok al hfa i
  have hsu : ∀ i, srvAt al (i + 1) = if doE (srvAt al i) (al.getD i default) = 0 then doS (srvAt al i) (i : Int) (al.getD i default) else srvAt al i := fun i => rfl
  generalize srvAt al = S at *
  have p0 := snew_ok
  unfold srvRow at p0
  refine fn_of_cwW tabOK (Go.Proofs.Try.func14) rfl (fun C => ?_)
  simp only [Go.Proofs.Try.ntmps14, Go.Proofs.Try.results14, go_sem]
  refine cw_go tabOK 99 (by simp only [go_sem]; try exact rfl) (by simp [go_sem]) ?_
  refine cw_call rfl rfl (by simp only [go_sem]; try exact rfl) (by simp [go_sem]) ⟨_, Go.Proofs.Try.func61, by kernel_rfl, rfl⟩ (by simp [go_sem]) (alive7) (by simp [go_sem]) (by simp only [go_sem]; exact rfl) ?_
  refine cw_go tabOK 99 (by simp only [go_sem]; try exact rfl) (by simp [go_sem]) ?_
  refine cw_cond (by simp only [go_sem]; try exact rfl) trivial (fun h => ?_) (fun h => ?_)
  · cases h
  refine cw_go tabOK 99 (by simp only [go_sem]; try exact rfl) (by simp [go_sem]) ?_
  refine cw_call rfl rfl (by simp only [go_sem]; try exact rfl) (by simp [go_sem]) ⟨_, Go.Proofs.Try.func62, by kernel_rfl, rfl⟩ (by simp [go_sem]) (p0) (by simp [go_sem]) (by simp only [go_sem]; exact rfl) ?_
  refine cw_go tabOK 99 (by simp only [go_sem]; try exact rfl) (by simp [go_sem]) ?_
  refine cw_loopS (fun i : Nat => i ≤ al.length) (fun i => al.length - i) (fun i => [(6, .any), (7, .any), (8, .any), (9, .any), (17, .int .i64 i), (18, .any), (19, .any), (20, .any), (21, .any), (22, .any), (23, .any), (24, .any), (25, .any), (26, .any), (27, .any), (28, .any), (29, .any), (30, .any), (31, .any), (32, .any)])
    (fun i => [(5, .cells 97 3 [srvRow (S i)])]) 0 (by omega) ?_ fun i hi => ?_
  · rw [hz]
    unfold srvRow
    simp only [go_sem]
    exact le_sub (by simp [go_sem]) (by simp [go_sem]) (by simp [go_sem])
  unfold srvRow
  simp only [go_sem]
  refine cw_go tabOK 99 (by simp only [go_sem]; try exact rfl) (by simp [go_sem]) ?_
  refine cw_cond (by simp only [go_sem]; try exact rfl) trivial (fun h => ?_) (fun h => ?_)
  · have hlt : i < al.length := by simp at h; omega
    have hg : (al.map actRow).getD i [] = actRow (al.getD i default) := Fam.getD hlt
    have hsi := hs i (by omega)
    have hui := hsu i
    have hfi := hfa _ (getD_mem hlt)
    have how' : IntKind.i64.wrap ((i : Int) + 1) = ((i + 1 : Nat) : Int) := by rw [Eng.wrap_small (by omega) (by omega)]; rfl
    clear hs hsu
    generalize al.getD i default = a at *
    have hdo := do_raw (S i) (i : Int) a hsi.hist.good (hsi.past (by omega)) hfi (by have := hsi.next; omega)
    unfold doR at hdo
    generalize S i = s at *
    generalize doS s (i : Int) a = sd at *
    generalize doE s a = e at *
    unfold srvRow at hdo
    by_cases he : e = 0
    · rw [if_pos he] at hdo hui
      subst he
      refine cw_go tabOK 99 (by simp only [go_sem, hg, actRow]; try exact rfl) ?_ ?_
      · simp [hg, actRow, hlt]
      refine cw_freeze 7 rfl (rfl) ?_
      simp only [go_sem]
      unfold actRow at hdo
      refine cw_call rfl rfl (by simp only [go_sem]; try exact rfl) (by simp [go_sem]) ⟨_, Go.Proofs.Try.func63, by kernel_rfl, rfl⟩ (by simp [go_sem]) (hdo) (by simp [go_sem]) (by simp only [go_sem]; exact rfl) ?_
      refine cw_go tabOK 99 (by simp only [go_sem]; try exact rfl) (by simp [go_sem]) ?_
      refine cw_condT (by simp only [go_sem]; try exact rfl) trivial (rfl) ?_
      refine cw_go tabOK 99 (by simp only [go_sem, how']; try exact rfl) (by simp [go_sem, how']) ?_
      refine cw_back ⟨i + 1, by omega, by omega, le_sub ?_ ?_ ?_⟩
      · simp [go_sem]
      · simp [go_sem, hui, srvRow]
      · simp [go_sem]
    · rw [if_neg he] at hdo hui
      refine cw_go tabOK 99 (by simp only [go_sem, hg, actRow]; try exact rfl) ?_ ?_
      · simp [hg, actRow, hlt]
      refine cw_freeze 7 rfl (rfl) ?_
      simp only [go_sem]
      unfold actRow at hdo
      refine cw_call rfl rfl (by simp only [go_sem]; try exact rfl) (by simp [go_sem]) ⟨_, Go.Proofs.Try.func63, by kernel_rfl, rfl⟩ (by simp [go_sem]) (hdo) (by simp [go_sem]) (by simp only [go_sem]; exact rfl) ?_
      refine cw_go tabOK 99 (by simp only [go_sem]; try exact rfl) (by simp [go_sem]) ?_
      refine cw_condF (by simp only [go_sem]; try exact rfl) trivial (by simp [he]) ?_
      refine cw_go tabOK 99 (by simp only [go_sem, how']; try exact rfl) (by simp [go_sem, how']) ?_
      refine cw_back ⟨i + 1, by omega, by omega, le_sub ?_ ?_ ?_⟩
      · simp [go_sem]
      · simp [go_sem, hui, srvRow]
      · simp [go_sem]
  · have e : i = al.length := by simp at h; omega
    subst e
    have hsi := hs al.length (by omega)
    generalize S al.length = s at *
    have htk := take_ok s (hsi.mono (by omega)) 9 log hlog hl2 hfit
    have hok := hsi.take 9 hfit
    generalize takeS s 9 log = q at *
    generalize judgeJ s.tree s.next ((s.past.length + 1 : Nat) : Int) log = g at *
    have hrep := replay_hist hok.hist (by have := hok.len; omega)
    have hsame := same_ok q.tree q.tree true hok.hist.good.small hok.hist.good.small
    rw [sameT_refl] at hsame
    unfold srvRow at htk
    refine cw_go tabOK 99 (by simp only [go_sem]; try exact rfl) (by simp [go_sem]) ?_
    refine cw_call rfl rfl (by simp only [go_sem]; try exact rfl) (by simp [go_sem]) ⟨_, Go.Proofs.Try.func64, by kernel_rfl, rfl⟩ (by simp [go_sem]) (htk) (by simp [go_sem]) (by simp only [go_sem]; exact rfl) ?_
    refine cw_go tabOK 99 (by simp only [go_sem]; try exact rfl) (by simp [go_sem]) ?_
    refine cw_call rfl rfl (by simp only [go_sem]; try exact rfl) (by simp [go_sem]) ⟨_, Go.Proofs.Try.func65, by kernel_rfl, rfl⟩ (by simp [go_sem]) (hrep) (by simp [go_sem]) (by simp only [go_sem]; exact rfl) ?_
    refine cw_go tabOK 99 (by simp only [go_sem]; try exact rfl) (by simp [go_sem]) ?_
    refine cw_callC rfl (by simp only [go_sem]; try exact rfl) (by simp only [go_sem]; try exact rfl) (by simp [go_sem]) ⟨_, Go.Proofs.Try.func29, by kernel_rfl, rfl⟩ (by simp [go_sem]) (fun hb => (hsame)) (by simp [go_sem]) (by simp only [go_sem]; exact rfl) ?_
    refine cw_go tabOK 99 (by simp only [go_sem]; try exact rfl) (by simp [go_sem]) ?_
    refine cw_ret ⟨_, _, (by simp only [go_sem]; try exact rfl), by simp [go_sem], _, .inr (.inl rfl), ?_⟩
    rfl
end La

namespace La
open Go Go.Eng Go.Proofs Go.Proofs.Ytldpfleilffanaa

/-- cells that read so, in blocks that are there -/
def RdC (w : World) (cs : List Value) (xs : List AV) : Prop := cs.length = xs.length ∧ ∀ (j : Nat) y, xs[j]? = some y → RdP (fun b => b < w.heap.size) w (cs.getD j undef) y

theorem rdc_nil {w : World} {cs : List Value} {off : Nat} (h : cs.length = off) : RdC w (cs.drop off) [] :=
  ⟨by simp; omega, fun j y hj => by simp at hj⟩

theorem rdc_cons {w : World} {cs : List Value} {xs ys : List AV} (off s : Nat) (h : RdC w ((cs.drop off).take s) xs) (hs : xs.length = s) (k : RdC w (cs.drop (off + s)) ys) : RdC w (cs.drop off) (xs ++ ys) := by
  obtain ⟨h1, h2⟩ := h
  obtain ⟨k1, k2⟩ := k
  have hl : (cs.drop off).length = s + (cs.drop (off + s)).length := by
    simp only [List.length_take, List.length_drop] at h1 k1 ⊢
    omega
  refine ⟨by rw [List.length_append, hl, hs, k1], fun j y hj => ?_⟩
  by_cases hjs : j < s
  · rw [List.getElem?_append_left (by omega)] at hj
    have := h2 j y hj
    rwa [List.getD_eq_getElem?_getD, List.getElem?_take, if_pos hjs, ← List.getD_eq_getElem?_getD] at this
  · rw [List.getElem?_append_right (by omega), hs] at hj
    have := k2 (j - s) y hj
    rw [List.getD_eq_getElem?_getD, List.getElem?_drop] at this
    rw [List.getD_eq_getElem?_getD, List.getElem?_drop]
    rwa [show off + s + (j - s) = off + j from by omega] at this

/-- A TYPE's VALUES, AS LEAN HAS THEM: the cells read as 'f x', 'q' holds of it, and it is no larger than what was read. -/
structure Rep (t : TypeId) {α : Type} (f : α → List AV) (q : α → Prop) (sz : α → Nat) : Prop where
  size : ∀ x, (f x).length = (Try.prog).cellsOf t
  opn : ∀ {H : Type} (enc : TypeId × Value → H) (w : World) (n : Nat) (cs : List Value) (y : DataW H × List MemPlace), DataW.trod enc Try.prog w 0 (fun _ => true) true n t cs = some y →
    ∃ x : α, q x ∧ sz x ≤ Rows.uptoBulk y.1 ∧ RdC w cs (f x)

theorem cells_tab {t : TypeId} {n : Nat} (h : tab.siz t = n) (h0 : n ≠ 0) : (Try.prog).cellsOf t = n := by
  obtain ⟨i, h1, h2, _⟩ := tabOK.siz t (by rw [h]; exact h0)
  unfold Program.cellsOf
  rw [h1]
  simp [h2, h]

theorem rep_int {t : TypeId} (ht : (Try.prog).underlying t = some (.int .i64)) (hs : (Try.prog).cellsOf t = 1) : Rep t (fun n : Int => [AV.int .i64 n]) (fun n => -9223372036854775808 ≤ n ∧ n ≤ 9223372036854775807) (fun _ => 1) where
  size := fun _ => by rw [hs]; rfl
  opn := fun enc w n cs y h => by
    obtain ⟨m, rfl, rfl, hw⟩ := DataW.trod_int ht h
    refine ⟨m, ?_, by simp [Rows.uptoBulk], rfl, fun j y hj => ?_⟩
    · simpa [Lit.wf, IntKind.min, IntKind.max, IntKind.bits, IntKind.signed] using hw
    · cases j with
      | zero => simp only [List.getElem?_cons_zero, Option.some.injEq] at hj; subst hj; exact .int _ _
      | succ j => simp at hj

theorem rep_bool {t : TypeId} (ht : (Try.prog).underlying t = some .bool) (hs : (Try.prog).cellsOf t = 1) : Rep t (fun b : Bool => [AV.bool b]) (fun _ => True) (fun _ => 1) where
  size := fun _ => by rw [hs]; rfl
  opn := fun enc w n cs y h => by
    obtain ⟨b, rfl, rfl⟩ := DataW.trod_bool ht h
    refine ⟨b, trivial, by simp [Rows.uptoBulk], rfl, fun j y hj => ?_⟩
    cases j with
    | zero => simp only [List.getElem?_cons_zero, Option.some.injEq] at hj; subst hj; exact .bool _
    | succ j => simp at hj

theorem rep_str {t : TypeId} (ht : (Try.prog).underlying t = some .string) (hs : (Try.prog).cellsOf t = 1) : Rep t (fun s : List UInt8 => [AV.str s]) (fun _ => True) (fun s => s.length + 1) where
  size := fun _ => by rw [hs]; rfl
  opn := fun enc w n cs y h => by
    obtain ⟨s, rfl, rfl, _⟩ := DataW.trod_string ht h
    refine ⟨s.data.toList, trivial, by simp [Rows.uptoBulk], rfl, fun j y hj => ?_⟩
    cases j with
    | zero => simp only [List.getElem?_cons_zero, Option.some.injEq] at hj; subst hj; exact .str _ _ rfl
    | succ j => simp at hj

theorem rep_byte {t : TypeId} (ht : (Try.prog).underlying t = some (.int .u8)) (hs : (Try.prog).cellsOf t = 1) : Rep t byteRow (fun _ => True) (fun _ => 1) where
  size := fun _ => by rw [hs]; rfl
  opn := fun enc w n cs y h => by
    obtain ⟨m, rfl, rfl, hw⟩ := DataW.trod_int ht h
    have hb : 0 ≤ m ∧ m ≤ 255 := by simpa [Lit.wf, IntKind.min, IntKind.max, IntKind.bits, IntKind.signed] using hw
    refine ⟨UInt8.ofNat m.toNat, trivial, by simp [Rows.uptoBulk], rfl, fun j y hj => ?_⟩
    cases j with
    | zero =>
      simp only [byteRow, List.getElem?_cons_zero, Option.some.injEq] at hj
      subst hj
      have : ((UInt8.ofNat m.toNat).toNat : Int) = m := by
        rw [UInt8.toNat_ofNat']
        omega
      rw [this]; exact .int _ _
    | succ j => simp [byteRow] at hj

/-- how much a list holds -/
def szL {α : Type} (sz : α → Nat) : List α → Nat
  | [] => 0
  | x :: r => sz x + szL sz r

theorem szL_mem {α : Type} {sz : α → Nat} {x : α} : ∀ {l : List α}, x ∈ l → sz x ≤ szL sz l
  | y :: r, h => by
    rcases List.mem_cons.1 h with rfl | h
    · simp only [szL]; omega
    · have := szL_mem (sz := sz) h; simp only [szL]; omega

theorem szL_len {α : Type} {sz : α → Nat} (h : ∀ x, 1 ≤ sz x) : ∀ (l : List α), l.length ≤ szL sz l
  | [] => Nat.le_refl _
  | x :: r => by have := szL_len h r; have := h x; simp only [szL, List.length_cons]; omega

theorem bulkAll_append {H : Type} : ∀ (a b : List (DataW H)), Rows.uptoBulkAll (a ++ b) = Rows.uptoBulkAll a + Rows.uptoBulkAll b
  | [], b => by simp [Rows.uptoBulkAll]
  | x :: a, b => by simp only [List.cons_append, Rows.uptoBulkAll, bulkAll_append a b]; omega

/-- what each element is, one by one -/
theorem pick_list {α H : Type} {q : α → Prop} {sz : α → Nat} {R : Nat → α → Prop} : ∀ (elems : List (DataW H × List MemPlace)) (i0 : Nat), (∀ (i : Nat) y, elems[i]? = some y → ∃ x, q x ∧ sz x ≤ Rows.uptoBulk y.1 ∧ R (i0 + i) x) →
    ∃ l : List α, l.length = elems.length ∧ (∀ x, x ∈ l → q x) ∧ szL sz l ≤ Rows.uptoBulkAll (elems.map (·.1)) ∧ ∀ (i : Nat) x, l[i]? = some x → R (i0 + i) x
  | [], _, _ => ⟨[], rfl, fun x h => by simp at h, by simp [szL], fun i x h => by simp at h⟩
  | y :: r, i0, h => by
    obtain ⟨x, h1, h2, h3⟩ := h 0 y rfl
    obtain ⟨l, k1, k2, k3, k4⟩ := pick_list (R := R) r (i0 + 1) (fun i z hz => by rw [show i0 + 1 + i = i0 + (i + 1) from by omega]; exact h (i + 1) z (by simpa using hz))
    refine ⟨x :: l, by simp [k1], fun z hz => ?_, ?_, fun i z hz => ?_⟩
    · rcases List.mem_cons.1 hz with rfl | hz
      · exact h1
      · exact k2 z hz
    · simp only [szL, List.map_cons, Rows.uptoBulkAll]; omega
    · cases i with
      | zero => simp only [List.getElem?_cons_zero, Option.some.injEq] at hz; subst hz; exact h3
      | succ i => rw [show i0 + (i + 1) = i0 + 1 + i from by omega]; exact k4 i z (by simpa using hz)

theorem cells_some {w : World} {a : Addr} {n : Nat} {cs : List Value} (h : w.cells? 0 a n = some cs) : cs.length = n ∧ ∀ i, i < n → w.cell? (a.add i) = cs[i]? := by
  unfold World.cells? at h
  rw [if_pos (Nat.zero_le _)] at h
  have hl := mapM_some_length h
  refine ⟨by simpa using hl, fun i hi => ?_⟩
  exact mapM_some_get h i i (by simp [hi])

theorem rep_slice {t e : TypeId} {α : Type} {f : α → List AV} {q : α → Prop} {sz : α → Nat} (ht : (Try.prog).underlying t = some (.slice e)) (hs : (Try.prog).cellsOf t = 1) (he : Rep e f q sz) (hsz : (Try.prog).cellsOf e ≠ 0) :
    Rep t (fun l : List α => [AV.sl (l.map f)]) (fun l => ∀ x, x ∈ l → q x) (fun l => szL sz l + 1) where
  size := fun _ => by rw [hs]; rfl
  opn := fun enc w n cs y h => by
    rcases DataW.trod_slice ht h with ⟨rfl, rfl⟩ | ⟨a, len, cap, elems, rest, m, rfl, rfl, rfl, h1, h2, h3, h4, h5, _⟩
    · refine ⟨[], fun x hx => by simp at hx, by simp [szL, Rows.uptoBulk], rfl, fun j y hj => ?_⟩
      cases j with
      | zero =>
        simp only [List.map_nil, List.getElem?_cons_zero, Option.some.injEq] at hj; subst hj
        exact .sl none 0 0 [] 0 0 0 (fun _ _ => undef) rfl (Nat.le_refl _) (fun row h => by simp at h) (fun h => by omega) (fun i j h => by omega) (fun i row h => by simp at h)
      | succ j => simp at hj
    · have key : ∀ (i : Nat) y, elems[i]? = some y → ∃ x, q x ∧ sz x ≤ Rows.uptoBulk y.1 ∧ (∃ cs, w.cells? 0 (a.add ((0 + i) * (Try.prog).cellsOf e)) ((Try.prog).cellsOf e) = some cs ∧ RdC w cs (f x)) := fun i y hy => by
        have hi : i < len := by rw [← h4]; exact (List.getElem?_eq_some_iff.1 hy).1
        have := h5 i hi
        rw [hy] at this
        obtain ⟨cs, k1, k2⟩ := Option.bind_eq_some_iff.1 this
        obtain ⟨x, q1, q2, q3⟩ := he.opn enc w m cs y k2
        exact ⟨x, q1, q2, cs, by rw [Nat.zero_add]; exact k1, q3⟩
      obtain ⟨l, l1, l2, l3, l4⟩ := pick_list (q := q) (sz := sz) (R := fun i x => ∃ cs, w.cells? 0 (a.add (i * (Try.prog).cellsOf e)) ((Try.prog).cellsOf e) = some cs ∧ RdC w cs (f x)) elems 0 key
      refine ⟨l, l2, by simp only [Rows.uptoBulk]; omega, rfl, fun j y hj => ?_⟩
      cases j with
      | succ j => simp at hj
      | zero =>
        simp only [List.getElem?_cons_zero, Option.some.injEq] at hj
        subst hj
        have hcell : ∀ i j, i < l.length → j < (Try.prog).cellsOf e → ∃ (b : a.spot = none ∨ True) (x : α) (cs : List Value), l[i]? = some x ∧ RdC w cs (f x) ∧ w.cell? (a.add (i * (Try.prog).cellsOf e) |>.add j) = cs[j]? ∧ j < cs.length := fun i j hi hj => by
          obtain ⟨cs, k1, k2⟩ := l4 i l[i] (List.getElem?_eq_getElem hi)
          obtain ⟨c1, c2⟩ := cells_some k1
          rw [Nat.zero_add] at c2
          exact ⟨.inr trivial, l[i], cs, List.getElem?_eq_getElem hi, k2, c2 j hj, by omega⟩
        by_cases h0 : l.length = 0
        · have : l = [] := List.eq_nil_of_length_eq_zero h0
          subst this
          simp only [List.map_nil]
          have e0 : len = 0 := by rw [← h4, ← l1]; rfl
          subst e0
          exact .sl (some a) 0 cap [] 0 0 0 (fun _ _ => undef) rfl (Nat.zero_le _) (fun row h => by simp at h) (fun h => by omega) (fun i j h => by omega) (fun i row h => by simp at h)
        · have hspot : a.spot = none ∧ a.block < w.heap.size := by
            obtain ⟨_, x, cs, _, _, c3, c4⟩ := hcell 0 0 (by omega) (by omega)
            rw [List.getElem?_eq_getElem c4] at c3
            have c3' : w.cell? a = some cs[0] := by simpa [Addr.add] using c3
            unfold World.cell? at c3'
            split at c3'
            · rename_i c e' f' hb
              split at c3'
              · cases c3'
              · rename_i hsp
                refine ⟨?_, ?_⟩
                · cases e : a.spot with
                  | none => rfl
                  | some k => rw [e] at hsp; simp at hsp
                · exact (Array.getElem?_eq_some_iff.1 hb).1
            · cases c3'
          obtain ⟨ab, ao, asp⟩ := a
          simp only at hspot
          obtain ⟨rfl, hlt⟩ := hspot
          have hadd : ∀ (i j : Nat), ((⟨ab, ao, none⟩ : Addr).add (i * (Try.prog).cellsOf e) |>.add j) = ⟨ab, ao + (i * (Try.prog).cellsOf e + j), none⟩ := fun i j => by
            rw [add_plain, add_plain, Nat.add_assoc]
          refine .sl (some ⟨ab, ao, none⟩) len cap (l.map f) ((Try.prog).cellsOf e) ab ao (fun i j => (w.cell? ⟨ab, ao + (i * (Try.prog).cellsOf e + j), none⟩).getD undef) (by simp [l1, h4]) h2 (fun row hr => ?_) (fun _ => ⟨rfl, hlt⟩) (fun i j hi hj => ?_) (fun i row hrow j x hx => ?_)
          · obtain ⟨x, _, rfl⟩ := List.mem_map.1 hr
            exact he.size x
          · obtain ⟨_, x, cs, _, _, c3, c4⟩ := hcell i j (by omega) hj
            rw [hadd, List.getElem?_eq_getElem c4] at c3
            rw [c3]; rfl
          · rw [List.getElem?_map] at hrow
            cases e1 : l[i]? with
            | none => rw [e1] at hrow; cases hrow
            | some x0 =>
              rw [e1] at hrow
              simp only [Option.map_some, Option.some.injEq] at hrow
              subst hrow
              have hi : i < l.length := (List.getElem?_eq_some_iff.1 e1).1
              have hj : j < (Try.prog).cellsOf e := by rw [← he.size x0]; exact (List.getElem?_eq_some_iff.1 hx).1
              obtain ⟨_, x1, cs, c1, c2, c3, c4⟩ := hcell i j hi hj
              rw [e1] at c1
              injection c1 with c1
              subst c1
              have := c2.2 j x hx
              rw [hadd, List.getElem?_eq_getElem c4] at c3
              simp only [c3, Option.getD_some]
              rwa [List.getD_eq_getElem?_getD, List.getElem?_eq_getElem c4] at this

/-! ### The program's types -/

theorem rep_i (t : TypeId) (ht : (Try.prog).underlying t = some (.int .i64)) (hs : tab.siz t = 1) : Rep t (fun n : Int => [AV.int .i64 n]) (fun n => -9223372036854775808 ≤ n ∧ n ≤ 9223372036854775807) (fun _ => 1) := rep_int ht (cells_tab hs (by decide))

theorem rep_bytes : Rep 23 (fun d : List UInt8 => [AV.sl (d.map byteRow)]) (fun l => ∀ x, x ∈ l → True) (fun l => szL (fun _ => 1) l + 1) :=
  rep_slice Try.underlying23 (cells_tab (t := 23) (n := 1) rfl (by decide)) (rep_byte Try.underlying5 (cells_tab (t := 5) (n := 1) rfl (by decide))) (by rw [cells_tab (t := 5) (n := 1) rfl (by decide)]; decide)

def i64 (n : Int) : Prop := -9223372036854775808 ≤ n ∧ n ≤ 9223372036854775807

structure Entry.Ok (e : Entry) : Prop where
  fid : i64 e.fid
structure Node.Ok (n : Node) : Prop where
  fid : i64 n.fid
  entries : ∀ e, e ∈ n.entries → e.Ok
  version : i64 n.version
structure Act.Ok (a : Act) : Prop where
  kind : i64 a.kind
  fid : i64 a.fid
  dir : i64 a.dir
  to : i64 a.to
structure Rec.Ok (r : Rec) : Prop where
  act : r.act.Ok
  version : i64 r.version
  id : i64 r.id
def Entry.sz (e : Entry) : Nat := e.name.length + 1
def Node.sz (n : Node) : Nat := n.data.length + szL Entry.sz n.entries + 1
def Act.sz (a : Act) : Nat := a.name.length + a.toName.length + a.data.length + 1
def Rec.sz (r : Rec) : Nat := r.act.sz + 1
theorem szL_ones {α : Type} : ∀ (l : List α), szL (fun _ => 1) l = l.length
  | [] => rfl
  | x :: r => by simp only [szL, szL_ones r, List.length_cons]; omega

theorem rep_entry : Rep 115 entryRow Entry.Ok Entry.sz where
  size := fun x => by rw [cells_tab (t := 115) (n := 2) rfl (by decide)]; rfl
  opn := fun enc w n cs y h => by
    obtain ⟨xs, m, rfl, rfl, hl, hxl, hf⟩ := DataW.trod_struct Try.underlying115 h
    obtain ⟨y0, y1, rfl⟩ : ∃ y0 y1, xs = [y0, y1] := by
      have hxl : xs.length = 2 := hxl
      match xs, hxl with
      | [a0, a1], _ => exact ⟨a0, a1, rfl⟩
    have e0 : DataW.trod enc Try.prog w 0 (fun _ => true) true m 9 ((cs.drop 0).take ((Try.prog).cellsOf 9)) = some y0 := hf 0 _ rfl
    obtain ⟨x0, q0, s0, r0⟩ := (rep_str Try.underlying9 (cells_tab (t := 9) (n := 1) rfl (by decide))).opn enc w m _ _ e0
    rw [cells_tab (t := 9) (n := 1) rfl (by decide)] at r0
    have e1 : DataW.trod enc Try.prog w 0 (fun _ => true) true m 3 ((cs.drop 1).take ((Try.prog).cellsOf 3)) = some y1 := hf 1 _ rfl
    obtain ⟨x1, q1, s1, r1⟩ := (rep_i 3 Try.underlying3 rfl).opn enc w m _ _ e1
    rw [cells_tab (t := 3) (n := 1) rfl (by decide)] at r1
    refine ⟨⟨x0, x1⟩, ⟨q1⟩, ?_, ?_⟩
    · simp only [Entry.sz, Rows.uptoBulk, Rows.uptoBulkAll, List.map_cons, List.map_nil]; omega
    · have hl : cs.length = 2 := by rw [hl, cells_tab (t := 115) (n := 2) rfl (by decide)]
      have := rdc_cons 0 1 r0 rfl (rdc_cons 1 1 r1 rfl (rdc_nil hl))
      rw [List.drop_zero] at this
      exact this

theorem rep_entries : Rep 44 (fun l : List Entry => [AV.sl (l.map entryRow)]) (fun l => ∀ x, x ∈ l → x.Ok) (fun l => szL Entry.sz l + 1) :=
  rep_slice Try.underlying44 (cells_tab (t := 44) (n := 1) rfl (by decide)) rep_entry (by rw [cells_tab (t := 115) (n := 2) rfl (by decide)]; decide)

theorem rep_node : Rep 46 nodeRow Node.Ok Node.sz where
  size := fun x => by rw [cells_tab (t := 46) (n := 5) rfl (by decide)]; rfl
  opn := fun enc w n cs y h => by
    obtain ⟨xs, m, rfl, rfl, hl, hxl, hf⟩ := DataW.trod_struct Try.underlying46 h
    obtain ⟨y0, y1, y2, y3, y4, rfl⟩ : ∃ y0 y1 y2 y3 y4, xs = [y0, y1, y2, y3, y4] := by
      have hxl : xs.length = 5 := hxl
      match xs, hxl with
      | [a0, a1, a2, a3, a4], _ => exact ⟨a0, a1, a2, a3, a4, rfl⟩
    have e0 : DataW.trod enc Try.prog w 0 (fun _ => true) true m 3 ((cs.drop 0).take ((Try.prog).cellsOf 3)) = some y0 := hf 0 _ rfl
    obtain ⟨x0, q0, s0, r0⟩ := (rep_i 3 Try.underlying3 rfl).opn enc w m _ _ e0
    rw [cells_tab (t := 3) (n := 1) rfl (by decide)] at r0
    have e1 : DataW.trod enc Try.prog w 0 (fun _ => true) true m 4 ((cs.drop 1).take ((Try.prog).cellsOf 4)) = some y1 := hf 1 _ rfl
    obtain ⟨x1, q1, s1, r1⟩ := (rep_bool Try.underlying4 (cells_tab (t := 4) (n := 1) rfl (by decide))).opn enc w m _ _ e1
    rw [cells_tab (t := 4) (n := 1) rfl (by decide)] at r1
    have e2 : DataW.trod enc Try.prog w 0 (fun _ => true) true m 23 ((cs.drop 2).take ((Try.prog).cellsOf 23)) = some y2 := hf 2 _ rfl
    obtain ⟨x2, q2, s2, r2⟩ := (rep_bytes).opn enc w m _ _ e2
    rw [cells_tab (t := 23) (n := 1) rfl (by decide)] at r2
    have e3 : DataW.trod enc Try.prog w 0 (fun _ => true) true m 44 ((cs.drop 3).take ((Try.prog).cellsOf 44)) = some y3 := hf 3 _ rfl
    obtain ⟨x3, q3, s3, r3⟩ := (rep_entries).opn enc w m _ _ e3
    rw [cells_tab (t := 44) (n := 1) rfl (by decide)] at r3
    have e4 : DataW.trod enc Try.prog w 0 (fun _ => true) true m 3 ((cs.drop 4).take ((Try.prog).cellsOf 3)) = some y4 := hf 4 _ rfl
    obtain ⟨x4, q4, s4, r4⟩ := (rep_i 3 Try.underlying3 rfl).opn enc w m _ _ e4
    rw [cells_tab (t := 3) (n := 1) rfl (by decide)] at r4
    refine ⟨⟨x0, x1, x2, x3, x4⟩, ⟨q0, q3, q4⟩, ?_, ?_⟩
    · simp only [szL_ones] at s2
      simp only [Node.sz, Rows.uptoBulk, Rows.uptoBulkAll, List.map_cons, List.map_nil]; omega
    · have hl : cs.length = 5 := by rw [hl, cells_tab (t := 46) (n := 5) rfl (by decide)]
      have := rdc_cons 0 1 r0 rfl (rdc_cons 1 1 r1 rfl (rdc_cons 2 1 r2 rfl (rdc_cons 3 1 r3 rfl (rdc_cons 4 1 r4 rfl (rdc_nil hl)))))
      rw [List.drop_zero] at this
      exact this

theorem rep_nodes : Rep 39 (fun l : List Node => [AV.sl (l.map nodeRow)]) (fun l => ∀ x, x ∈ l → x.Ok) (fun l => szL Node.sz l + 1) :=
  rep_slice Try.underlying39 (cells_tab (t := 39) (n := 1) rfl (by decide)) rep_node (by rw [cells_tab (t := 46) (n := 5) rfl (by decide)]; decide)

theorem rep_act : Rep 25 actRow Act.Ok Act.sz where
  size := fun x => by rw [cells_tab (t := 25) (n := 7) rfl (by decide)]; rfl
  opn := fun enc w n cs y h => by
    obtain ⟨xs, m, rfl, rfl, hl, hxl, hf⟩ := DataW.trod_struct Try.underlying25 h
    obtain ⟨y0, y1, y2, y3, y4, y5, y6, rfl⟩ : ∃ y0 y1 y2 y3 y4 y5 y6, xs = [y0, y1, y2, y3, y4, y5, y6] := by
      have hxl : xs.length = 7 := hxl
      match xs, hxl with
      | [a0, a1, a2, a3, a4, a5, a6], _ => exact ⟨a0, a1, a2, a3, a4, a5, a6, rfl⟩
    have e0 : DataW.trod enc Try.prog w 0 (fun _ => true) true m 3 ((cs.drop 0).take ((Try.prog).cellsOf 3)) = some y0 := hf 0 _ rfl
    obtain ⟨x0, q0, s0, r0⟩ := (rep_i 3 Try.underlying3 rfl).opn enc w m _ _ e0
    rw [cells_tab (t := 3) (n := 1) rfl (by decide)] at r0
    have e1 : DataW.trod enc Try.prog w 0 (fun _ => true) true m 3 ((cs.drop 1).take ((Try.prog).cellsOf 3)) = some y1 := hf 1 _ rfl
    obtain ⟨x1, q1, s1, r1⟩ := (rep_i 3 Try.underlying3 rfl).opn enc w m _ _ e1
    rw [cells_tab (t := 3) (n := 1) rfl (by decide)] at r1
    have e2 : DataW.trod enc Try.prog w 0 (fun _ => true) true m 3 ((cs.drop 2).take ((Try.prog).cellsOf 3)) = some y2 := hf 2 _ rfl
    obtain ⟨x2, q2, s2, r2⟩ := (rep_i 3 Try.underlying3 rfl).opn enc w m _ _ e2
    rw [cells_tab (t := 3) (n := 1) rfl (by decide)] at r2
    have e3 : DataW.trod enc Try.prog w 0 (fun _ => true) true m 9 ((cs.drop 3).take ((Try.prog).cellsOf 9)) = some y3 := hf 3 _ rfl
    obtain ⟨x3, q3, s3, r3⟩ := (rep_str Try.underlying9 (cells_tab (t := 9) (n := 1) rfl (by decide))).opn enc w m _ _ e3
    rw [cells_tab (t := 9) (n := 1) rfl (by decide)] at r3
    have e4 : DataW.trod enc Try.prog w 0 (fun _ => true) true m 3 ((cs.drop 4).take ((Try.prog).cellsOf 3)) = some y4 := hf 4 _ rfl
    obtain ⟨x4, q4, s4, r4⟩ := (rep_i 3 Try.underlying3 rfl).opn enc w m _ _ e4
    rw [cells_tab (t := 3) (n := 1) rfl (by decide)] at r4
    have e5 : DataW.trod enc Try.prog w 0 (fun _ => true) true m 9 ((cs.drop 5).take ((Try.prog).cellsOf 9)) = some y5 := hf 5 _ rfl
    obtain ⟨x5, q5, s5, r5⟩ := (rep_str Try.underlying9 (cells_tab (t := 9) (n := 1) rfl (by decide))).opn enc w m _ _ e5
    rw [cells_tab (t := 9) (n := 1) rfl (by decide)] at r5
    have e6 : DataW.trod enc Try.prog w 0 (fun _ => true) true m 23 ((cs.drop 6).take ((Try.prog).cellsOf 23)) = some y6 := hf 6 _ rfl
    obtain ⟨x6, q6, s6, r6⟩ := (rep_bytes).opn enc w m _ _ e6
    rw [cells_tab (t := 23) (n := 1) rfl (by decide)] at r6
    refine ⟨⟨x0, x1, x2, x3, x4, x5, x6⟩, ⟨q0, q1, q2, q4⟩, ?_, ?_⟩
    · simp only [szL_ones] at s6
      simp only [Act.sz, Rows.uptoBulk, Rows.uptoBulkAll, List.map_cons, List.map_nil]; omega
    · have hl : cs.length = 7 := by rw [hl, cells_tab (t := 25) (n := 7) rfl (by decide)]
      have := rdc_cons 0 1 r0 rfl (rdc_cons 1 1 r1 rfl (rdc_cons 2 1 r2 rfl (rdc_cons 3 1 r3 rfl (rdc_cons 4 1 r4 rfl (rdc_cons 5 1 r5 rfl (rdc_cons 6 1 r6 rfl (rdc_nil hl)))))))
      rw [List.drop_zero] at this
      exact this

theorem rep_acts : Rep 33 (fun l : List Act => [AV.sl (l.map actRow)]) (fun l => ∀ x, x ∈ l → x.Ok) (fun l => szL Act.sz l + 1) :=
  rep_slice Try.underlying33 (cells_tab (t := 33) (n := 1) rfl (by decide)) rep_act (by rw [cells_tab (t := 25) (n := 7) rfl (by decide)]; decide)

theorem rep_rec : Rep 27 recRow Rec.Ok Rec.sz where
  size := fun x => by rw [cells_tab (t := 27) (n := 9) rfl (by decide)]; rfl
  opn := fun enc w n cs y h => by
    obtain ⟨xs, m, rfl, rfl, hl, hxl, hf⟩ := DataW.trod_struct Try.underlying27 h
    obtain ⟨y0, y1, y2, rfl⟩ : ∃ y0 y1 y2, xs = [y0, y1, y2] := by
      have hxl : xs.length = 3 := hxl
      match xs, hxl with
      | [a0, a1, a2], _ => exact ⟨a0, a1, a2, rfl⟩
    have e0 : DataW.trod enc Try.prog w 0 (fun _ => true) true m 25 ((cs.drop 0).take ((Try.prog).cellsOf 25)) = some y0 := hf 0 _ rfl
    obtain ⟨x0, q0, s0, r0⟩ := (rep_act).opn enc w m _ _ e0
    rw [cells_tab (t := 25) (n := 7) rfl (by decide)] at r0
    have e1 : DataW.trod enc Try.prog w 0 (fun _ => true) true m 3 ((cs.drop 7).take ((Try.prog).cellsOf 3)) = some y1 := hf 1 _ rfl
    obtain ⟨x1, q1, s1, r1⟩ := (rep_i 3 Try.underlying3 rfl).opn enc w m _ _ e1
    rw [cells_tab (t := 3) (n := 1) rfl (by decide)] at r1
    have e2 : DataW.trod enc Try.prog w 0 (fun _ => true) true m 3 ((cs.drop 8).take ((Try.prog).cellsOf 3)) = some y2 := hf 2 _ rfl
    obtain ⟨x2, q2, s2, r2⟩ := (rep_i 3 Try.underlying3 rfl).opn enc w m _ _ e2
    rw [cells_tab (t := 3) (n := 1) rfl (by decide)] at r2
    refine ⟨⟨x0, x1, x2⟩, ⟨q0, q1, q2⟩, ?_, ?_⟩
    · simp only [Rec.sz, Rows.uptoBulk, Rows.uptoBulkAll, List.map_cons, List.map_nil]; omega
    · have hl : cs.length = 9 := by rw [hl, cells_tab (t := 27) (n := 9) rfl (by decide)]
      have := rdc_cons 0 7 r0 rfl (rdc_cons 7 1 r1 rfl (rdc_cons 8 1 r2 rfl (rdc_nil hl)))
      rw [List.drop_zero] at this
      exact this

theorem rep_recs : Rep 22 (fun l : List Rec => [AV.sl (l.map recRow)]) (fun l => ∀ x, x ∈ l → x.Ok) (fun l => szL Rec.sz l + 1) :=
  rep_slice Try.underlying22 (cells_tab (t := 22) (n := 1) rfl (by decide)) rep_rec (by rw [cells_tab (t := 27) (n := 9) rfl (by decide)]; decide)

/-! ### Arguments -/

/-- an argument, opened -/
theorem open_arg {t : TypeId} {α : Type} {f : α → List AV} {q : α → Prop} {sz : α → Nat} (h : Rep t f q sz) {H : Type} {enc : TypeId × Value → H} {w : World} {v : Value} {d : DataW H} {ps : List MemPlace}
    (hd : DataW.Trod enc Try.prog w 0 (fun _ => true) true t v d ps) : ∃ x, q x ∧ sz x ≤ Rows.uptoBulk d ∧ RdC w v.cells.toList (f x) := by
  obtain ⟨n, hn⟩ := hd
  exact h.opn enc w n _ _ hn

/-- of one cell -/
theorem rdc_one {w : World} {v : Value} {x : AV} (h : RdC w v.cells.toList [x]) (hv : ∀ cs, v ≠ .agg cs) : RdP (fun b => b < w.heap.size) w v x := by
  have := h.2 0 x rfl
  cases v with
  | agg cs => exact absurd rfl (hv cs)
  | _ => exact this

theorem rdc_agg {w : World} {cs : Array Value} {xs : List AV} (h : RdC w (Value.agg cs).cells.toList xs) : RdP (fun b => b < w.heap.size) w (.agg cs) (.agg xs) := by
  refine .agg cs xs (by have h1 : cs.toList.length = xs.length := h.1; simpa using h1) fun j y hj => ?_
  have := h.2 j y hj
  rwa [List.getD_eq_getElem?_getD, Array.getElem?_toList, ← Array.getD_eq_getD_getElem?] at this

/-! ### What is not large -/
theorem Act.sz_data (a : Act) : a.data.length ≤ a.sz := by unfold Act.sz; omega
theorem nodeSmall_of {n : Node} (h : n.sz ≤ 1048576) : n.Small := by
  have h1 := szL_len (sz := Entry.sz) (fun e => by unfold Entry.sz; omega) n.entries
  unfold Node.sz at h
  exact ⟨by omega, by omega⟩
theorem small_of {l : List Node} (h : szL Node.sz l ≤ 1048576) : Small l :=
  ⟨by have := szL_len (sz := Node.sz) (fun r => by unfold Node.sz; omega) l; omega, fun r hr => nodeSmall_of (by have := szL_mem (sz := Node.sz) hr; omega)⟩
theorem nodes_len {l : List Node} (h : szL Node.sz l ≤ 1048576) : l.length ≤ 99999999 := by
  have := szL_len (sz := Node.sz) (fun r => by unfold Node.sz; omega) l; omega
theorem entries_len {n : Node} (h : n.sz ≤ 1048576) : n.entries.length ≤ 99999999 := by
  have h1 := szL_len (sz := Entry.sz) (fun e => by unfold Entry.sz; omega) n.entries
  unfold Node.sz at h
  omega
end La

namespace La
open Go Go.Eng Go.Proofs Go.Proofs.Ytldpfleilffanaa
theorem actSmall_of {a : Act} (h : a.sz ≤ 1048576) : a.Small := by unfold Act.Small; have := a.sz_data; omega
theorem recSmall_of {r : Rec} (h : r.sz ≤ 1048576) : r.act.Small := actSmall_of (by unfold Rec.sz at h; omega)
theorem smallL_of {l : List Rec} (h : szL Rec.sz l ≤ 1048576) : SmallL l :=
  ⟨by have := szL_len (sz := Rec.sz) (fun r => by unfold Rec.sz; omega) l; omega, fun r hr => recSmall_of (by have := szL_mem (sz := Rec.sz) hr; omega)⟩
end La

namespace La
open Go Go.Eng Go.Proofs Go.Proofs.Ytldpfleilffanaa
theorem actFit_of {a : Act} (h : a.sz ≤ 1048576) : ActFit a := ⟨by unfold Act.sz at h; omega, by unfold Act.sz at h; omega, by unfold Act.sz at h; omega⟩
theorem actsFit_of {l : List Act} (h : szL Act.sz l ≤ 1048576) : ∀ a, a ∈ l → ActFit a := fun a ha => actFit_of (by have := szL_mem (sz := Act.sz) ha; omega)
theorem acts_len {l : List Act} (h : szL Act.sz l ≤ 1048576) : l.length ≤ 2000000 := by
  have := szL_len (sz := Act.sz) (fun r => by unfold Act.sz; omega) l; omega
theorem recsFit_of {l : List Rec} (h : szL Rec.sz l ≤ 1048576) : ∀ r, r ∈ l → ActFit r.act := fun r hr => actFit_of (by
  have := szL_mem (sz := Rec.sz) hr
  have h2 : r.sz = r.act.sz + 1 := rfl
  omega)
theorem recs_len {l : List Rec} (h : szL Rec.sz l ≤ 1048576) : l.length ≤ 2000000 := by
  have := szL_len (sz := Rec.sz) (fun r => by unfold Rec.sz; omega) l; omega
end La

namespace Go.Proofs.Ytldpfleilffanaa.serverReplay
set_option maxRecDepth 100000
set_option linter.unusedSimpArgs false
open Go Go.ChangeShapes Go.WideShapes Go.ChangeAt Go.RowKit Go.Eng

theorem contract (H : Type) (enc : TypeId × Value → H) (W : World) (base : Nat) (args : Array Value) (ds gs : List (DataW H)) (before : List MemPlace)
    (hval : ∀ (j : Nat) t v, Try.f14.params[j]? = some t → args[j]? = some v → Value.okWide Try.prog W .any base t v)
    (hW : DataW.Whole enc Try.prog Try.f14.params.toList Rows.serverReplaySpec.vars false W args.toList ds gs before) (hk : Rows.uptoSmall H (ds ++ gs) = true) :
    Calls Try.prog 14 args W fun e W' => ∃ v, e = .returned v ∧ Rows.serverReplaySpec.post enc Try.prog Try.f14 false true false false W args v W' := by
  have hW' := hW
  obtain ⟨p, q, hA0, hV, rfl, hfz, hnd⟩ := hW
  have hA : DataW.TrodAll enc Try.prog W 0 (fun _ => true) true Try.f14.params.toList args.toList ds p := hA0
  rw [Try.params14] at hA hval
  obtain ⟨v0, vs0, d0, ds0, p0, q0, hargs, rfl, rfl, h0, r0⟩ := trodAll_cons hA
  obtain ⟨v1, vs1, d1, ds1, p1, q1, rfl, rfl, rfl, h1, r1⟩ := trodAll_cons r0
  obtain ⟨rfl, rfl, rfl⟩ := trodAll_nil r1
  obtain rfl : args = #[v0, v1] := by cases args; simp_all
  obtain ⟨rfl, rfl⟩ := trodVars_none hV
  have hk2 : Rows.uptoBulkAll [d0, d1] ≤ 1048576 := of_decide_eq_true hk
  simp only [Rows.uptoBulkAll] at hk2
  obtain ⟨x0, o0, s0, c0⟩ := La.open_arg (La.rep_acts) h0
  obtain ⟨a0, len0, cap0, rfl⟩ := okWide_slice Try.underlying33 (hval 0 33 v0 rfl rfl)
  have R0 := La.rdc_one c0 (fun _ h => nomatch h)
  obtain ⟨x1, o1, s1, c1⟩ := La.open_arg (La.rep_recs) h1
  obtain ⟨a1, len1, cap1, rfl⟩ := okWide_slice Try.underlying22 (hval 1 22 v1 rfl rfl)
  have R1 := La.rdc_one c1 (fun _ h => nomatch h)
  refine (calls_of_fn (La.sreplay_ok x0 x1 (La.acts_len (by omega)) (La.actsFit_of (by omega)) (La.smallL_of (by omega)) (La.recs_len (by omega)) (La.recsFit_of (by omega))) (w := W) (vs := [.slice a0 len0 cap0, .slice a1 len1 cap1]) rfl (S := fun b => b < W.heap.size) (fun j x h => ?_) (fun _ h => h)).mono fun e W' ⟨v, μ, S', he, hv, hf⟩ => ?_
  · rcases j with _ | _ | j
    · simp only [List.getElem?_cons_zero, List.getElem?_cons_succ, Option.some.injEq] at h; subst h; exact R0
    · simp only [List.getElem?_cons_zero, List.getElem?_cons_succ, Option.some.injEq] at h; subst h; exact R1
    · simp at h
  subst he
  obtain rfl := hv.inv_bool
  exact ⟨_, rfl, post_true La.laid La.rowed La.full (by rw [Try.params14]; decide) rfl Try.underlying4 rfl hW' hf rfl rfl rfl⟩

theorem lifted (os : Os) (started : os.Started) (H : Type) (enc : TypeId × Value → H) (F : Stop.Interp) :
    ReturnsInHanded {} Try.checked os 14 .any ((Rows.OpenSpec.upto Rows.serverReplaySpec).pre6 enc Try.prog Try.f14 Rows.serverReplayUptoRow.domain false) (((Rows.OpenSpec.upto Rows.serverReplaySpec).at F).post enc Try.prog Try.f14 false true false false) := by
  refine returnsInHanded_of_cond (C := Try.checked) (s := Rows.OpenSpec.upto Rows.serverReplaySpec) (k := Rows.uptoSmall) rfl La.own started (by kernel_rfl) Try.func14
    (OpenSpec.witness (enc := enc) (C := Try.checked) (s := Rows.OpenSpec.upto Rows.serverReplaySpec) (k := Rows.uptoSmall) rfl false ⟨#[], #[.slice none 0 0, .slice none 0 0], []⟩ 8 (by kernel_rfl) (by kernel_rfl) (by kernel_rfl)
      (x := ([.nil, .nil], [], [])) (by kernel_rfl) rfl (by kernel_rfl)) ?_
  intro W base args ds gs before hval hW _ hk _
  exact contract H enc W base args ds gs before hval hW hk

theorem over : Rows.serverReplayUptoRow.holds Try.pinned (Rows.OpenSpec.upto Rows.serverReplaySpec) :=
  OpenClaim.holds_of_cond 14 Try.f14 rfl rfl rfl rfl rfl rfl rfl ⟨rfl, rfl, rfl, rfl, rfl⟩ rfl rfl rfl rfl rfl (by kernel_rfl) Try.func14 (by kernel_rfl)
    (of_decide_eq_true (by kernel_rfl)) (by unfold Func.isWrapper; first | (rw [if_pos (by decide +kernel)]; kernel_rfl) | (rw [if_neg (by decide +kernel)]; exact ⟨rfl, rfl⟩))
    (fun os started H enc _ F => lifted os started H enc F)

theorem proved : Rows.ServerReplayUptoSaid :=
  over
end Go.Proofs.Ytldpfleilffanaa.serverReplay
