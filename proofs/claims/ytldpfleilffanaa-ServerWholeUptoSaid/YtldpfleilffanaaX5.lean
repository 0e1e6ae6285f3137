/- The law ServerWhole is true of the program: its statement ServerWholeUptoSaid, in this seat's Rows. No condition. -/
import Derived.ChangeArms
import Derived.Test.YtldpfleilffanaaX4
namespace La
open Go Go.Eng Go.Proofs
set_option maxRecDepth 10000
set_option linter.unusedSimpArgs false
set_option linter.unusedVariables false

def jRow (j : JS) : List AV := [.sl (j.l.map nodeRow), .int .i64 j.next, .int .i64 j.version, .mp 25, .mp 26, .mp 27]
def jB (j : JS) : List (Nat × Blk) := [(29, .cells 194 6 [jRow j]), (27, .map (mB j.lost)), (26, .map (mB j.ours)), (25, .map (mI j.own))]
def jH (j : JS) (G Y N : Nat → Nat) : List (Nat × Blk) := jB j ++ pins [29, 25, 26, 27] G Y N
/-- with the box of who judges, that a closure holds -/
def jcH (j : JS) (G Y N : Nat → Nat) : List (Nat × Blk) := ([(2, .cells 192 1 [[.ptr 29 6 0 0]])] ++ jB j) ++ pins [29, 25, 26, 27, 2] G Y N
/-- with an act -/
def jaH (j : JS) (a : Act) (G Y N : Nat → Nat) : List (Nat × Blk) := ([(6, .cells 25 7 [actRow a])] ++ jB j) ++ pins [29, 25, 26, 27, 6] G Y N

/-- what is held is held still -/
def Holds (L H : List (Nat × Blk)) : Prop := ∀ i b, hget L i = some b → hget H i = some b
theorem holds_nil (H : List (Nat × Blk)) : Holds [] H := fun _ _ h => nomatch h
theorem holds_cons {L H : List (Nat × Blk)} {k : Nat} {B : Blk} (h : hget H k = some B) (hL : Holds L H) : Holds ((k, B) :: L) H := fun i b hb => by
  simp only [hget] at hb
  split at hb
  · rename_i e; subst e; rw [h]; exact hb
  · exact hL i b hb
theorem fid_ok (j : JS) (f : Int) (G Y N : Nat → Nat) : FnOK Try.prog 172 [.ptr 29 6 0 0, .int .i64 f] (jH j G Y N) (fun r H => r = .int .i64 (atF j.own f) ∧ Holds (jH j G Y N) H) := by
  unfold jH jB jRow atF
  refine fn_of_cwW tabOK (Go.Proofs.Try.func172) rfl (fun C => ?_)
  simp only [Go.Proofs.Try.ntmps172, Go.Proofs.Try.results172, go_sem]
  refine cw_goR 99 (by simp only [go_sem]; try exact rfl) ?_
  refine cw_runN tabOK 1 (by simp only [go_sem]; exact rfl) (by simp only [go_sem]; exact rfl) (by simp only [go_sem]; try exact rfl) (by simp [go_sem]) ?_
  refine cw_goR 99 (by simp only [go_sem]; try exact rfl) ?_
  refine cw_runN tabOK 5 (by simp only [go_sem]; exact rfl) (by simp only [go_sem]; exact rfl) (by simp only [go_sem]; try exact rfl) (by simp [go_sem]) ?_
  refine cw_go tabOK 99 (by simp only [go_sem]; try exact rfl) (by simp [go_sem]) ?_
  cases e : hasI j.own f with
  | true =>
    refine cw_condT (by simp only [go_sem]; try exact rfl) trivial (by simp [e]) ?_
    refine cw_go tabOK 99 (by simp only [go_sem]; try exact rfl) (by simp [go_sem]) ?_
    refine cw_ret ⟨_, _, (by simp only [go_sem]; try exact rfl), by simp [go_sem], _, .inr (.inl rfl), ?_⟩
    exact ⟨rfl, fun i b hb => hb⟩
  | false =>
    refine cw_condF (by simp only [go_sem]; try exact rfl) trivial (by simp [e]) ?_
    refine cw_go tabOK 99 (by simp only [go_sem]; try exact rfl) (by simp [go_sem]) ?_
    refine cw_ret ⟨_, _, (by simp only [go_sem]; try exact rfl), by simp [go_sem], _, .inr (.inl rfl), ?_⟩
    exact ⟨rfl, fun i b hb => hb⟩

theorem lost_ok (j : JS) (f : Int) (G Y N : Nat → Nat) : FnOK Try.prog 181 [.int .i64 f, .ptr 2 1 0 0] (jcH j G Y N) (fun r H => r = .bool (getB j.lost f) ∧ Holds (jcH j G Y N) H) := by
  unfold jcH jB jRow
  refine fn_of_cwW tabOK (Go.Proofs.Try.func181) rfl (fun C => ?_)
  simp only [Go.Proofs.Try.ntmps181, Go.Proofs.Try.results181, go_sem]
  refine cw_go tabOK 99 (by simp only [go_sem]; try exact rfl) (by simp [go_sem]) ?_
  refine cw_ret ⟨_, _, (by simp only [go_sem]; try exact rfl), by simp [go_sem], _, .inr (.inl rfl), ?_⟩
  exact ⟨rfl, fun i b hb => hb⟩

theorem lostIdx_ok (j : JS) (l : List Int) (hlen : l.length ≤ 100000000) (G Y N : Nat → Nat) : FnOK Try.prog 155 [.sl (l.map intRow), .fn 181 [.ptr 2 1 0 0]] (jcH j G Y N)
    (fun r H => r = .int .i64 (idxI (l.findIdx? (getB j.lost))) ∧ Holds (jcH j G Y N) H) := by
  unfold jcH jB jRow
  refine fn_of_cwW tabOK (Go.Proofs.Try.func155) rfl (fun C => ?_)
  simp only [Go.Proofs.Try.ntmps155, Go.Proofs.Try.results155, go_sem]
  refine cw_go tabOK 99 (by simp only [go_sem]; try exact rfl) (by simp [go_sem]) ?_
  refine cw_loopS (fun i : Nat => i ≤ l.length ∧ ∀ x, x ∈ l.take i → getB j.lost x = false) (fun i => l.length - i) (fun i => [(8, .int .i64 i), (5, .any), (9, .any), (10, .any), (11, .any), (12, .any), (13, .any), (14, .any), (15, .any), (16, .any), (17, .any), (18, .any)]) (fun _ => []) 0 ⟨by omega, by simp⟩ ?_ fun i hi => ?_
  · simp only [go_sem]
    exact le_sub (by simp [go_sem]) (by simp [go_sem]) (by simp [go_sem])
  obtain ⟨hi, hno⟩ := hi
  simp only [go_sem]
  refine cw_go tabOK 99 (by simp only [go_sem]; try exact rfl) (by simp [go_sem]) ?_
  refine cw_cond (by simp only [go_sem]; try exact rfl) trivial (fun h => ?_) (fun h => ?_)
  · have hlt : i < l.length := by simp at h; omega
    have hg : (l.map intRow).getD i [] = intRow (l.getD i default) := Fam.getD hlt
    have htk := take_succ_getD hlt
    have hgi : l[i]? = some (l.getD i default) := by rw [List.getD_eq_getElem?_getD, List.getElem?_eq_getElem hlt]; rfl
    have hc := lost_ok j (l.getD i default)
    unfold jcH jB jRow at hc
    generalize l.getD i default = n at hg htk hgi hc
    refine cw_go tabOK 99 (by simp only [go_sem, hg, intRow]; try exact rfl) ?_ ?_
    · simp [hlt, intRow]
    refine cw_step rfl (trip_callP rfl (by simp only [go_sem]; try exact rfl) (by simp [go_sem]) ⟨_, Go.Proofs.Try.func181, by kernel_rfl, rfl⟩ [29, 25, 26, 27, 2] (by simp only [go_sem, Bool.false_or, Bool.or_true, Bool.true_or, Bool.or_false, ↓reduceIte]; try exact rfl) (by simp [go_sem]) (by simp) (by simp [go_sem]) (by simp [go_sem]) (by simp [go_sem]) (hc) (by simp only [go_sem, Bool.false_or, Bool.or_true, Bool.true_or, Bool.or_false, ↓reduceIte]; exact rfl)) ?_
    refine cw_go tabOK 99 (by simp only [go_sem]; try exact rfl) (by simp [go_sem]) ?_
    refine cw_cond (by simp only [go_sem]; try exact rfl) trivial (fun h => ?_) (fun h => ?_)
    · refine cw_go tabOK 99 (by simp only [go_sem]; try exact rfl) (by simp [go_sem]) ?_
      refine cw_ret ⟨_, _, by simp only [go_sem]; try exact rfl, by simp [go_sem], _, .inr (.inl rfl), ?_, ?_⟩
      · rw [findIdx_at hgi hno h]; rfl
      · skip
        simp only [pins, List.cons_append, List.nil_append, List.map_cons, List.map_nil]
        repeat' refine holds_cons ?_ ?_
        all_goals first | exact holds_nil _ | rfl | simp [go_sem]
    · have hw : IntKind.i64.wrap ((i : Int) + 1) = (i : Int) + 1 := wrap_small (by omega) (by omega)
      refine cw_go tabOK 99 (by simp only [go_sem, hw]; try exact rfl) (by simp [go_sem, hw]) ?_
      refine cw_back ⟨i + 1, ⟨by omega, ?_⟩, by omega, le_sub ?_ ?_ ?_⟩
      · rw [htk]
        intro x hx
        rcases List.mem_append.1 hx with hx | hx
        · exact hno x hx
        · rw [List.mem_singleton.1 hx]; exact h
      · simp [go_sem]
      · simp [go_sem]
      · simp [go_sem]
  · have e : i = l.length := by simp at h; omega
    refine cw_go tabOK 99 (by simp only [go_sem]; try exact rfl) (by simp [go_sem]) ?_
    refine cw_ret ⟨_, _, by simp only [go_sem]; try exact rfl, by simp [go_sem], _, .inr (.inl rfl), ?_, ?_⟩
    · rw [e, List.take_length] at hno
      rw [List.findIdx?_eq_none_iff.2 hno]; rfl
    · skip
      simp only [pins, List.cons_append, List.nil_append, List.map_cons, List.map_nil]
      repeat' refine holds_cons ?_ ?_
      all_goals first | exact holds_nil _ | rfl | simp [go_sem]
theorem lostAny_ok (j : JS) (l : List Int) (hlen : l.length ≤ 100000000) (G Y N : Nat → Nat) : FnOK Try.prog 117 [.sl (l.map intRow), .fn 181 [.ptr 2 1 0 0]] (jcH j G Y N)
    (fun r H => r = .bool (l.any (getB j.lost)) ∧ Holds (jcH j G Y N) H) := by
  have hc := lostIdx_ok j l hlen
  unfold jcH jB jRow at hc ⊢
  refine fn_of_cwW tabOK (Go.Proofs.Try.func117) rfl (fun C => ?_)
  simp only [Go.Proofs.Try.ntmps117, Go.Proofs.Try.results117, go_sem]
  refine cw_go tabOK 99 (by simp only [go_sem]; try exact rfl) (by simp [go_sem]) ?_
  refine cw_step rfl (trip_callP rfl (by simp only [go_sem]; try exact rfl) (by simp [go_sem]) ⟨_, Go.Proofs.Try.func155, by kernel_rfl, rfl⟩ [29, 25, 26, 27, 2] (by simp only [go_sem, Bool.false_or, Bool.or_true, Bool.true_or, Bool.or_false, ↓reduceIte]; try exact rfl) (by simp [go_sem]) (by simp) (by simp [go_sem]) (by simp [go_sem]) (by simp [go_sem]) (hc) (by simp only [go_sem, Bool.false_or, Bool.or_true, Bool.true_or, Bool.or_false, ↓reduceIte]; exact rfl)) ?_
  refine cw_go tabOK 99 (by simp only [go_sem]; try exact rfl) (by simp [go_sem]) ?_
  refine cw_ret ⟨_, _, by simp only [go_sem]; try exact rfl, by simp [go_sem], _, .inr (.inl rfl), ?_, ?_⟩
  · rw [idxI_any]
  · skip
    simp only [pins, List.cons_append, List.nil_append, List.map_cons, List.map_nil]
    repeat' refine holds_cons ?_ ?_
    all_goals first | exact holds_nil _ | rfl | simp [go_sem]

theorem rests_ok (j : JS) (a : Act) (G Y N : Nat → Nat) : FnOK Try.prog 171 [.ptr 29 6 0 0, .ptr 6 7 0 0] (jaH j a G Y N) (fun r H => r = .bool (restsB j a) ∧ Holds (jaH j a G Y N) H) := by
  have hc := lostAny_ok j (fids a) (by have := fids_len a; omega)
  have hf := fids_ok a
  unfold restsB
  generalize (fids a).any (getB j.lost) = z at hc ⊢
  generalize fids a = l at hc hf
  unfold jcH jB jRow at hc
  unfold actRow at hf
  unfold jaH jB jRow actRow
  refine fn_of_cwW tabOK (Go.Proofs.Try.func171) rfl (fun C => ?_)
  simp only [Go.Proofs.Try.ntmps171, Go.Proofs.Try.results171, go_sem]
  refine cw_go tabOK 99 (by simp only [go_sem]; try exact rfl) (by simp [go_sem]) ?_
  refine cw_call rfl rfl (by simp only [go_sem]; try exact rfl) (by simp [go_sem]) ⟨_, Go.Proofs.Try.func99, by kernel_rfl, rfl⟩ (by simp [go_sem]) (hf) (by simp [go_sem]) (by simp only [go_sem]; exact rfl) ?_
  refine cw_go tabOK 99 (by simp only [go_sem]; try exact rfl) (by simp [go_sem]) ?_
  refine cw_step rfl (trip_callP rfl (by simp only [go_sem]; try exact rfl) (by simp [go_sem]) ⟨_, Go.Proofs.Try.func117, by kernel_rfl, rfl⟩ [29, 25, 26, 27, 2] (by simp only [go_sem, Bool.false_or, Bool.or_true, Bool.true_or, Bool.or_false, ↓reduceIte]; try exact rfl) (by simp [go_sem]) (by simp) (by simp [go_sem]) (by simp [go_sem]) (by simp [go_sem]) (hc) (by simp only [go_sem, Bool.false_or, Bool.or_true, Bool.true_or, Bool.or_false, ↓reduceIte]; exact rfl)) ?_
  refine cw_go tabOK 99 (by simp only [go_sem]; try exact rfl) (by simp [go_sem]) ?_
  refine cw_ret ⟨_, _, by simp only [go_sem]; try exact rfl, by simp [go_sem], _, .inr (.inl rfl), ?_, ?_⟩
  · rfl
  · skip
    simp only [pins, List.cons_append, List.nil_append, List.map_cons, List.map_nil]
    repeat' refine holds_cons ?_ ?_
    all_goals first | exact holds_nil _ | rfl | simp [go_sem]

set_option maxHeartbeats 1000000 in
theorem stale_ok (j : JS) (r : Rec) (a : Act) (hl : Small j.l) (G Y N : Nat → Nat) : FnOK Try.prog 173 [.ptr 29 6 0 0, .rp (recRow r) 0, .ptr 6 7 0 0] (jaH j a G Y N) (fun x H => x = .bool (staleB j r a) ∧ Holds (jaH j a G Y N) H) := by
  have hf := find_ok j.l a.fid hl
  unfold staleB
  unfold jaH jB jRow actRow recRow
  refine fn_of_cwW tabOK (Go.Proofs.Try.func173) rfl (fun C => ?_)
  simp only [Go.Proofs.Try.ntmps173, Go.Proofs.Try.results173, go_sem]
  refine cw_go tabOK 99 (by simp only [go_sem]; try exact rfl) (by simp [go_sem]) ?_
  refine cw_draw mixed ?_
  refine seg_start rfl ?_
  refine seg_runN tabOK 12 (by simp only [go_sem]; exact rfl) (by simp only [go_sem]; exact rfl) (by simp only [go_sem]; try exact rfl) (by simp [go_sem]) (by simp only [go_sem]; exact rfl) ?_
  refine seg_name 20 (by simp only [go_sem]; exact rfl) (fun c20 h20 => ?_)
  simp only [go_sem]
  refine seg_runN tabOK 7 (by simp only [go_sem]; exact rfl) (by simp only [go_sem]; exact rfl) (by simp only [go_sem]; try exact rfl) (by simp [go_sem]) (by simp only [go_sem]; exact rfl) ?_
  refine seg_name 27 (by simp only [go_sem]; exact rfl) (fun c27 h27 => ?_)
  simp only [go_sem]
  refine seg_run tabOK (by simp only [go_sem]; try exact rfl) (by simp [go_sem]) (by simp only [go_sem]; exact rfl) ?_
  refine seg_end (by kernel_rfl) (by simp only [go_sem]; exact rfl) ?_
  refine draw_close (by kernel_rfl) ?_
  try simp only [go_sem, List.getElem_toArray, List.getElem_cons_succ, List.getElem_cons_zero]
  refine cw_goR 99 (by simp only [go_sem]; try exact rfl) ?_
  refine cw_name 38 (by simp only [go_sem]; exact rfl) (fun c38 h38 => ?_)
  simp only [go_sem]
  have hst : (((a.kind ≠ 3 ∧ a.kind ≠ 4) ∨ r.version < 0) ∨ getB j.ours a.fid = true) ↔ c38 = true := by
    subst h38 h27 h20
    simp [cond_and, cond_or]
  clear h38 h27 h20
  cases c38 with
  | true =>
    rw [if_pos (hst.2 rfl)]
    refine cw_condT (by simp only [go_sem]; try exact rfl) trivial (rfl) ?_
    refine cw_go tabOK 99 (by simp only [go_sem]; try exact rfl) (by simp [go_sem]) ?_
    refine cw_ret ⟨_, _, by simp only [go_sem]; try exact rfl, by simp [go_sem], _, .inr (.inl rfl), ?_, ?_⟩
    · rfl
    · skip
      simp only [pins, List.cons_append, List.nil_append, List.map_cons, List.map_nil]
      repeat' refine holds_cons ?_ ?_
      all_goals first | exact holds_nil _ | rfl | simp [go_sem]
  | false =>
    rw [if_neg (fun h => nomatch hst.1 h)]
    refine cw_condF (by simp only [go_sem]; try exact rfl) trivial (rfl) ?_
    refine cw_go tabOK 99 (by simp only [go_sem]; try exact rfl) (by simp [go_sem]) ?_
    refine cw_draw mixed ?_
    refine seg_start rfl ?_
    refine seg_runN tabOK 8 (by simp only [go_sem]; exact rfl) (by simp only [go_sem]; exact rfl) (by simp only [go_sem]; try exact rfl) (by simp [go_sem]) (by simp only [go_sem]; exact rfl) ?_
    refine seg_call rfl rfl (by simp only [go_sem]; try exact rfl) (by simp [go_sem]) ⟨_, Go.Proofs.Try.func33, by kernel_rfl, rfl⟩ (by simp [go_sem]) (hf) (by simp [go_sem]) (by simp only [go_sem]; exact rfl) (by simp only [go_sem]; exact rfl) ?_
    simp only [go_sem, findR]
    rw [isAt_eq]
    cases findN j.l a.fid with
    | none =>
      simp only [Option.getD_none, Option.isSome_none]
      refine seg_run tabOK (by simp only [go_sem]; try exact rfl) (by simp [go_sem]) (by simp only [go_sem]; exact rfl) ?_
      refine seg_new tabOK rfl (by simp only [go_sem]; try exact rfl) (by simp only [go_sem]; try exact rfl) (by simp [go_sem]) (by simp only [go_sem]; try exact rfl) (by simp only [go_sem]; exact rfl) (by simp only [go_sem]; exact rfl) ?_
      simp only [go_sem, nodeRow, zeroN]
      refine seg_store tabOK rfl rfl (by simp only [go_sem]; try exact rfl) (by simp only [go_sem]; try exact rfl) (by simp only [go_sem]; try exact rfl) (by first | trivial | simp [go_sem]) (by simp only [go_sem]; exact rfl) (by simp [go_sem]) (by simp only [go_sem]; exact rfl) (by simp only [go_sem]; exact rfl) (by simp only [go_sem]; exact rfl) ?_
      refine seg_end (by kernel_rfl) (by simp only [go_sem]; exact rfl) ?_
      refine draw_step tabOK rfl (by kernel_rfl) rfl (by simp only [go_sem]; try exact rfl) (by simp [go_sem]) rfl ?_
      refine draw_close (by kernel_rfl) ?_
      try simp only [go_sem, List.getElem_toArray, List.getElem_cons_succ, List.getElem_cons_zero]
      refine cw_go tabOK 99 (by simp only [go_sem]; try exact rfl) (by simp [go_sem]) ?_
      refine cw_draw mixed ?_
      refine seg_start rfl ?_
      refine seg_run tabOK (by simp only [go_sem]; try exact rfl) (by simp [go_sem]) (by simp only [go_sem]; exact rfl) ?_
      refine seg_end (by kernel_rfl) (by simp only [go_sem]; exact rfl) ?_
      refine draw_close (by kernel_rfl) ?_
      try simp only [go_sem, List.getElem_toArray, List.getElem_cons_succ, List.getElem_cons_zero]
      refine cw_go tabOK 99 (by simp only [go_sem]; try exact rfl) (by simp [go_sem]) ?_
      refine cw_ret ⟨_, _, by simp only [go_sem]; try exact rfl, by simp [go_sem], _, .inr (.inl rfl), ?_, ?_⟩
      · rfl
      · skip
        simp only [pins, List.cons_append, List.nil_append, List.map_cons, List.map_nil]
        repeat' refine holds_cons ?_ ?_
        all_goals first | exact holds_nil _ | rfl | simp [go_sem]
    | some n =>
      simp only [Option.getD_some, Option.isSome_some]
      refine seg_run tabOK (by simp only [go_sem]; try exact rfl) (by simp [go_sem]) (by simp only [go_sem]; exact rfl) ?_
      refine seg_new tabOK rfl (by simp only [go_sem]; try exact rfl) (by simp only [go_sem]; try exact rfl) (by simp [go_sem]) (by simp only [go_sem]; try exact rfl) (by simp only [go_sem]; exact rfl) (by simp only [go_sem]; exact rfl) ?_
      simp only [go_sem, nodeRow]
      refine seg_store tabOK rfl rfl (by simp only [go_sem]; try exact rfl) (by simp only [go_sem]; try exact rfl) (by simp only [go_sem]; try exact rfl) (by first | trivial | simp [go_sem]) (by simp only [go_sem]; exact rfl) (by simp [go_sem]) (by simp only [go_sem]; exact rfl) (by simp only [go_sem]; exact rfl) (by simp only [go_sem]; exact rfl) ?_
      refine seg_end (by kernel_rfl) (by simp only [go_sem]; exact rfl) ?_
      refine draw_step tabOK rfl (by kernel_rfl) rfl (by simp only [go_sem]; try exact rfl) (by simp [go_sem]) rfl ?_
      refine draw_close (by kernel_rfl) ?_
      try simp only [go_sem, List.getElem_toArray, List.getElem_cons_succ, List.getElem_cons_zero]
      refine cw_go tabOK 99 (by simp only [go_sem]; try exact rfl) (by simp [go_sem]) ?_
      refine cw_draw mixed ?_
      refine seg_start rfl ?_
      refine seg_run tabOK (by simp only [go_sem]; try exact rfl) (by simp [go_sem]) (by simp only [go_sem]; exact rfl) ?_
      refine seg_end (by kernel_rfl) (by simp only [go_sem]; exact rfl) ?_
      refine draw_close (by kernel_rfl) ?_
      try simp only [go_sem, List.getElem_toArray, List.getElem_cons_succ, List.getElem_cons_zero]
      refine cw_go tabOK 99 (by simp only [go_sem]; try exact rfl) (by simp [go_sem]) ?_
      refine cw_ret ⟨_, _, by simp only [go_sem]; try exact rfl, by simp [go_sem], _, .inr (.inl rfl), ?_, ?_⟩
      · rfl
      · skip
        simp only [pins, List.cons_append, List.nil_append, List.map_cons, List.map_nil]
        repeat' refine holds_cons ?_ ?_
        all_goals first | exact holds_nil _ | rfl | simp [go_sem]
end La

namespace La
open Go Go.Eng Go.Proofs
set_option maxRecDepth 10000
set_option linter.unusedSimpArgs false
set_option linter.unusedVariables false

theorem one_rests {j : JS} {r : Rec} (h : restsB j r.act = true) : oneV j r = ⟨14, 0⟩ ∧ oneA j r = r.act ∧ oneJ j r = j := by
  simp [oneV, oneA, oneJ, oneE, h]
theorem one_form {j : JS} {r : Rec} (h : restsB j r.act = false) (h1 : madeB r.act = true) (h2 : hasI j.own r.act.fid = true ∨ r.act.fid ≥ 0) : oneV j r = ⟨2, 0⟩ ∧ oneA j r = r.act ∧ oneJ j r = j := by
  simp [oneV, oneA, oneJ, oneE, h, h1, h2]
theorem one_stale {j : JS} {r : Rec} (h : restsB j r.act = false) (h1 : ¬ (madeB r.act = true ∧ (hasI j.own r.act.fid = true ∨ r.act.fid ≥ 0))) (h2 : staleB { j with own := own1 j r } r (actJ j r) = true) :
    oneV j r = ⟨13, 0⟩ ∧ oneA j r = actJ j r ∧ oneJ j r = { j with own := own1 j r } := by
  simp [oneV, oneA, oneJ, oneE, h, h1, h2]
theorem one_err {j : JS} {r : Rec} (h : restsB j r.act = false) (h1 : ¬ (madeB r.act = true ∧ (hasI j.own r.act.fid = true ∨ r.act.fid ≥ 0))) (h2 : staleB { j with own := own1 j r } r (actJ j r) = false) (h3 : applyE j.l (actJ j r) ≠ 0) :
    oneV j r = ⟨applyE j.l (actJ j r), 0⟩ ∧ oneA j r = actJ j r ∧ oneJ j r = { j with own := if madeB r.act = true then mdel (own1 j r) r.act.fid else own1 j r } := by
  simp [oneV, oneA, oneJ, oneE, h, h1, h2, h3]
theorem one_done {j : JS} {r : Rec} (h : restsB j r.act = false) (h1 : ¬ (madeB r.act = true ∧ (hasI j.own r.act.fid = true ∨ r.act.fid ≥ 0))) (h2 : staleB { j with own := own1 j r } r (actJ j r) = false) (h3 : applyE j.l (actJ j r) = 0) :
    oneV j r = ⟨0, (actJ j r).fid⟩ ∧ oneA j r = actJ j r ∧ oneJ j r = { j with l := applyL j.l (actJ j r) j.version, next := if madeB r.act = true then j.next + 1 else j.next, version := j.version + 1, own := own1 j r } := by
  simp [oneV, oneA, oneJ, oneE, h, h1, h2, h3]

set_option maxHeartbeats 2000000 in
theorem one_ok (j : JS) (r : Rec) (hg : Good j.l) (hr : ActFit r.act) (hn : j.next.natAbs ≤ 90000000) (hv : j.version.natAbs ≤ 90000000) (G Y N : Nat → Nat) : FnOK Try.prog 156 [.ptr 29 6 0 0, .rp (recRow r) 0] (jH j G Y N)
    (fun x H => x = .tup [.agg (verdictRow (oneV j r)), .agg (actRow (oneA j r))] ∧ Holds (jH (oneJ j r) G Y N) H) := by
  have how := acts_own r.act hr.data
  have hre := rests_ok j r.act
  have q0 := @one_rests j r
  have q1 := @one_form j r
  have q2 := @one_stale j r
  have q3 := @one_err j r
  have q4 := @one_done j r
  have hfid : ∀ f (G Y N : Nat → Nat), FnOK Try.prog 172 [.ptr 29 6 0 0, .int .i64 f] (jH { j with own := own1 j r } G Y N) (fun x H => x = .int .i64 (atF (own1 j r) f) ∧ Holds (jH { j with own := own1 j r } G Y N) H) := fun f => fid_ok { j with own := own1 j r } f
  unfold jH jB jRow at hfid
  simp only at hfid
  have hst := stale_ok { j with own := own1 j r } r (actJ j r) hg.small
  have hap := apply_good hg (actJ j r) j.version (actJ_fit hr)
  have hwn : IntKind.i64.wrap (j.next + 1) = j.next + 1 := Eng.wrap_small (by omega) (by omega)
  have hwv : IntKind.i64.wrap (j.version + 1) = j.version + 1 := Eng.wrap_small (by omega) (by omega)
  unfold jaH jB jRow at hst
  unfold applyR at hap
  generalize staleB { j with own := own1 j r } r (actJ j r) = st at *
  generalize applyE j.l (actJ j r) = E at *
  generalize applyL j.l (actJ j r) j.version = L at *
  simp only [actRow, actJ] at hst hap
  generalize oneV j r = V at *
  generalize oneA j r = A at *
  generalize oneJ j r = J at *
  unfold jaH jB jRow actRow at hre
  unfold actRow at how
  unfold jH jB jRow recRow
  refine fn_of_cwW tabOK (Go.Proofs.Try.func156) rfl (fun C => ?_)
  simp only [Go.Proofs.Try.ntmps156, Go.Proofs.Try.results156, go_sem]
  refine cw_go tabOK 99 (by simp only [go_sem]; try exact rfl) (by simp [go_sem]) ?_
  refine cw_call rfl rfl (by simp only [go_sem]; try exact rfl) (by simp [go_sem]) ⟨_, Go.Proofs.Try.func72, by kernel_rfl, rfl⟩ (by simp [go_sem]) (how) (by simp [go_sem]) (by simp only [go_sem]; exact rfl) ?_
  refine cw_go tabOK 99 (by simp only [go_sem]; try exact rfl) (by simp [go_sem]) ?_
  refine cw_step rfl (trip_callP rfl (by simp only [go_sem]; try exact rfl) (by simp [go_sem]) ⟨_, Go.Proofs.Try.func171, by kernel_rfl, rfl⟩ [29, 25, 26, 27, 6] (by simp only [go_sem, Bool.false_or, Bool.or_true, Bool.true_or, Bool.or_false, ↓reduceIte]; try exact rfl) (by simp [go_sem]) (by simp) (by simp [go_sem]) (by simp [go_sem]) (by simp [go_sem]) (hre) (by simp only [go_sem, Bool.false_or, Bool.or_true, Bool.true_or, Bool.or_false, ↓reduceIte]; exact rfl)) ?_
  cases h0 : restsB j r.act with
  | true =>
    obtain ⟨e1, e2, e3⟩ := q0 h0
    refine cw_go tabOK 99 (by simp only [go_sem]; try exact rfl) (by simp [go_sem]) ?_
    refine cw_condT (by simp only [go_sem]; try exact rfl) trivial (rfl) ?_
    refine cw_go tabOK 99 (by simp only [go_sem]; try exact rfl) (by simp [go_sem]) ?_
    refine cw_draw mixed ?_
    refine seg_start rfl ?_
    refine seg_build tabOK rfl (by simp only [go_sem]; try exact rfl) (by simp only [go_sem]; try exact rfl) (by simp [go_sem]) (by simp only [go_sem, cond_true, cond_false]; exact rfl) (by simp only [go_sem]; exact rfl) (by simp only [go_sem]; exact rfl) ?_
    refine seg_runN tabOK 1 (by simp only [go_sem]; exact rfl) (by simp only [go_sem]; exact rfl) (by simp only [go_sem]; try exact rfl) (by simp [go_sem]) (by simp only [go_sem]; exact rfl) ?_
    refine seg_store tabOK rfl rfl (by simp only [go_sem]; try exact rfl) (by simp only [go_sem]; try exact rfl) (by simp only [go_sem]; try exact rfl) (by first | trivial | simp [go_sem]) (by simp only [go_sem]; exact rfl) (by simp [go_sem]) (by simp only [go_sem]; exact rfl) (by simp only [go_sem]; exact rfl) (by simp only [go_sem]; exact rfl) ?_
    refine seg_store tabOK rfl rfl (by simp only [go_sem]; try exact rfl) (by simp only [go_sem]; try exact rfl) (by simp only [go_sem]; try exact rfl) (by first | trivial | simp [go_sem]) (by simp only [go_sem]; exact rfl) (by simp [go_sem]) (by simp only [go_sem]; exact rfl) (by simp only [go_sem]; exact rfl) (by simp only [go_sem]; exact rfl) ?_
    refine seg_end (by kernel_rfl) (by simp only [go_sem]; exact rfl) ?_
    refine draw_close (by kernel_rfl) ?_
    try simp only [go_sem, List.getElem_toArray, List.getElem_cons_succ, List.getElem_cons_zero]
    refine cw_go tabOK 99 (by simp only [go_sem]; try exact rfl) (by simp [go_sem]) ?_
    refine cw_ret ⟨_, _, by simp only [go_sem]; try exact rfl, by simp [go_sem], _, .inr (.inl rfl), ?_, ?_⟩
    · simp [verdictRow, actRow, e1, e2]
    · rw [e3]
      simp only [pins, List.cons_append, List.nil_append, List.map_cons, List.map_nil]
      repeat' refine holds_cons ?_ ?_
      all_goals first | exact holds_nil _ | rfl | simp [go_sem]
  | false =>
    clear q0
    refine cw_go tabOK 99 (by simp only [go_sem]; try exact rfl) (by simp [go_sem]) ?_
    refine cw_condF (by simp only [go_sem]; try exact rfl) trivial (rfl) ?_
    refine cw_goR 99 (by simp only [go_sem]; try exact rfl) ?_
    refine cw_runN tabOK 8 (by simp only [go_sem]; exact rfl) (by simp only [go_sem]; exact rfl) (by simp only [go_sem]; try exact rfl) (by simp [go_sem]) ?_
    refine cw_name 28 (by simp only [go_sem]; exact rfl) (fun c28 h28 => ?_)
    simp only [go_sem]
    have h28' : c28 = madeB r.act := by rw [← h28, cond_or]; rfl
    clear h28
    subst h28'
    refine cw_go tabOK 99 (by simp only [go_sem]; try exact rfl) (by simp [go_sem]) ?_
    cases h1 : madeB r.act with
    | true =>
      refine cw_condT (by simp only [go_sem]; try exact rfl) trivial (rfl) ?_
      refine cw_go tabOK 99 (by simp only [go_sem]; try exact rfl) (by simp [go_sem]) ?_
      refine cw_draw mixed ?_
      refine seg_start rfl ?_
      refine seg_run tabOK (by simp only [go_sem]; try exact rfl) (by simp [go_sem]) (by simp only [go_sem]; exact rfl) ?_
      refine seg_end (by kernel_rfl) (by simp only [go_sem]; exact rfl) ?_
      refine draw_close (by kernel_rfl) ?_
      try simp only [go_sem, List.getElem_toArray, List.getElem_cons_succ, List.getElem_cons_zero]
      refine cw_go tabOK 99 (by simp only [go_sem]; try exact rfl) (by simp [go_sem]) ?_
      cases h2 : (hasI j.own r.act.fid || decide (r.act.fid ≥ 0)) with
      | true =>
        obtain ⟨e1, e2, e3⟩ := q1 h0 h1 (by simpa using h2)
        refine cw_condT (by simp only [go_sem]; try exact rfl) trivial (by simpa [cond_or] using h2) ?_
        refine cw_go tabOK 99 (by simp only [go_sem]; try exact rfl) (by simp [go_sem]) ?_
        refine cw_draw mixed ?_
        refine seg_start rfl ?_
        refine seg_build tabOK rfl (by simp only [go_sem]; try exact rfl) (by simp only [go_sem]; try exact rfl) (by simp [go_sem]) (by simp only [go_sem, cond_true, cond_false]; exact rfl) (by simp only [go_sem]; exact rfl) (by simp only [go_sem]; exact rfl) ?_
        refine seg_runN tabOK 1 (by simp only [go_sem]; exact rfl) (by simp only [go_sem]; exact rfl) (by simp only [go_sem]; try exact rfl) (by simp [go_sem]) (by simp only [go_sem]; exact rfl) ?_
        refine seg_store tabOK rfl rfl (by simp only [go_sem]; try exact rfl) (by simp only [go_sem]; try exact rfl) (by simp only [go_sem]; try exact rfl) (by first | trivial | simp [go_sem]) (by simp only [go_sem]; exact rfl) (by simp [go_sem]) (by simp only [go_sem]; exact rfl) (by simp only [go_sem]; exact rfl) (by simp only [go_sem]; exact rfl) ?_
        refine seg_store tabOK rfl rfl (by simp only [go_sem]; try exact rfl) (by simp only [go_sem]; try exact rfl) (by simp only [go_sem]; try exact rfl) (by first | trivial | simp [go_sem]) (by simp only [go_sem]; exact rfl) (by simp [go_sem]) (by simp only [go_sem]; exact rfl) (by simp only [go_sem]; exact rfl) (by simp only [go_sem]; exact rfl) ?_
        refine seg_end (by kernel_rfl) (by simp only [go_sem]; exact rfl) ?_
        refine draw_close (by kernel_rfl) ?_
        try simp only [go_sem, List.getElem_toArray, List.getElem_cons_succ, List.getElem_cons_zero]
        refine cw_go tabOK 99 (by simp only [go_sem]; try exact rfl) (by simp [go_sem]) ?_
        refine cw_ret ⟨_, _, by simp only [go_sem]; try exact rfl, by simp [go_sem], _, .inr (.inl rfl), ?_, ?_⟩
        · simp [verdictRow, actRow, e1, e2]
        · rw [e3]
          simp only [pins, List.cons_append, List.nil_append, List.map_cons, List.map_nil]
          repeat' refine holds_cons ?_ ?_
          all_goals first | exact holds_nil _ | rfl | simp [go_sem]
      | false =>
        refine cw_condF (by simp only [go_sem]; try exact rfl) trivial (by simpa [cond_or] using h2) ?_
        refine cw_go tabOK 99 (by simp only [go_sem]; try exact rfl) (by simp [go_sem]) ?_
        refine cw_draw mixed ?_
        refine seg_start rfl ?_
        refine seg_runN tabOK 10 (by simp only [go_sem]; exact rfl) (by simp only [go_sem]; exact rfl) (by simp only [go_sem]; try exact rfl) (by simp [go_sem]) (by simp only [go_sem]; exact rfl) ?_
        refine seg_end (by kernel_rfl) (by simp only [go_sem]; exact rfl) ?_
        refine draw_step tabOK rfl (by kernel_rfl) rfl (by simp only [go_sem]; try exact rfl) (by simp [go_sem]) rfl ?_
        refine draw_close (by kernel_rfl) ?_
        try simp only [go_sem, List.getElem_toArray, List.getElem_cons_succ, List.getElem_cons_zero]
        refine cw_go tabOK 99 (by simp only [go_sem]; try exact rfl) (by simp [go_sem]) ?_
        have ho : own1 j r = mput j.own r.act.fid j.next := by unfold own1; rw [if_pos h1]
        rw [← ho]
        have hnf : ¬ (madeB r.act = true ∧ (hasI j.own r.act.fid = true ∨ r.act.fid ≥ 0)) := fun hh => by
          have := hh.2
          simp only [Bool.or_eq_false_iff, decide_eq_false_iff_not] at h2
          rcases this with h | h
          · rw [h2.1] at h; cases h
          · exact h2.2 h
        clear h2
        have hk5 : ¬ r.act.kind = 5 := fun e => by simp [madeB, e] at h1
        have hT : (if r.act.kind = 5 then atF (own1 j r) r.act.to else r.act.to) = r.act.to := if_neg hk5
        rw [hT] at hst hap
        -- the fids as they are here
        refine cw_draw mixed ?_
        refine seg_start rfl ?_
        refine seg_runN tabOK 3 (by simp only [go_sem]; exact rfl) (by simp only [go_sem]; exact rfl) (by simp only [go_sem]; try exact rfl) (by simp [go_sem]) (by simp only [go_sem]; exact rfl) ?_
        refine seg_callK rfl rfl (by simp only [go_sem]; try exact rfl) (by simp [go_sem]) ⟨_, Go.Proofs.Try.func172, by kernel_rfl, rfl⟩ [29, 25, 26, 27] (by simp only [go_sem, Bool.false_or, Bool.or_true, Bool.true_or, Bool.or_false, ↓reduceIte]; try exact rfl) (by simp [go_sem]) (by simp) (by simp [go_sem]) (by simp [go_sem]) (hfid r.act.fid) (by simp only [go_sem]; exact rfl) (by simp only [go_sem, Bool.false_or, Bool.or_true, Bool.true_or, Bool.or_false, ↓reduceIte]; exact rfl) ?_
        refine seg_runN tabOK 3 (by simp only [go_sem]; exact rfl) (by simp only [go_sem]; exact rfl) (by simp only [go_sem]; try exact rfl) (by simp [go_sem]) (by simp only [go_sem]; exact rfl) ?_
        refine seg_callK rfl rfl (by simp only [go_sem]; try exact rfl) (by simp [go_sem]) ⟨_, Go.Proofs.Try.func172, by kernel_rfl, rfl⟩ [29, 25, 26, 27] (by simp only [go_sem, Bool.false_or, Bool.or_true, Bool.true_or, Bool.or_false, ↓reduceIte]; try exact rfl) (by simp [go_sem]) (by simp) (by simp [go_sem]) (by simp [go_sem]) (hfid r.act.dir) (by simp only [go_sem]; exact rfl) (by simp only [go_sem, Bool.false_or, Bool.or_true, Bool.true_or, Bool.or_false, ↓reduceIte]; exact rfl) ?_
        refine seg_runN tabOK 1 (by simp only [go_sem]; exact rfl) (by simp only [go_sem]; exact rfl) (by simp only [go_sem]; try exact rfl) (by simp [go_sem]) (by simp only [go_sem]; exact rfl) ?_
        refine seg_store tabOK rfl rfl (by simp only [go_sem]; try exact rfl) (by simp only [go_sem]; try exact rfl) (by simp only [go_sem]; try exact rfl) (by first | trivial | simp [go_sem]) (by simp only [go_sem]; exact rfl) (by simp [go_sem]) (by simp only [go_sem]; exact rfl) (by simp only [go_sem]; exact rfl) (by simp only [go_sem]; exact rfl) ?_
        refine seg_runN tabOK 1 (by simp only [go_sem]; exact rfl) (by simp only [go_sem]; exact rfl) (by simp only [go_sem]; try exact rfl) (by simp [go_sem]) (by simp only [go_sem]; exact rfl) ?_
        refine seg_store tabOK rfl rfl (by simp only [go_sem]; try exact rfl) (by simp only [go_sem]; try exact rfl) (by simp only [go_sem]; try exact rfl) (by first | trivial | simp [go_sem]) (by simp only [go_sem]; exact rfl) (by simp [go_sem]) (by simp only [go_sem]; exact rfl) (by simp only [go_sem]; exact rfl) (by simp only [go_sem]; exact rfl) ?_
        refine seg_end (by kernel_rfl) (by simp only [go_sem]; exact rfl) ?_
        refine draw_close (by kernel_rfl) ?_
        try simp only [go_sem, List.getElem_toArray, List.getElem_cons_succ, List.getElem_cons_zero]
        refine cw_go tabOK 99 (by simp only [go_sem]; try exact rfl) (by simp [go_sem]) ?_
        refine cw_condF (by simp only [go_sem]; try exact rfl) trivial (by simp [hk5]) ?_
        refine cw_go tabOK 99 (by simp only [go_sem]; try exact rfl) (by simp [go_sem]) ?_
        refine cw_step rfl (trip_callP rfl (by simp only [go_sem]; try exact rfl) (by simp [go_sem]) ⟨_, Go.Proofs.Try.func173, by kernel_rfl, rfl⟩ [29, 25, 26, 27, 6] (by simp only [go_sem, Bool.false_or, Bool.or_true, Bool.true_or, Bool.or_false, ↓reduceIte]; try exact rfl) (by simp [go_sem]) (by simp) (by simp [go_sem]) (by simp [go_sem]) (by simp [go_sem]) (hst) (by simp only [go_sem, Bool.false_or, Bool.or_true, Bool.true_or, Bool.or_false, ↓reduceIte]; exact rfl)) ?_
        refine cw_go tabOK 99 (by simp only [go_sem]; try exact rfl) (by simp [go_sem]) ?_
        cases st with
        | true =>
          obtain ⟨e1, e2, e3⟩ := q2 h0 hnf rfl
          refine cw_condT (by simp only [go_sem]; try exact rfl) trivial (rfl) ?_
          refine cw_go tabOK 99 (by simp only [go_sem]; try exact rfl) (by simp [go_sem]) ?_
          refine cw_draw mixed ?_
          refine seg_start rfl ?_
          refine seg_build tabOK rfl (by simp only [go_sem]; try exact rfl) (by simp only [go_sem]; try exact rfl) (by simp [go_sem]) (by simp only [go_sem, cond_true, cond_false]; exact rfl) (by simp only [go_sem]; exact rfl) (by simp only [go_sem]; exact rfl) ?_
          refine seg_runN tabOK 1 (by simp only [go_sem]; exact rfl) (by simp only [go_sem]; exact rfl) (by simp only [go_sem]; try exact rfl) (by simp [go_sem]) (by simp only [go_sem]; exact rfl) ?_
          refine seg_store tabOK rfl rfl (by simp only [go_sem]; try exact rfl) (by simp only [go_sem]; try exact rfl) (by simp only [go_sem]; try exact rfl) (by first | trivial | simp [go_sem]) (by simp only [go_sem]; exact rfl) (by simp [go_sem]) (by simp only [go_sem]; exact rfl) (by simp only [go_sem]; exact rfl) (by simp only [go_sem]; exact rfl) ?_
          refine seg_store tabOK rfl rfl (by simp only [go_sem]; try exact rfl) (by simp only [go_sem]; try exact rfl) (by simp only [go_sem]; try exact rfl) (by first | trivial | simp [go_sem]) (by simp only [go_sem]; exact rfl) (by simp [go_sem]) (by simp only [go_sem]; exact rfl) (by simp only [go_sem]; exact rfl) (by simp only [go_sem]; exact rfl) ?_
          refine seg_end (by kernel_rfl) (by simp only [go_sem]; exact rfl) ?_
          refine draw_close (by kernel_rfl) ?_
          try simp only [go_sem, List.getElem_toArray, List.getElem_cons_succ, List.getElem_cons_zero]
          refine cw_go tabOK 99 (by simp only [go_sem]; try exact rfl) (by simp [go_sem]) ?_
          refine cw_ret ⟨_, _, by simp only [go_sem]; try exact rfl, by simp [go_sem], _, .inr (.inl rfl), ?_, ?_⟩
          · simp [verdictRow, actRow, e1, e2, actJ, hk5]
          · rw [e3]
            simp only [pins, List.cons_append, List.nil_append, List.map_cons, List.map_nil]
            repeat' refine holds_cons ?_ ?_
            all_goals first | exact holds_nil _ | rfl | simp [go_sem]
        | false =>
          refine cw_condF (by simp only [go_sem]; try exact rfl) trivial (rfl) ?_
          refine cw_go tabOK 99 (by simp only [go_sem]; try exact rfl) (by simp [go_sem]) ?_
          by_cases hE : E = 0
          · obtain ⟨e1, e2, e3⟩ := q4 h0 hnf rfl hE
            subst hE
            rw [h1] at e3
            simp only [if_true, Bool.false_eq_true, if_false] at hap e3
            refine cw_draw mixed ?_
            refine seg_start rfl ?_
            refine seg_runN tabOK 9 (by simp only [go_sem]; exact rfl) (by simp only [go_sem]; exact rfl) (by simp only [go_sem]; try exact rfl) (by simp [go_sem]) (by simp only [go_sem]; exact rfl) ?_
            refine seg_call rfl rfl (by simp only [go_sem]; try exact rfl) (by simp [go_sem]) ⟨_, Go.Proofs.Try.func40, by kernel_rfl, rfl⟩ (by simp [go_sem]) (hap) (by simp [go_sem]) (by simp only [go_sem]; exact rfl) (by simp only [go_sem]; exact rfl) ?_
            refine seg_run tabOK (by simp only [go_sem]; try exact rfl) (by simp [go_sem]) (by simp only [go_sem]; exact rfl) ?_
            refine seg_end (by kernel_rfl) (by simp only [go_sem]; exact rfl) ?_
            refine draw_close (by kernel_rfl) ?_
            try simp only [go_sem, List.getElem_toArray, List.getElem_cons_succ, List.getElem_cons_zero]
            refine cw_go tabOK 99 (by simp only [go_sem]; try exact rfl) (by simp [go_sem]) ?_
            refine cw_condF (by simp only [go_sem]; try exact rfl) trivial (by simp) ?_
            refine cw_go tabOK 99 (by simp only [go_sem, hwn, hwv]; try exact rfl) (by simp [go_sem, hwn, hwv]) ?_
            refine cw_condT (by simp only [go_sem]; try exact rfl) trivial (by simp) ?_
            refine cw_go tabOK 99 (by simp only [go_sem, hwn, hwv]; try exact rfl) (by simp [go_sem, hwn, hwv]) ?_
            refine cw_draw mixed ?_
            refine seg_start rfl ?_
            refine seg_runN tabOK 2 (by simp only [go_sem]; exact rfl) (by simp only [go_sem]; exact rfl) (by simp only [go_sem]; try exact rfl) (by simp [go_sem]) (by simp only [go_sem]; exact rfl) ?_
            refine seg_build tabOK rfl (by simp only [go_sem]; try exact rfl) (by simp only [go_sem]; try exact rfl) (by simp [go_sem]) (by simp only [go_sem, cond_true, cond_false]; exact rfl) (by simp only [go_sem]; exact rfl) (by simp only [go_sem]; exact rfl) ?_
            refine seg_runN tabOK 1 (by simp only [go_sem]; exact rfl) (by simp only [go_sem]; exact rfl) (by simp only [go_sem]; try exact rfl) (by simp [go_sem]) (by simp only [go_sem]; exact rfl) ?_
            refine seg_store tabOK rfl rfl (by simp only [go_sem]; try exact rfl) (by simp only [go_sem]; try exact rfl) (by simp only [go_sem]; try exact rfl) (by first | trivial | simp [go_sem]) (by simp only [go_sem]; exact rfl) (by simp [go_sem]) (by simp only [go_sem]; exact rfl) (by simp only [go_sem]; exact rfl) (by simp only [go_sem]; exact rfl) ?_
            refine seg_store tabOK rfl rfl (by simp only [go_sem]; try exact rfl) (by simp only [go_sem]; try exact rfl) (by simp only [go_sem]; try exact rfl) (by first | trivial | simp [go_sem]) (by simp only [go_sem]; exact rfl) (by simp [go_sem]) (by simp only [go_sem]; exact rfl) (by simp only [go_sem]; exact rfl) (by simp only [go_sem]; exact rfl) ?_
            refine seg_end (by kernel_rfl) (by simp only [go_sem]; exact rfl) ?_
            refine draw_close (by kernel_rfl) ?_
            try simp only [go_sem, List.getElem_toArray, List.getElem_cons_succ, List.getElem_cons_zero]
            refine cw_go tabOK 99 (by simp only [go_sem]; try exact rfl) (by simp [go_sem]) ?_
            refine cw_ret ⟨_, _, by simp only [go_sem]; try exact rfl, by simp [go_sem], _, .inr (.inl rfl), ?_, ?_⟩
            · simp [verdictRow, actRow, e1, e2, actJ, hk5]
            · rw [e3]
              simp only [pins, List.cons_append, List.nil_append, List.map_cons, List.map_nil]
              repeat' refine holds_cons ?_ ?_
              all_goals first | exact holds_nil _ | rfl | simp [go_sem]
          · obtain ⟨e1, e2, e3⟩ := q3 h0 hnf rfl hE
            rw [h1] at e3
            simp only [hE, if_true, Bool.false_eq_true, if_false] at hap e3
            refine cw_draw mixed ?_
            refine seg_start rfl ?_
            refine seg_runN tabOK 9 (by simp only [go_sem]; exact rfl) (by simp only [go_sem]; exact rfl) (by simp only [go_sem]; try exact rfl) (by simp [go_sem]) (by simp only [go_sem]; exact rfl) ?_
            refine seg_call rfl rfl (by simp only [go_sem]; try exact rfl) (by simp [go_sem]) ⟨_, Go.Proofs.Try.func40, by kernel_rfl, rfl⟩ (by simp [go_sem]) (hap) (by simp [go_sem]) (by simp only [go_sem]; exact rfl) (by simp only [go_sem]; exact rfl) ?_
            refine seg_run tabOK (by simp only [go_sem]; try exact rfl) (by simp [go_sem]) (by simp only [go_sem]; exact rfl) ?_
            refine seg_end (by kernel_rfl) (by simp only [go_sem]; exact rfl) ?_
            refine draw_close (by kernel_rfl) ?_
            try simp only [go_sem, List.getElem_toArray, List.getElem_cons_succ, List.getElem_cons_zero]
            refine cw_go tabOK 99 (by simp only [go_sem]; try exact rfl) (by simp [go_sem]) ?_
            refine cw_condT (by simp only [go_sem]; try exact rfl) trivial (by simp [hE]) ?_
            refine cw_go tabOK 99 (by simp only [go_sem]; try exact rfl) (by simp [go_sem]) ?_
            refine cw_condT (by simp only [go_sem]; try exact rfl) trivial (by simp) ?_
            refine cw_go tabOK 99 (by simp only [go_sem]; try exact rfl) (by simp [go_sem]) ?_
            refine cw_draw mixed ?_
            refine seg_start rfl ?_
            refine seg_runN tabOK 9 (by simp only [go_sem]; exact rfl) (by simp only [go_sem]; exact rfl) (by simp only [go_sem]; try exact rfl) (by simp [go_sem]) (by simp only [go_sem]; exact rfl) ?_
            refine seg_end (by kernel_rfl) (by simp only [go_sem]; exact rfl) ?_
            refine draw_step tabOK rfl (by kernel_rfl) rfl (by simp only [go_sem]; try exact rfl) (by simp [go_sem]) rfl ?_
            refine draw_close (by kernel_rfl) ?_
            try simp only [go_sem, List.getElem_toArray, List.getElem_cons_succ, List.getElem_cons_zero]
            refine cw_go tabOK 99 (by simp only [go_sem]; try exact rfl) (by simp [go_sem]) ?_
            refine cw_draw mixed ?_
            refine seg_start rfl ?_
            refine seg_runN tabOK 1 (by simp only [go_sem]; exact rfl) (by simp only [go_sem]; exact rfl) (by simp only [go_sem]; try exact rfl) (by simp [go_sem]) (by simp only [go_sem]; exact rfl) ?_
            refine seg_build tabOK rfl (by simp only [go_sem]; try exact rfl) (by simp only [go_sem]; try exact rfl) (by simp [go_sem]) (by simp only [go_sem, cond_true, cond_false]; exact rfl) (by simp only [go_sem]; exact rfl) (by simp only [go_sem]; exact rfl) ?_
            refine seg_runN tabOK 1 (by simp only [go_sem]; exact rfl) (by simp only [go_sem]; exact rfl) (by simp only [go_sem]; try exact rfl) (by simp [go_sem]) (by simp only [go_sem]; exact rfl) ?_
            refine seg_store tabOK rfl rfl (by simp only [go_sem]; try exact rfl) (by simp only [go_sem]; try exact rfl) (by simp only [go_sem]; try exact rfl) (by first | trivial | simp [go_sem]) (by simp only [go_sem]; exact rfl) (by simp [go_sem]) (by simp only [go_sem]; exact rfl) (by simp only [go_sem]; exact rfl) (by simp only [go_sem]; exact rfl) ?_
            refine seg_store tabOK rfl rfl (by simp only [go_sem]; try exact rfl) (by simp only [go_sem]; try exact rfl) (by simp only [go_sem]; try exact rfl) (by first | trivial | simp [go_sem]) (by simp only [go_sem]; exact rfl) (by simp [go_sem]) (by simp only [go_sem]; exact rfl) (by simp only [go_sem]; exact rfl) (by simp only [go_sem]; exact rfl) ?_
            refine seg_end (by kernel_rfl) (by simp only [go_sem]; exact rfl) ?_
            refine draw_close (by kernel_rfl) ?_
            try simp only [go_sem, List.getElem_toArray, List.getElem_cons_succ, List.getElem_cons_zero]
            refine cw_go tabOK 99 (by simp only [go_sem]; try exact rfl) (by simp [go_sem]) ?_
            refine cw_ret ⟨_, _, by simp only [go_sem]; try exact rfl, by simp [go_sem], _, .inr (.inl rfl), ?_, ?_⟩
            · simp [verdictRow, actRow, e1, e2, actJ, hk5]
            · rw [e3]
              simp only [pins, List.cons_append, List.nil_append, List.map_cons, List.map_nil]
              repeat' refine holds_cons ?_ ?_
              all_goals first | exact holds_nil _ | rfl | simp [go_sem]
    | false =>
      refine cw_condF (by simp only [go_sem]; try exact rfl) trivial (rfl) ?_
      refine cw_go tabOK 99 (by simp only [go_sem]; try exact rfl) (by simp [go_sem]) ?_
      have ho : own1 j r = j.own := by unfold own1; rw [h1]; rfl
      have hnf : ¬ (madeB r.act = true ∧ (hasI j.own r.act.fid = true ∨ r.act.fid ≥ 0)) := fun hh => by rw [h1] at hh; cases hh.1
      rw [← ho]
      -- the fids as they are here
      refine cw_draw mixed ?_
      refine seg_start rfl ?_
      refine seg_runN tabOK 3 (by simp only [go_sem]; exact rfl) (by simp only [go_sem]; exact rfl) (by simp only [go_sem]; try exact rfl) (by simp [go_sem]) (by simp only [go_sem]; exact rfl) ?_
      refine seg_callK rfl rfl (by simp only [go_sem]; try exact rfl) (by simp [go_sem]) ⟨_, Go.Proofs.Try.func172, by kernel_rfl, rfl⟩ [29, 25, 26, 27] (by simp only [go_sem, Bool.false_or, Bool.or_true, Bool.true_or, Bool.or_false, ↓reduceIte]; try exact rfl) (by simp [go_sem]) (by simp) (by simp [go_sem]) (by simp [go_sem]) (hfid r.act.fid) (by simp only [go_sem]; exact rfl) (by simp only [go_sem, Bool.false_or, Bool.or_true, Bool.true_or, Bool.or_false, ↓reduceIte]; exact rfl) ?_
      refine seg_runN tabOK 3 (by simp only [go_sem]; exact rfl) (by simp only [go_sem]; exact rfl) (by simp only [go_sem]; try exact rfl) (by simp [go_sem]) (by simp only [go_sem]; exact rfl) ?_
      refine seg_callK rfl rfl (by simp only [go_sem]; try exact rfl) (by simp [go_sem]) ⟨_, Go.Proofs.Try.func172, by kernel_rfl, rfl⟩ [29, 25, 26, 27] (by simp only [go_sem, Bool.false_or, Bool.or_true, Bool.true_or, Bool.or_false, ↓reduceIte]; try exact rfl) (by simp [go_sem]) (by simp) (by simp [go_sem]) (by simp [go_sem]) (hfid r.act.dir) (by simp only [go_sem]; exact rfl) (by simp only [go_sem, Bool.false_or, Bool.or_true, Bool.true_or, Bool.or_false, ↓reduceIte]; exact rfl) ?_
      refine seg_runN tabOK 1 (by simp only [go_sem]; exact rfl) (by simp only [go_sem]; exact rfl) (by simp only [go_sem]; try exact rfl) (by simp [go_sem]) (by simp only [go_sem]; exact rfl) ?_
      refine seg_store tabOK rfl rfl (by simp only [go_sem]; try exact rfl) (by simp only [go_sem]; try exact rfl) (by simp only [go_sem]; try exact rfl) (by first | trivial | simp [go_sem]) (by simp only [go_sem]; exact rfl) (by simp [go_sem]) (by simp only [go_sem]; exact rfl) (by simp only [go_sem]; exact rfl) (by simp only [go_sem]; exact rfl) ?_
      refine seg_runN tabOK 1 (by simp only [go_sem]; exact rfl) (by simp only [go_sem]; exact rfl) (by simp only [go_sem]; try exact rfl) (by simp [go_sem]) (by simp only [go_sem]; exact rfl) ?_
      refine seg_store tabOK rfl rfl (by simp only [go_sem]; try exact rfl) (by simp only [go_sem]; try exact rfl) (by simp only [go_sem]; try exact rfl) (by first | trivial | simp [go_sem]) (by simp only [go_sem]; exact rfl) (by simp [go_sem]) (by simp only [go_sem]; exact rfl) (by simp only [go_sem]; exact rfl) (by simp only [go_sem]; exact rfl) ?_
      refine seg_end (by kernel_rfl) (by simp only [go_sem]; exact rfl) ?_
      refine draw_close (by kernel_rfl) ?_
      try simp only [go_sem, List.getElem_toArray, List.getElem_cons_succ, List.getElem_cons_zero]
      refine cw_go tabOK 99 (by simp only [go_sem]; try exact rfl) (by simp [go_sem]) ?_
      by_cases hk5 : r.act.kind = 5
      · have hT : (if r.act.kind = 5 then atF (own1 j r) r.act.to else r.act.to) = atF (own1 j r) r.act.to := if_pos hk5
        rw [hT] at hst hap
        refine cw_condT (by simp only [go_sem]; try exact rfl) trivial (by simp [hk5]) ?_
        refine cw_go tabOK 99 (by simp only [go_sem]; try exact rfl) (by simp [go_sem]) ?_
        refine cw_step rfl (trip_callP rfl (by simp only [go_sem]; try exact rfl) (by simp [go_sem]) ⟨_, Go.Proofs.Try.func172, by kernel_rfl, rfl⟩ [29, 25, 26, 27] (by simp only [go_sem, Bool.false_or, Bool.or_true, Bool.true_or, Bool.or_false, ↓reduceIte]; try exact rfl) (by simp [go_sem]) (by simp) (by simp [go_sem]) (by simp [go_sem]) (by simp [go_sem]) (hfid r.act.to) (by simp only [go_sem, Bool.false_or, Bool.or_true, Bool.true_or, Bool.or_false, ↓reduceIte]; exact rfl)) ?_
        refine cw_go tabOK 99 (by simp only [go_sem]; try exact rfl) (by simp [go_sem]) ?_
        refine cw_step rfl (trip_callP rfl (by simp only [go_sem]; try exact rfl) (by simp [go_sem]) ⟨_, Go.Proofs.Try.func173, by kernel_rfl, rfl⟩ [29, 25, 26, 27, 6] (by simp only [go_sem, Bool.false_or, Bool.or_true, Bool.true_or, Bool.or_false, ↓reduceIte]; try exact rfl) (by simp [go_sem]) (by simp) (by simp [go_sem]) (by simp [go_sem]) (by simp [go_sem]) (hst) (by simp only [go_sem, Bool.false_or, Bool.or_true, Bool.true_or, Bool.or_false, ↓reduceIte]; exact rfl)) ?_
        refine cw_go tabOK 99 (by simp only [go_sem]; try exact rfl) (by simp [go_sem]) ?_
        cases st with
        | true =>
          obtain ⟨e1, e2, e3⟩ := q2 h0 hnf rfl
          refine cw_condT (by simp only [go_sem]; try exact rfl) trivial (rfl) ?_
          refine cw_go tabOK 99 (by simp only [go_sem]; try exact rfl) (by simp [go_sem]) ?_
          refine cw_draw mixed ?_
          refine seg_start rfl ?_
          refine seg_build tabOK rfl (by simp only [go_sem]; try exact rfl) (by simp only [go_sem]; try exact rfl) (by simp [go_sem]) (by simp only [go_sem, cond_true, cond_false]; exact rfl) (by simp only [go_sem]; exact rfl) (by simp only [go_sem]; exact rfl) ?_
          refine seg_runN tabOK 1 (by simp only [go_sem]; exact rfl) (by simp only [go_sem]; exact rfl) (by simp only [go_sem]; try exact rfl) (by simp [go_sem]) (by simp only [go_sem]; exact rfl) ?_
          refine seg_store tabOK rfl rfl (by simp only [go_sem]; try exact rfl) (by simp only [go_sem]; try exact rfl) (by simp only [go_sem]; try exact rfl) (by first | trivial | simp [go_sem]) (by simp only [go_sem]; exact rfl) (by simp [go_sem]) (by simp only [go_sem]; exact rfl) (by simp only [go_sem]; exact rfl) (by simp only [go_sem]; exact rfl) ?_
          refine seg_store tabOK rfl rfl (by simp only [go_sem]; try exact rfl) (by simp only [go_sem]; try exact rfl) (by simp only [go_sem]; try exact rfl) (by first | trivial | simp [go_sem]) (by simp only [go_sem]; exact rfl) (by simp [go_sem]) (by simp only [go_sem]; exact rfl) (by simp only [go_sem]; exact rfl) (by simp only [go_sem]; exact rfl) ?_
          refine seg_end (by kernel_rfl) (by simp only [go_sem]; exact rfl) ?_
          refine draw_close (by kernel_rfl) ?_
          try simp only [go_sem, List.getElem_toArray, List.getElem_cons_succ, List.getElem_cons_zero]
          refine cw_go tabOK 99 (by simp only [go_sem]; try exact rfl) (by simp [go_sem]) ?_
          refine cw_ret ⟨_, _, by simp only [go_sem]; try exact rfl, by simp [go_sem], _, .inr (.inl rfl), ?_, ?_⟩
          · simp [verdictRow, actRow, e1, e2, actJ, hk5]
          · rw [e3]
            simp only [pins, List.cons_append, List.nil_append, List.map_cons, List.map_nil]
            repeat' refine holds_cons ?_ ?_
            all_goals first | exact holds_nil _ | rfl | simp [go_sem]
        | false =>
          refine cw_condF (by simp only [go_sem]; try exact rfl) trivial (rfl) ?_
          refine cw_go tabOK 99 (by simp only [go_sem]; try exact rfl) (by simp [go_sem]) ?_
          by_cases hE : E = 0
          · obtain ⟨e1, e2, e3⟩ := q4 h0 hnf rfl hE
            subst hE
            rw [h1] at e3
            simp only [if_true, Bool.false_eq_true, if_false] at hap e3
            refine cw_draw mixed ?_
            refine seg_start rfl ?_
            refine seg_runN tabOK 9 (by simp only [go_sem]; exact rfl) (by simp only [go_sem]; exact rfl) (by simp only [go_sem]; try exact rfl) (by simp [go_sem]) (by simp only [go_sem]; exact rfl) ?_
            refine seg_call rfl rfl (by simp only [go_sem]; try exact rfl) (by simp [go_sem]) ⟨_, Go.Proofs.Try.func40, by kernel_rfl, rfl⟩ (by simp [go_sem]) (hap) (by simp [go_sem]) (by simp only [go_sem]; exact rfl) (by simp only [go_sem]; exact rfl) ?_
            refine seg_run tabOK (by simp only [go_sem]; try exact rfl) (by simp [go_sem]) (by simp only [go_sem]; exact rfl) ?_
            refine seg_end (by kernel_rfl) (by simp only [go_sem]; exact rfl) ?_
            refine draw_close (by kernel_rfl) ?_
            try simp only [go_sem, List.getElem_toArray, List.getElem_cons_succ, List.getElem_cons_zero]
            refine cw_go tabOK 99 (by simp only [go_sem]; try exact rfl) (by simp [go_sem]) ?_
            refine cw_condF (by simp only [go_sem]; try exact rfl) trivial (by simp) ?_
            refine cw_go tabOK 99 (by simp only [go_sem, hwn, hwv]; try exact rfl) (by simp [go_sem, hwn, hwv]) ?_
            refine cw_condF (by simp only [go_sem]; try exact rfl) trivial (by simp) ?_
            refine cw_go tabOK 99 (by simp only [go_sem, hwn, hwv]; try exact rfl) (by simp [go_sem, hwn, hwv]) ?_
            refine cw_draw mixed ?_
            refine seg_start rfl ?_
            refine seg_runN tabOK 2 (by simp only [go_sem]; exact rfl) (by simp only [go_sem]; exact rfl) (by simp only [go_sem]; try exact rfl) (by simp [go_sem]) (by simp only [go_sem]; exact rfl) ?_
            refine seg_build tabOK rfl (by simp only [go_sem]; try exact rfl) (by simp only [go_sem]; try exact rfl) (by simp [go_sem]) (by simp only [go_sem, cond_true, cond_false]; exact rfl) (by simp only [go_sem]; exact rfl) (by simp only [go_sem]; exact rfl) ?_
            refine seg_runN tabOK 1 (by simp only [go_sem]; exact rfl) (by simp only [go_sem]; exact rfl) (by simp only [go_sem]; try exact rfl) (by simp [go_sem]) (by simp only [go_sem]; exact rfl) ?_
            refine seg_store tabOK rfl rfl (by simp only [go_sem]; try exact rfl) (by simp only [go_sem]; try exact rfl) (by simp only [go_sem]; try exact rfl) (by first | trivial | simp [go_sem]) (by simp only [go_sem]; exact rfl) (by simp [go_sem]) (by simp only [go_sem]; exact rfl) (by simp only [go_sem]; exact rfl) (by simp only [go_sem]; exact rfl) ?_
            refine seg_store tabOK rfl rfl (by simp only [go_sem]; try exact rfl) (by simp only [go_sem]; try exact rfl) (by simp only [go_sem]; try exact rfl) (by first | trivial | simp [go_sem]) (by simp only [go_sem]; exact rfl) (by simp [go_sem]) (by simp only [go_sem]; exact rfl) (by simp only [go_sem]; exact rfl) (by simp only [go_sem]; exact rfl) ?_
            refine seg_end (by kernel_rfl) (by simp only [go_sem]; exact rfl) ?_
            refine draw_close (by kernel_rfl) ?_
            try simp only [go_sem, List.getElem_toArray, List.getElem_cons_succ, List.getElem_cons_zero]
            refine cw_go tabOK 99 (by simp only [go_sem]; try exact rfl) (by simp [go_sem]) ?_
            refine cw_ret ⟨_, _, by simp only [go_sem]; try exact rfl, by simp [go_sem], _, .inr (.inl rfl), ?_, ?_⟩
            · simp [verdictRow, actRow, e1, e2, actJ, hk5]
            · rw [e3]
              simp only [pins, List.cons_append, List.nil_append, List.map_cons, List.map_nil]
              repeat' refine holds_cons ?_ ?_
              all_goals first | exact holds_nil _ | rfl | simp [go_sem]
          · obtain ⟨e1, e2, e3⟩ := q3 h0 hnf rfl hE
            rw [h1] at e3
            simp only [hE, if_true, Bool.false_eq_true, if_false] at hap e3
            refine cw_draw mixed ?_
            refine seg_start rfl ?_
            refine seg_runN tabOK 9 (by simp only [go_sem]; exact rfl) (by simp only [go_sem]; exact rfl) (by simp only [go_sem]; try exact rfl) (by simp [go_sem]) (by simp only [go_sem]; exact rfl) ?_
            refine seg_call rfl rfl (by simp only [go_sem]; try exact rfl) (by simp [go_sem]) ⟨_, Go.Proofs.Try.func40, by kernel_rfl, rfl⟩ (by simp [go_sem]) (hap) (by simp [go_sem]) (by simp only [go_sem]; exact rfl) (by simp only [go_sem]; exact rfl) ?_
            refine seg_run tabOK (by simp only [go_sem]; try exact rfl) (by simp [go_sem]) (by simp only [go_sem]; exact rfl) ?_
            refine seg_end (by kernel_rfl) (by simp only [go_sem]; exact rfl) ?_
            refine draw_close (by kernel_rfl) ?_
            try simp only [go_sem, List.getElem_toArray, List.getElem_cons_succ, List.getElem_cons_zero]
            refine cw_go tabOK 99 (by simp only [go_sem]; try exact rfl) (by simp [go_sem]) ?_
            refine cw_condT (by simp only [go_sem]; try exact rfl) trivial (by simp [hE]) ?_
            refine cw_go tabOK 99 (by simp only [go_sem]; try exact rfl) (by simp [go_sem]) ?_
            refine cw_condF (by simp only [go_sem]; try exact rfl) trivial (by simp) ?_
            refine cw_go tabOK 99 (by simp only [go_sem]; try exact rfl) (by simp [go_sem]) ?_
            refine cw_draw mixed ?_
            refine seg_start rfl ?_
            refine seg_runN tabOK 1 (by simp only [go_sem]; exact rfl) (by simp only [go_sem]; exact rfl) (by simp only [go_sem]; try exact rfl) (by simp [go_sem]) (by simp only [go_sem]; exact rfl) ?_
            refine seg_build tabOK rfl (by simp only [go_sem]; try exact rfl) (by simp only [go_sem]; try exact rfl) (by simp [go_sem]) (by simp only [go_sem, cond_true, cond_false]; exact rfl) (by simp only [go_sem]; exact rfl) (by simp only [go_sem]; exact rfl) ?_
            refine seg_runN tabOK 1 (by simp only [go_sem]; exact rfl) (by simp only [go_sem]; exact rfl) (by simp only [go_sem]; try exact rfl) (by simp [go_sem]) (by simp only [go_sem]; exact rfl) ?_
            refine seg_store tabOK rfl rfl (by simp only [go_sem]; try exact rfl) (by simp only [go_sem]; try exact rfl) (by simp only [go_sem]; try exact rfl) (by first | trivial | simp [go_sem]) (by simp only [go_sem]; exact rfl) (by simp [go_sem]) (by simp only [go_sem]; exact rfl) (by simp only [go_sem]; exact rfl) (by simp only [go_sem]; exact rfl) ?_
            refine seg_store tabOK rfl rfl (by simp only [go_sem]; try exact rfl) (by simp only [go_sem]; try exact rfl) (by simp only [go_sem]; try exact rfl) (by first | trivial | simp [go_sem]) (by simp only [go_sem]; exact rfl) (by simp [go_sem]) (by simp only [go_sem]; exact rfl) (by simp only [go_sem]; exact rfl) (by simp only [go_sem]; exact rfl) ?_
            refine seg_end (by kernel_rfl) (by simp only [go_sem]; exact rfl) ?_
            refine draw_close (by kernel_rfl) ?_
            try simp only [go_sem, List.getElem_toArray, List.getElem_cons_succ, List.getElem_cons_zero]
            refine cw_go tabOK 99 (by simp only [go_sem]; try exact rfl) (by simp [go_sem]) ?_
            refine cw_ret ⟨_, _, by simp only [go_sem]; try exact rfl, by simp [go_sem], _, .inr (.inl rfl), ?_, ?_⟩
            · simp [verdictRow, actRow, e1, e2, actJ, hk5]
            · rw [e3]
              simp only [pins, List.cons_append, List.nil_append, List.map_cons, List.map_nil]
              repeat' refine holds_cons ?_ ?_
              all_goals first | exact holds_nil _ | rfl | simp [go_sem]
      · have hT : (if r.act.kind = 5 then atF (own1 j r) r.act.to else r.act.to) = r.act.to := if_neg hk5
        rw [hT] at hst hap
        refine cw_condF (by simp only [go_sem]; try exact rfl) trivial (by simp [hk5]) ?_
        refine cw_go tabOK 99 (by simp only [go_sem]; try exact rfl) (by simp [go_sem]) ?_
        refine cw_step rfl (trip_callP rfl (by simp only [go_sem]; try exact rfl) (by simp [go_sem]) ⟨_, Go.Proofs.Try.func173, by kernel_rfl, rfl⟩ [29, 25, 26, 27, 6] (by simp only [go_sem, Bool.false_or, Bool.or_true, Bool.true_or, Bool.or_false, ↓reduceIte]; try exact rfl) (by simp [go_sem]) (by simp) (by simp [go_sem]) (by simp [go_sem]) (by simp [go_sem]) (hst) (by simp only [go_sem, Bool.false_or, Bool.or_true, Bool.true_or, Bool.or_false, ↓reduceIte]; exact rfl)) ?_
        refine cw_go tabOK 99 (by simp only [go_sem]; try exact rfl) (by simp [go_sem]) ?_
        cases st with
        | true =>
          obtain ⟨e1, e2, e3⟩ := q2 h0 hnf rfl
          refine cw_condT (by simp only [go_sem]; try exact rfl) trivial (rfl) ?_
          refine cw_go tabOK 99 (by simp only [go_sem]; try exact rfl) (by simp [go_sem]) ?_
          refine cw_draw mixed ?_
          refine seg_start rfl ?_
          refine seg_build tabOK rfl (by simp only [go_sem]; try exact rfl) (by simp only [go_sem]; try exact rfl) (by simp [go_sem]) (by simp only [go_sem, cond_true, cond_false]; exact rfl) (by simp only [go_sem]; exact rfl) (by simp only [go_sem]; exact rfl) ?_
          refine seg_runN tabOK 1 (by simp only [go_sem]; exact rfl) (by simp only [go_sem]; exact rfl) (by simp only [go_sem]; try exact rfl) (by simp [go_sem]) (by simp only [go_sem]; exact rfl) ?_
          refine seg_store tabOK rfl rfl (by simp only [go_sem]; try exact rfl) (by simp only [go_sem]; try exact rfl) (by simp only [go_sem]; try exact rfl) (by first | trivial | simp [go_sem]) (by simp only [go_sem]; exact rfl) (by simp [go_sem]) (by simp only [go_sem]; exact rfl) (by simp only [go_sem]; exact rfl) (by simp only [go_sem]; exact rfl) ?_
          refine seg_store tabOK rfl rfl (by simp only [go_sem]; try exact rfl) (by simp only [go_sem]; try exact rfl) (by simp only [go_sem]; try exact rfl) (by first | trivial | simp [go_sem]) (by simp only [go_sem]; exact rfl) (by simp [go_sem]) (by simp only [go_sem]; exact rfl) (by simp only [go_sem]; exact rfl) (by simp only [go_sem]; exact rfl) ?_
          refine seg_end (by kernel_rfl) (by simp only [go_sem]; exact rfl) ?_
          refine draw_close (by kernel_rfl) ?_
          try simp only [go_sem, List.getElem_toArray, List.getElem_cons_succ, List.getElem_cons_zero]
          refine cw_go tabOK 99 (by simp only [go_sem]; try exact rfl) (by simp [go_sem]) ?_
          refine cw_ret ⟨_, _, by simp only [go_sem]; try exact rfl, by simp [go_sem], _, .inr (.inl rfl), ?_, ?_⟩
          · simp [verdictRow, actRow, e1, e2, actJ, hk5]
          · rw [e3]
            simp only [pins, List.cons_append, List.nil_append, List.map_cons, List.map_nil]
            repeat' refine holds_cons ?_ ?_
            all_goals first | exact holds_nil _ | rfl | simp [go_sem]
        | false =>
          refine cw_condF (by simp only [go_sem]; try exact rfl) trivial (rfl) ?_
          refine cw_go tabOK 99 (by simp only [go_sem]; try exact rfl) (by simp [go_sem]) ?_
          by_cases hE : E = 0
          · obtain ⟨e1, e2, e3⟩ := q4 h0 hnf rfl hE
            subst hE
            rw [h1] at e3
            simp only [if_true, Bool.false_eq_true, if_false] at hap e3
            refine cw_draw mixed ?_
            refine seg_start rfl ?_
            refine seg_runN tabOK 9 (by simp only [go_sem]; exact rfl) (by simp only [go_sem]; exact rfl) (by simp only [go_sem]; try exact rfl) (by simp [go_sem]) (by simp only [go_sem]; exact rfl) ?_
            refine seg_call rfl rfl (by simp only [go_sem]; try exact rfl) (by simp [go_sem]) ⟨_, Go.Proofs.Try.func40, by kernel_rfl, rfl⟩ (by simp [go_sem]) (hap) (by simp [go_sem]) (by simp only [go_sem]; exact rfl) (by simp only [go_sem]; exact rfl) ?_
            refine seg_run tabOK (by simp only [go_sem]; try exact rfl) (by simp [go_sem]) (by simp only [go_sem]; exact rfl) ?_
            refine seg_end (by kernel_rfl) (by simp only [go_sem]; exact rfl) ?_
            refine draw_close (by kernel_rfl) ?_
            try simp only [go_sem, List.getElem_toArray, List.getElem_cons_succ, List.getElem_cons_zero]
            refine cw_go tabOK 99 (by simp only [go_sem]; try exact rfl) (by simp [go_sem]) ?_
            refine cw_condF (by simp only [go_sem]; try exact rfl) trivial (by simp) ?_
            refine cw_go tabOK 99 (by simp only [go_sem, hwn, hwv]; try exact rfl) (by simp [go_sem, hwn, hwv]) ?_
            refine cw_condF (by simp only [go_sem]; try exact rfl) trivial (by simp) ?_
            refine cw_go tabOK 99 (by simp only [go_sem, hwn, hwv]; try exact rfl) (by simp [go_sem, hwn, hwv]) ?_
            refine cw_draw mixed ?_
            refine seg_start rfl ?_
            refine seg_runN tabOK 2 (by simp only [go_sem]; exact rfl) (by simp only [go_sem]; exact rfl) (by simp only [go_sem]; try exact rfl) (by simp [go_sem]) (by simp only [go_sem]; exact rfl) ?_
            refine seg_build tabOK rfl (by simp only [go_sem]; try exact rfl) (by simp only [go_sem]; try exact rfl) (by simp [go_sem]) (by simp only [go_sem, cond_true, cond_false]; exact rfl) (by simp only [go_sem]; exact rfl) (by simp only [go_sem]; exact rfl) ?_
            refine seg_runN tabOK 1 (by simp only [go_sem]; exact rfl) (by simp only [go_sem]; exact rfl) (by simp only [go_sem]; try exact rfl) (by simp [go_sem]) (by simp only [go_sem]; exact rfl) ?_
            refine seg_store tabOK rfl rfl (by simp only [go_sem]; try exact rfl) (by simp only [go_sem]; try exact rfl) (by simp only [go_sem]; try exact rfl) (by first | trivial | simp [go_sem]) (by simp only [go_sem]; exact rfl) (by simp [go_sem]) (by simp only [go_sem]; exact rfl) (by simp only [go_sem]; exact rfl) (by simp only [go_sem]; exact rfl) ?_
            refine seg_store tabOK rfl rfl (by simp only [go_sem]; try exact rfl) (by simp only [go_sem]; try exact rfl) (by simp only [go_sem]; try exact rfl) (by first | trivial | simp [go_sem]) (by simp only [go_sem]; exact rfl) (by simp [go_sem]) (by simp only [go_sem]; exact rfl) (by simp only [go_sem]; exact rfl) (by simp only [go_sem]; exact rfl) ?_
            refine seg_end (by kernel_rfl) (by simp only [go_sem]; exact rfl) ?_
            refine draw_close (by kernel_rfl) ?_
            try simp only [go_sem, List.getElem_toArray, List.getElem_cons_succ, List.getElem_cons_zero]
            refine cw_go tabOK 99 (by simp only [go_sem]; try exact rfl) (by simp [go_sem]) ?_
            refine cw_ret ⟨_, _, by simp only [go_sem]; try exact rfl, by simp [go_sem], _, .inr (.inl rfl), ?_, ?_⟩
            · simp [verdictRow, actRow, e1, e2, actJ, hk5]
            · rw [e3]
              simp only [pins, List.cons_append, List.nil_append, List.map_cons, List.map_nil]
              repeat' refine holds_cons ?_ ?_
              all_goals first | exact holds_nil _ | rfl | simp [go_sem]
          · obtain ⟨e1, e2, e3⟩ := q3 h0 hnf rfl hE
            rw [h1] at e3
            simp only [hE, if_true, Bool.false_eq_true, if_false] at hap e3
            refine cw_draw mixed ?_
            refine seg_start rfl ?_
            refine seg_runN tabOK 9 (by simp only [go_sem]; exact rfl) (by simp only [go_sem]; exact rfl) (by simp only [go_sem]; try exact rfl) (by simp [go_sem]) (by simp only [go_sem]; exact rfl) ?_
            refine seg_call rfl rfl (by simp only [go_sem]; try exact rfl) (by simp [go_sem]) ⟨_, Go.Proofs.Try.func40, by kernel_rfl, rfl⟩ (by simp [go_sem]) (hap) (by simp [go_sem]) (by simp only [go_sem]; exact rfl) (by simp only [go_sem]; exact rfl) ?_
            refine seg_run tabOK (by simp only [go_sem]; try exact rfl) (by simp [go_sem]) (by simp only [go_sem]; exact rfl) ?_
            refine seg_end (by kernel_rfl) (by simp only [go_sem]; exact rfl) ?_
            refine draw_close (by kernel_rfl) ?_
            try simp only [go_sem, List.getElem_toArray, List.getElem_cons_succ, List.getElem_cons_zero]
            refine cw_go tabOK 99 (by simp only [go_sem]; try exact rfl) (by simp [go_sem]) ?_
            refine cw_condT (by simp only [go_sem]; try exact rfl) trivial (by simp [hE]) ?_
            refine cw_go tabOK 99 (by simp only [go_sem]; try exact rfl) (by simp [go_sem]) ?_
            refine cw_condF (by simp only [go_sem]; try exact rfl) trivial (by simp) ?_
            refine cw_go tabOK 99 (by simp only [go_sem]; try exact rfl) (by simp [go_sem]) ?_
            refine cw_draw mixed ?_
            refine seg_start rfl ?_
            refine seg_runN tabOK 1 (by simp only [go_sem]; exact rfl) (by simp only [go_sem]; exact rfl) (by simp only [go_sem]; try exact rfl) (by simp [go_sem]) (by simp only [go_sem]; exact rfl) ?_
            refine seg_build tabOK rfl (by simp only [go_sem]; try exact rfl) (by simp only [go_sem]; try exact rfl) (by simp [go_sem]) (by simp only [go_sem, cond_true, cond_false]; exact rfl) (by simp only [go_sem]; exact rfl) (by simp only [go_sem]; exact rfl) ?_
            refine seg_runN tabOK 1 (by simp only [go_sem]; exact rfl) (by simp only [go_sem]; exact rfl) (by simp only [go_sem]; try exact rfl) (by simp [go_sem]) (by simp only [go_sem]; exact rfl) ?_
            refine seg_store tabOK rfl rfl (by simp only [go_sem]; try exact rfl) (by simp only [go_sem]; try exact rfl) (by simp only [go_sem]; try exact rfl) (by first | trivial | simp [go_sem]) (by simp only [go_sem]; exact rfl) (by simp [go_sem]) (by simp only [go_sem]; exact rfl) (by simp only [go_sem]; exact rfl) (by simp only [go_sem]; exact rfl) ?_
            refine seg_store tabOK rfl rfl (by simp only [go_sem]; try exact rfl) (by simp only [go_sem]; try exact rfl) (by simp only [go_sem]; try exact rfl) (by first | trivial | simp [go_sem]) (by simp only [go_sem]; exact rfl) (by simp [go_sem]) (by simp only [go_sem]; exact rfl) (by simp only [go_sem]; exact rfl) (by simp only [go_sem]; exact rfl) ?_
            refine seg_end (by kernel_rfl) (by simp only [go_sem]; exact rfl) ?_
            refine draw_close (by kernel_rfl) ?_
            try simp only [go_sem, List.getElem_toArray, List.getElem_cons_succ, List.getElem_cons_zero]
            refine cw_go tabOK 99 (by simp only [go_sem]; try exact rfl) (by simp [go_sem]) ?_
            refine cw_ret ⟨_, _, by simp only [go_sem]; try exact rfl, by simp [go_sem], _, .inr (.inl rfl), ?_, ?_⟩
            · simp [verdictRow, actRow, e1, e2, actJ, hk5]
            · rw [e3]
              simp only [pins, List.cons_append, List.nil_append, List.map_cons, List.map_nil]
              repeat' refine holds_cons ?_ ?_
              all_goals first | exact holds_nil _ | rfl | simp [go_sem]
end La

namespace La
open Go Go.Eng Go.Proofs
set_option maxRecDepth 10000
set_option linter.unusedSimpArgs false
set_option linter.unusedVariables false

theorem oursP_snoc (m : List (Int × Bool)) (l : List Int) (x : Int) : oursP m (l ++ [x]) = mput (oursP m l) x true := by
  unfold oursP; rw [List.foldl_append]; rfl
/-- where Judge is, behind so many records -/
noncomputable def jgAt (l : List Node) (next version : Int) (log : List Rec) (i : Nat) : JG := (log.take i).foldl stepJ (startJ l next version)
theorem jgAt_succ (l : List Node) (next version : Int) {log : List Rec} {i : Nat} (h : i < log.length) : jgAt l next version log (i + 1) = stepJ (jgAt l next version log i) (log.getD i default) := by
  unfold jgAt; rw [take_succ_getD h, List.foldl_append]; rfl
theorem jgAt_inv {p : List Past} {l : List Node} (h : Hist p l) (next : Int) {log : List Rec} (hl : ∀ r, r ∈ log → ActFit r.act) {i : Nat} (hi : i ≤ log.length) : JInv p 0 i next (jgAt l next ((p.length + 1 : Nat) : Int) log i) := by
  have := JInv.judge h 0 next (log.take i) (fun r hr => hl r (List.mem_of_mem_take hr))
  rw [List.length_take, Nat.min_eq_left hi] at this
  exact this
def jgB (s : JG) : List (Nat × Blk) := [(45, .cells 154 2 (s.vs.map verdictRow)), (72, .cells 25 7 (s.done.map actRow)), (29, .cells 194 6 [jRow s.j]), (25, .map (mI s.j.own)), (26, .map (mB s.j.ours)), (27, .map (mB s.j.lost))]

set_option maxHeartbeats 4000000 in
theorem judge_ok (p : List Past) (l : List Node) (next : Int) (log : List Rec) (h : Hist p l) (hp : p.length ≤ 80000000) (hn : next.natAbs ≤ 80000000) (hlog : SmallL log) (hl2 : log.length ≤ 2000000) (hfit : ∀ r, r ∈ log → ActFit r.act) :
    FnOK Try.prog 121 [.sl (l.map nodeRow), .int .i64 next, .int .i64 ((p.length + 1 : Nat) : Int), .sl (log.map recRow)] []
      (fun r _ => r = .tup [.sl ((judgeJ l next ((p.length + 1 : Nat) : Int) log).vs.map verdictRow), .sl ((judgeJ l next ((p.length + 1 : Nat) : Int) log).done.map actRow), .sl ((judgeJ l next ((p.length + 1 : Nat) : Int) log).j.l.map nodeRow), .int .i64 (judgeJ l next ((p.length + 1 : Nat) : Int) log).j.next]) := by
  have how := own_ok l h.good.small
  have hlo := logs_own log hlog
  have hfin : judgeJ l next ((p.length + 1 : Nat) : Int) log = jgAt l next ((p.length + 1 : Nat) : Int) log log.length := by unfold jgAt; rw [List.take_length]; rfl
  have hinv := fun i => @jgAt_inv p l h next log hfit i
  have hsucc := fun i => @jgAt_succ l next ((p.length + 1 : Nat) : Int) log i
  have hz : jgAt l next ((p.length + 1 : Nat) : Int) log 0 = startJ l next ((p.length + 1 : Nat) : Int) := rfl
  rw [hfin]
  generalize jgAt l next ((p.length + 1 : Nat) : Int) log = st at *
  refine fn_of_cwW tabOK (Go.Proofs.Try.func121) rfl (fun C => ?_)
  simp only [Go.Proofs.Try.ntmps121, Go.Proofs.Try.results121, go_sem]
  refine cw_go tabOK 99 (by simp only [go_sem]; try exact rfl) (by simp [go_sem]) ?_
  refine cw_call rfl rfl (by simp only [go_sem]; try exact rfl) (by simp [go_sem]) ⟨_, Go.Proofs.Try.func86, by kernel_rfl, rfl⟩ (by simp [go_sem]) (how) (by simp [go_sem]) (by simp only [go_sem]; exact rfl) ?_
  refine cw_go tabOK 99 (by simp only [go_sem]; try exact rfl) (by simp [go_sem]) ?_
  refine cw_call rfl rfl (by simp only [go_sem]; try exact rfl) (by simp [go_sem]) ⟨_, Go.Proofs.Try.func19, by kernel_rfl, rfl⟩ (by simp [go_sem]) (hlo) (by simp [go_sem]) (by simp only [go_sem]; exact rfl) ?_
  refine cw_go tabOK 99 (by simp only [go_sem]; try exact rfl) (by simp [go_sem]) ?_
  refine cw_le (le_empty 72 25 7 (by simp only [go_sem]; try exact rfl)) ?_
  refine cw_le (le_empty 45 154 2 (by simp only [go_sem]; try exact rfl)) ?_
  simp only [go_sem]
  refine cw_loopS (fun i : Nat => i ≤ log.length) (fun i => log.length - i) (fun i => [(13, .osl 45 2 0 (st i).vs.length), (14, .osl 72 7 0 (st i).done.length), (16, .any), (17, .any), (18, .any), (20, .any), (33, .int .i64 i), (34, .any), (35, .any), (36, .any), (37, .any), (38, .any), (39, .any), (40, .any), (41, .any), (42, .any), (43, .any), (44, .any), (45, .any), (46, .any), (47, .any), (48, .any), (49, .any), (50, .any), (51, .any), (52, .any), (53, .any), (54, .any), (55, .any), (56, .any), (57, .any), (58, .any), (59, .any), (60, .any), (61, .any), (62, .any), (63, .any), (64, .any), (65, .any), (66, .any), (67, .any), (68, .any), (69, .any), (70, .any), (71, .any), (72, .any), (73, .any)]) (fun i => jgB (st i)) 0 (by omega) ?_ fun i hi => ?_
  · rw [hz]
    simp only [startJ, jgB, jRow, mI, mB]
    simp only [go_sem]
    exact le_sub (by simp [go_sem]) (by simp [go_sem]) (by simp only [go_sem])
  unfold jgB jRow
  simp only [go_sem]
  refine cw_go tabOK 99 (by simp only [go_sem]; try exact rfl) (by simp [go_sem]) ?_
  refine cw_cond (by simp only [go_sem]; try exact rfl) trivial (fun h => ?_) (fun h => ?_)
  · have hlt : i < log.length := by simp at h; omega
    have hg : (log.map recRow).getD i [] = recRow (log.getD i default) := Fam.getD hlt
    have hv := hinv i (by omega)
    have hf := hfit _ (getD_mem hlt)
    have hsc := hsucc i hlt
    clear hinv hsucc
    generalize log.getD i default = r at *
    have hnx := hv.next
    have hvs := hv.vlen
    have hdl := hv.len
    have hone := one_ok (st i).j r hv.hist.good hf (by omega) (by have := hv.version; omega)
    have hst : st (i + 1) = (if (oneV (st i).j r).err = 0 then ⟨{ oneJ (st i).j r with ours := oursP (oneJ (st i).j r).ours (fids (oneA (st i).j r)) }, (st i).vs ++ [oneV (st i).j r], (st i).done ++ [oneA (st i).j r]⟩ else ⟨lose (oneJ (st i).j r) r.act.fid, (st i).vs ++ [oneV (st i).j r], (st i).done⟩) := by
      rw [hsc]; unfold stepJ oneV; rfl
    unfold jH jB jRow recRow at hone
    clear hsc hv
    generalize oneV (st i).j r = V at *
    generalize oneA (st i).j r = A at *
    generalize oneJ (st i).j r = J at *
    have hfd := fids_ok A
    have hf3 := fids_len A
    have how' : IntKind.i64.wrap ((i : Int) + 1) = ((i + 1 : Nat) : Int) := by rw [Eng.wrap_small (by omega) (by omega)]; rfl
    refine cw_go tabOK 99 (by simp only [go_sem, hg, recRow]; try exact rfl) ?_ ?_
    · simp [hg, recRow, hlt]
    refine cw_freeze 16 rfl (rfl) ?_
    simp only [go_sem]
    refine cw_step rfl (trip_callP rfl (by simp only [go_sem]; try exact rfl) (by simp [go_sem]) ⟨_, Go.Proofs.Try.func156, by kernel_rfl, rfl⟩ [29, 25, 26, 27] (by simp only [go_sem, Bool.false_or, Bool.or_true, Bool.true_or, Bool.or_false, ↓reduceIte]; try exact rfl) (by simp [go_sem]) (by simp) (by simp [go_sem]) (by simp [go_sem]) (by simp [go_sem]) (hone) (by simp only [go_sem, Bool.false_or, Bool.or_true, Bool.true_or, Bool.or_false, ↓reduceIte]; exact rfl)) ?_
    refine cw_go tabOK 99 (by simp only [go_sem, verdictRow, actRow]; try exact rfl) ?_ ?_
    · simp [verdictRow, actRow, rowsOf]; omega
    by_cases hE : V.err = 0
    · rw [if_pos hE] at hst
      refine cw_condF (by simp only [go_sem]; try exact rfl) trivial (by simp [hE]) ?_
      refine cw_go tabOK 99 (by simp only [go_sem]; try exact rfl) (by simp [go_sem]) ?_
      unfold actRow at hfd
      refine cw_call rfl rfl (by simp only [go_sem]; try exact rfl) (by simp [go_sem]) ⟨_, Go.Proofs.Try.func99, by kernel_rfl, rfl⟩ (by simp [go_sem]) (hfd) (by simp [go_sem]) (by simp only [go_sem]; exact rfl) ?_
      refine cw_go tabOK 99 (by simp only [go_sem]; try exact rfl) (by simp [go_sem]) ?_
      refine cw_loopS (fun k : Nat => k ≤ (fids A).length) (fun k => (fids A).length - k) (fun k => [(20, .any), (59, .int .i64 k), (60, .any), (61, .any), (62, .any), (63, .any), (64, .any), (65, .any), (66, .any), (67, .any), (68, .any)]) (fun k => [(26, .map (mB (oursP J.ours ((fids A).take k))))]) 0 (by omega) ?_ fun k hk => ?_
      · simp only [go_sem]
        exact le_sub (by simp [go_sem]) (by simp [go_sem, oursP]) (by simp [go_sem])
      simp only [go_sem]
      refine cw_go tabOK 99 (by simp only [go_sem]; try exact rfl) (by simp [go_sem]) ?_
      refine cw_cond (by simp only [go_sem]; try exact rfl) trivial (fun h => ?_) (fun h => ?_)
      · have hlk : k < (fids A).length := by simp at h; omega
        have hgk : ((fids A).map intRow).getD k [] = intRow ((fids A).getD k default) := Fam.getD hlk
        have htk : oursP J.ours ((fids A).take (k + 1)) = mput (oursP J.ours ((fids A).take k)) ((fids A).getD k default) true := by rw [take_succ_getD hlk, oursP_snoc]
        have hwk : IntKind.i64.wrap ((k : Int) + 1) = ((k + 1 : Nat) : Int) := by rw [Eng.wrap_small (by omega) (by omega)]; rfl
        generalize (fids A).getD k default = f at *
        refine cw_go tabOK 99 (by simp only [go_sem, hgk, intRow, hwk]; try exact rfl) ?_ ?_
        · simp [hgk, intRow, hlk, AV.deepB, AV.pureB]
        refine cw_back ⟨k + 1, by omega, by omega, le_sub ?_ ?_ ?_⟩
        · simp [go_sem]
        · simp [go_sem, htk]
        · simp [go_sem]
      · have e : k = (fids A).length := by simp at h; omega
        subst e
        refine cw_go tabOK 99 (by simp only [go_sem, actRow, how']; try exact rfl) ?_ ?_
        · simp [actRow, rowsOf]; omega
        refine cw_back ⟨i + 1, by omega, by omega, le_sub ?_ ?_ ?_⟩
        · simp [go_sem, hst]
        · simp [go_sem, hst, jgB, jRow, verdictRow, actRow, List.take_length]
        · simp [go_sem, hst]
    · rw [if_neg hE] at hst
      refine cw_condT (by simp only [go_sem]; try exact rfl) trivial (by simp [hE]) ?_
      refine cw_go tabOK 99 (by simp only [go_sem]; try exact rfl) (by simp [go_sem]) ?_
      refine cw_draw mixed ?_
      refine seg_start rfl ?_
      refine seg_runN tabOK 7 (by simp only [go_sem]; exact rfl) (by simp only [go_sem]; exact rfl) (by simp only [go_sem]; try exact rfl) (by simp [go_sem]) (by simp only [go_sem]; exact rfl) ?_
      refine seg_end (by kernel_rfl) (by simp only [go_sem]; exact rfl) ?_
      refine draw_step tabOK rfl (by kernel_rfl) rfl (by simp only [go_sem]; try exact rfl) (by simp [go_sem]) rfl ?_
      refine draw_close (by kernel_rfl) ?_
      try simp only [go_sem, List.getElem_toArray, List.getElem_cons_succ, List.getElem_cons_zero]
      refine cw_go tabOK 99 (by simp only [go_sem, how']; try exact rfl) (by simp [go_sem, how']) ?_
      refine cw_back ⟨i + 1, by omega, by omega, le_sub ?_ ?_ ?_⟩
      · simp [go_sem, hst]
      · simp [go_sem, hst, jgB, jRow, lose, verdictRow]
      · simp [go_sem, hst]
  · have e : i = log.length := by simp at h; omega
    subst e
    refine cw_go tabOK 99 (by simp only [go_sem]; try exact rfl) (by simp [go_sem]) ?_
    refine cw_draw mixed ?_
    refine seg_start rfl ?_
    refine seg_run tabOK (by simp only [go_sem]; try exact rfl) (by simp [go_sem]) (by simp only [go_sem]; exact rfl) ?_
    refine seg_end (by kernel_rfl) (by simp only [go_sem]; exact rfl) ?_
    refine draw_close (by kernel_rfl) ?_
    try simp only [go_sem, List.getElem_toArray, List.getElem_cons_succ, List.getElem_cons_zero]
    refine cw_go tabOK 99 (by simp only [go_sem]; try exact rfl) (by simp [go_sem]) ?_
    refine cw_freeze 45 rfl (verdictRow_pure _) ?_
    simp only [go_sem]
    refine cw_freeze 72 rfl (actRow_pure _) ?_
    simp only [go_sem]
    refine cw_ret ⟨_, _, (by simp only [go_sem]; try exact rfl), by simp [go_sem], _, .inr (.inl rfl), ?_⟩
    simp
end La

namespace La
open Go Go.Eng Go.Proofs
set_option maxRecDepth 10000
set_option linter.unusedSimpArgs false
set_option linter.unusedVariables false

def pastTo (s : Srv) (c : Int) (done : List Act) (i : Nat) : List Past := s.past ++ (done.take i).map fun a => ⟨c, a⟩
theorem pastTo_succ (s : Srv) (c : Int) {done : List Act} {i : Nat} (h : i < done.length) : pastTo s c done (i + 1) = pastTo s c done i ++ [⟨c, done.getD i default⟩] := by
  unfold pastTo; rw [take_succ_getD h, List.map_append, List.append_assoc]; rfl
theorem pastTo_len (s : Srv) (c : Int) (done : List Act) {i : Nat} (h : i ≤ done.length) : (pastTo s c done i).length = s.past.length + i := by
  unfold pastTo; simp; omega

set_option maxHeartbeats 2000000 in
theorem take_ok (s : Srv) (h : SrvOK 40000000 s) (c : Int) (log : List Rec) (hlog : SmallL log) (hl2 : log.length ≤ 2000000) (hfit : ∀ r, r ∈ log → ActFit r.act) :
    FnOK Try.prog 64 [.agg (srvRow s), .int .i64 c, .sl (log.map recRow)] []
      (fun r _ => r = .tup [.agg (srvRow (takeS s c log)), .sl ((judgeJ s.tree s.next ((s.past.length + 1 : Nat) : Int) log).vs.map verdictRow)]) := by
  have hn := h.next
  have hlen := h.len
  have hsp : SmallP s.past := ⟨by omega, fun p hp => by
    obtain ⟨st, _, _, h3⟩ := h.hist.st
    obtain ⟨i, hi⟩ := List.getElem?_of_mem hp
    have hil := (List.getElem?_eq_some_iff.1 hi).1
    have := (h3 i hil).2.1.data
    rwa [show s.past.getD i default = p by rw [List.getD_eq_getElem?_getD, hi]; rfl] at this⟩
  have hv := version_ok s (by omega)
  have hso := sown_okH s h.hist.good.small hsp
  have hj := judge_ok s.past s.tree s.next log h.hist (by omega) (by omega) hlog hl2 hfit
  have hinv := (JInv.judge h.hist c s.next log hfit).len
  have hT : takeS s c log = ⟨(judgeJ s.tree s.next ((s.past.length + 1 : Nat) : Int) log).j.l, (judgeJ s.tree s.next ((s.past.length + 1 : Nat) : Int) log).j.next, pastTo s c (judgeJ s.tree s.next ((s.past.length + 1 : Nat) : Int) log).done (judgeJ s.tree s.next ((s.past.length + 1 : Nat) : Int) log).done.length⟩ := by
    unfold takeS pastTo; rw [List.take_length]
  rw [hT]
  clear hT
  unfold srvRow at hv hso ⊢
  generalize judgeJ s.tree s.next ((s.past.length + 1 : Nat) : Int) log = g at *
  have hsu := fun i => @pastTo_succ s c g.done i
  have hle := fun i => @pastTo_len s c g.done i
  have hz : pastTo s c g.done 0 = s.past := by simp [pastTo]
  generalize pastTo s c g.done = P at *
  refine fn_of_cwW tabOK (Go.Proofs.Try.func64) rfl (fun C => ?_)
  simp only [Go.Proofs.Try.ntmps64, Go.Proofs.Try.results64, go_sem]
  refine cw_go tabOK 99 (by simp only [go_sem]; try exact rfl) (by simp [go_sem]) ?_
  refine cw_freeze 3 rfl (rfl) ?_
  simp only [go_sem]
  refine cw_draw mixed ?_
  refine seg_start rfl ?_
  refine seg_runN tabOK 5 (by simp only [go_sem]; exact rfl) (by simp only [go_sem]; exact rfl) (by simp only [go_sem]; try exact rfl) (by simp [go_sem]) (by simp only [go_sem]; exact rfl) ?_
  refine seg_call rfl rfl (by simp only [go_sem]; try exact rfl) (by simp [go_sem]) ⟨_, Go.Proofs.Try.func119, by kernel_rfl, rfl⟩ (by simp [go_sem]) (hv) (by simp [go_sem]) (by simp only [go_sem]; exact rfl) (by simp only [go_sem]; exact rfl) ?_
  refine seg_runN tabOK 1 (by simp only [go_sem]; exact rfl) (by simp only [go_sem]; exact rfl) (by simp only [go_sem]; try exact rfl) (by simp [go_sem]) (by simp only [go_sem]; exact rfl) ?_
  refine seg_call rfl rfl (by simp only [go_sem]; try exact rfl) (by simp [go_sem]) ⟨_, Go.Proofs.Try.func121, by kernel_rfl, rfl⟩ (by simp [go_sem]) (hj) (by simp [go_sem]) (by simp only [go_sem]; exact rfl) (by simp only [go_sem]; exact rfl) ?_
  refine seg_run tabOK (by simp only [go_sem]; try exact rfl) (by simp [go_sem]) (by simp only [go_sem]; exact rfl) ?_
  refine seg_end (by kernel_rfl) (by simp only [go_sem]; exact rfl) ?_
  refine draw_close (by kernel_rfl) ?_
  try simp only [go_sem, List.getElem_toArray, List.getElem_cons_succ, List.getElem_cons_zero]
  refine cw_go tabOK 99 (by simp only [go_sem]; try exact rfl) (by simp [go_sem]) ?_
  refine cw_callG [] 18 rfl rfl (by simp only [go_sem]; try exact rfl) (by simp [go_sem]) ⟨_, Go.Proofs.Try.func120, by kernel_rfl, rfl⟩ (by simp only [go_sem, Bool.false_or, Bool.or_true, Bool.true_or, if_true]; try exact rfl) (hso) (by simp [go_sem]) (by simp [go_sem]) (by simp [go_sem]) (by simp only [go_sem]) (by simp [go_sem]) (by simp only [go_sem, Bool.false_or, Bool.or_true, Bool.true_or, Bool.or_false, ↓reduceIte]; exact rfl) ?_
  refine cw_go tabOK 99 (by simp only [go_sem]; try exact rfl) (by simp [go_sem]) ?_
  refine cw_loopS (fun i : Nat => i ≤ g.done.length) (fun i => g.done.length - i) (fun i => [(14, .any), (29, .any), (36, .int .i64 i), (37, .any), (38, .any), (39, .any), (40, .any), (41, .any), (42, .any), (43, .any), (44, .any), (45, .any), (46, .any), (47, .any), (48, .any)])
    (fun i => [(12, .cells 97 3 [[.sl (g.j.l.map nodeRow), .int .i64 g.j.next, .osl 46 8 0 (P i).length]]), (46, .cells 158 8 ((P i).map pastRow))]) 0 (by omega) ?_ fun i hi => ?_
  · rw [hz]
    simp only [go_sem]
    exact le_sub (by simp [go_sem]) (by simp [go_sem]) (by simp [go_sem])
  simp only [go_sem]
  refine cw_go tabOK 99 (by simp only [go_sem]; try exact rfl) (by simp [go_sem]) ?_
  refine cw_cond (by simp only [go_sem]; try exact rfl) trivial (fun h => ?_) (fun h => ?_)
  · have hlt : i < g.done.length := by simp at h; omega
    have hg : (g.done.map actRow).getD i [] = actRow (g.done.getD i default) := Fam.getD hlt
    have hs1 := hsu i hlt
    have hl1 := hle i (by omega)
    have how' : IntKind.i64.wrap ((i : Int) + 1) = ((i + 1 : Nat) : Int) := by rw [Eng.wrap_small (by omega) (by omega)]; rfl
    generalize g.done.getD i default = a at *
    generalize P i = Q at *
    refine cw_goR 99 (by simp only [go_sem]; try exact rfl) ?_
    refine cw_runN tabOK 4 (by simp only [go_sem]; exact rfl) (by simp only [go_sem]; exact rfl) (by simp only [go_sem, hg, actRow]; try exact rfl) ?_ ?_
    · simp [hg, actRow, hlt]
    refine cw_goR 99 (by simp only [go_sem]; try exact rfl) ?_
    refine cw_runN tabOK 6 (by simp only [go_sem]; exact rfl) (by simp only [go_sem]; exact rfl) (by simp only [go_sem]; try exact rfl) (by simp [go_sem]) ?_
    refine cw_le (le_killB 46 12 (by simp only [go_sem]; exact rfl) (by simp only [go_sem, kill]; exact rfl)) ?_
    refine cw_go tabOK 99 (by simp only [go_sem, how']; try exact rfl) ?_ ?_
    · simp [rowsOf, pastRow]; omega
    refine cw_back ⟨i + 1, by omega, by omega, le_sub ?_ ?_ ?_⟩
    · simp [go_sem]
    · simp [go_sem, hs1, pastRow, List.take_length]
    · simp [go_sem]
  · have e : i = g.done.length := by simp at h; omega
    subst e
    refine cw_go tabOK 99 (by simp only [go_sem]; try exact rfl) (by simp [go_sem]) ?_
    refine cw_freeze 46 rfl (pastRow_pure _) ?_
    simp only [go_sem]
    refine cw_ret ⟨_, _, (by simp only [go_sem]; try exact rfl), by simp [go_sem], _, .inr (.inl rfl), ?_⟩
    simp
end La

namespace La
open Go Go.Eng Go.Proofs
set_option maxRecDepth 10000
set_option linter.unusedSimpArgs false
set_option linter.unusedVariables false

set_option maxHeartbeats 1000000 in
theorem all_good (l : List Node) (al : List Act) (v : Int) (st : Nat → List Node) (hl : Small l) (hlen : al.length ≤ 100000000) (h0 : st 0 = l)
    (hs : ∀ i, i < al.length → FitA (st i) (al.getD i default) ∧ (al.getD i default).kind ≠ 5 ∧ applyE (st i) (al.getD i default) = 0 ∧ st (i + 1) = applyL (st i) (al.getD i default) v) :
    FnOK Try.prog 98 [.sl (l.map nodeRow), .sl (al.map actRow), .int .i64 v] [] (fun r _ => r = .tup [.sl ((st al.length).map nodeRow), .int .i64 al.length, .int .i64 0]) := by
  refine fn_of_cwW tabOK (Go.Proofs.Try.func98) rfl (fun C => ?_)
  simp only [Go.Proofs.Try.ntmps98, Go.Proofs.Try.results98, go_sem]
  refine cw_go tabOK 99 (by simp only [go_sem]; try exact rfl) (by simp [go_sem]) ?_
  refine cw_call rfl rfl (by simp only [go_sem]; try exact rfl) (by simp [go_sem]) ⟨_, Go.Proofs.Try.func86, by kernel_rfl, rfl⟩ (by simp [go_sem]) (own_ok l hl) (by simp [go_sem]) (by simp only [go_sem]; exact rfl) ?_
  refine cw_go tabOK 99 (by simp only [go_sem]; try exact rfl) (by simp [go_sem]) ?_
  rw [← h0]
  refine cw_loopS (fun i : Nat => i ≤ al.length) (fun i => al.length - i) (fun i => [(9, .sl ((st i).map nodeRow)), (10, .any), (11, .any), (12, .any), (13, .any), (18, .int .i64 i), (19, .any), (20, .any), (21, .any), (22, .any), (23, .any), (24, .any), (25, .any), (26, .any), (27, .any), (28, .any), (29, .any), (30, .any), (31, .any), (32, .any), (33, .any), (34, .any), (35, .any)]) (fun _ => []) 0 (by omega) ?_ fun i hi => ?_
  · simp only [go_sem]
    exact le_sub (by simp [go_sem]) (by simp [go_sem]) (by simp [go_sem])
  simp only [go_sem]
  refine cw_go tabOK 99 (by simp only [go_sem]; try exact rfl) (by simp [go_sem]) ?_
  refine cw_cond (by simp only [go_sem]; try exact rfl) trivial (fun h => ?_) (fun h => ?_)
  · have hlt : i < al.length := by simp at h; omega
    have hg : (al.map actRow).getD i [] = actRow (al.getD i default) := Fam.getD hlt
    have hw : IntKind.i64.wrap ((i : Int) + 1) = ((i + 1 : Nat) : Int) := by rw [Eng.wrap_small (by omega) (by omega)]; rfl
    obtain ⟨h1, h2, h3, h4⟩ := hs i hlt
    have hap := apply_ok (st i) (al.getD i default) v h1 (fun h => absurd h h2)
    unfold applyR at hap
    rw [if_pos h3, ← h4] at hap
    generalize al.getD i default = a at hg hap
    refine cw_go tabOK 99 (by simp only [go_sem, hg, actRow]; try exact rfl) ?_ ?_
    · simp [hg, hlt, actRow]
    refine cw_call rfl rfl (by simp only [go_sem]; try exact rfl) (by simp [go_sem]) ⟨_, Go.Proofs.Try.func40, by kernel_rfl, rfl⟩ (by simp [go_sem]) (hap) (by simp [go_sem]) (by simp only [go_sem]; exact rfl) ?_
    refine cw_go tabOK 99 (by simp only [go_sem]; try exact rfl) (by simp [go_sem]) ?_
    refine cw_cond (by simp only [go_sem]; try exact rfl) trivial (fun h => ?_) (fun h => ?_)
    · cases h
    refine cw_go tabOK 99 (by simp only [go_sem, hw]; try exact rfl) (by simp [go_sem, hw]) ?_
    refine cw_back ⟨i + 1, by omega, by omega, le_sub ?_ ?_ ?_⟩
    · simp [go_sem]
    · simp [go_sem]
    · simp [go_sem]
  · have e : i = al.length := by simp at h; omega
    subst e
    refine cw_go tabOK 99 (by simp only [go_sem]; try exact rfl) (by simp [go_sem]) ?_
    refine cw_ret ⟨_, _, (by simp only [go_sem]; try exact rfl), by simp [go_sem], _, .inr (.inl rfl), ?_⟩
    rfl

def a3M : Act := ⟨1, 1, 0, [97], 0, [], []⟩
def a3S : Act := ⟨3, 1, 0, [], 0, [], [113]⟩
theorem a3fit (l : List Node) (a : Act) (h : l.length ≤ 1000) (h2 : ∀ n, n ∈ l → n.data.length ≤ 1000 ∧ n.entries.length ≤ 1000) (h3 : a.name.length ≤ 1000) (h4 : a.toName.length ≤ 1000) (h5 : a.data.length ≤ 1000) : FitA l a :=
  ⟨smallC_of l h h2, by omega, fun n hn => by have := (h2 n hn).2; omega, by omega, by omega, by omega⟩
theorem a3p1 : FnOK Try.prog 40 [.sl ([rootN].map nodeRow), .agg (actRow a3M), .int .i64 4] [] (fun r _ => r = .tup [.sl ([⟨0, true, [], [⟨[97], 1⟩], 4⟩, ⟨1, false, [], [], 4⟩].map nodeRow), .int .i64 0]) :=
  apply_ok [rootN] a3M 4 (a3fit _ _ (by decide) (by decide) (by decide) (by decide) (by decide)) (fun h => absurd h (by decide))
def a3st : Nat → List Node
  | 0 => [rootN]
  | 1 => [⟨0, true, [], [⟨[97], 1⟩], 1⟩, ⟨1, false, [], [], 1⟩]
  | _ => [⟨0, true, [], [⟨[97], 1⟩], 1⟩, ⟨1, false, [113], [], 1⟩]
theorem a3p2 : FnOK Try.prog 98 [.sl ([rootN].map nodeRow), .sl ([a3M, a3S].map actRow), .int .i64 1] [] (fun r _ => r = .tup [.sl ([⟨0, true, [], [⟨[97], 1⟩], 1⟩, ⟨1, false, [113], [], 1⟩].map nodeRow), .int .i64 2, .int .i64 0]) :=
  all_good [rootN] [a3M, a3S] 1 a3st a2s0 (by decide) rfl (fun i hi => by
    have : i = 0 ∨ i = 1 := by simp at hi; omega
    rcases this with rfl | rfl
    · exact ⟨a3fit _ _ (by decide) (by decide) (by decide) (by decide) (by decide), by decide, by decide, by decide⟩
    · exact ⟨a3fit _ _ (by decide) (by decide) (by decide) (by decide) (by decide), by decide, by decide, by decide⟩)
theorem a3p3 : FnOK Try.prog 99 [.agg (actRow ⟨5, 0, 0, [], 0, [], []⟩)] [] (fun r _ => r = .sl ([0, 0, 0].map intRow)) := fids_ok ⟨5, 0, 0, [], 0, [], []⟩
theorem a3p4 : FnOK Try.prog 72 [.agg (actRow ⟨0, 0, 0, [], 0, [], [120]⟩)] [] (fun r _ => r = .agg (actRow ⟨0, 0, 0, [], 0, [], [120]⟩)) := acts_own ⟨0, 0, 0, [], 0, [], [120]⟩ (by unfold Act.Small; decide)

set_option maxHeartbeats 2000000 in
theorem alive3 : FnOK Try.prog 39 [] [] (fun r _ => r = .bool true) := by
  refine fn_of_cwW tabOK (Go.Proofs.Try.func39) rfl (fun C => ?_)
  simp only [Go.Proofs.Try.ntmps39, Go.Proofs.Try.results39, go_sem]
  refine cw_go tabOK 99 (by simp only [go_sem]; try exact rfl) (by simp [go_sem]) ?_
  refine cw_freeze 8 rfl (rfl) ?_
  simp only [go_sem]
  refine cw_call rfl rfl (by simp only [go_sem]; try exact rfl) (by simp [go_sem]) ⟨_, Go.Proofs.Try.func40, by kernel_rfl, rfl⟩ (by simp [go_sem]) (by exact FnOK.nrm rfl (a3p1)) (by simp [go_sem]) (by simp only [go_sem]; exact rfl) ?_
  refine cw_go tabOK 99 (by simp only [go_sem]; try exact rfl) (by simp [go_sem]) ?_
  refine cw_step rfl (trip_bytes tabOK rfl rfl rfl (id := 17) (n := 1) (by simp only [go_sem]; try exact rfl) (by simp only [go_sem]; exact rfl) (by decide) rfl rfl) ?_
  simp only [go_sem]
  refine cw_go tabOK 99 (by simp only [go_sem]; try exact rfl) (by simp [go_sem]) ?_
  refine cw_freeze 15 rfl (rfl) ?_
  refine cw_freeze 20 rfl (rfl) ?_
  simp only [go_sem]
  refine cw_call rfl rfl (by simp only [go_sem]; try exact rfl) (by simp [go_sem]) ⟨_, Go.Proofs.Try.func98, by kernel_rfl, rfl⟩ (by simp [go_sem]) (by exact FnOK.nrm rfl (a3p2)) (by simp [go_sem]) (by simp only [go_sem]; exact rfl) ?_
  refine cw_go tabOK 99 (by simp only [go_sem, nodeRow]; try exact rfl) ?_ ?_
  · simp [go_sem, nodeRow]
  refine cw_callC rfl (by simp only [go_sem]; try exact rfl) (by simp only [go_sem]; try exact rfl) (by simp [go_sem]) ⟨_, Go.Proofs.Try.func99, by kernel_rfl, rfl⟩ (by simp [go_sem]) (fun hb => (by exact FnOK.nrm rfl (a3p3))) (by simp [go_sem]) (by simp only [go_sem]; exact rfl) ?_
  refine cw_go tabOK 99 (by simp only [go_sem]; try exact rfl) (by simp [go_sem]) ?_
  refine cw_step (by simp only [go_sem]; try exact rfl) (trip_bytes tabOK rfl rfl rfl (id := 62) (n := 1) (by simp only [go_sem]; try exact rfl) (by simp only [go_sem]; exact rfl) (by decide) rfl rfl) ?_
  simp only [go_sem]
  refine cw_go tabOK 99 (by simp only [go_sem]; try exact rfl) (by simp [go_sem]) ?_
  refine cw_callC rfl (by simp only [go_sem]; try exact rfl) (by simp only [go_sem]; try exact rfl) (by simp [go_sem]) ⟨_, Go.Proofs.Try.func72, by kernel_rfl, rfl⟩ (by simp [go_sem]) (fun hb => (by exact FnOK.nrm rfl (a3p4))) (by simp [go_sem]) (by simp only [go_sem]; exact rfl) ?_
  refine cw_go tabOK 99 (by simp only [go_sem, actRow]; try exact rfl) ?_ ?_
  · simp [go_sem, actRow]
  refine cw_ret ⟨_, _, (by simp only [go_sem]; try exact rfl), by simp [go_sem], _, .inr (.inl rfl), ?_⟩
  rfl
end La

namespace La
open Go Go.Eng Go.Proofs
set_option maxRecDepth 10000
set_option linter.unusedSimpArgs false
set_option linter.unusedVariables false

def a7M : Act := ⟨1, 0, 0, [97], 0, [], []⟩
def a7s0 : Srv := ⟨[rootN], 1, []⟩
def a7s1 : Srv := ⟨[⟨0, true, [], [⟨[97], 1⟩], 1⟩, ⟨1, false, [], [], 1⟩], 2, [⟨2, ⟨1, 1, 0, [97], 0, [], []⟩⟩]⟩
def a7R : Rec := ⟨⟨3, 1, 0, [], 0, [], [107]⟩, 1, 0⟩
def a7t : List Node := [⟨0, true, [], [⟨[97], 1⟩], 1⟩, ⟨1, false, [107], [], 2⟩]
def a7P : List Past := [⟨2, ⟨1, 1, 0, [97], 0, [], []⟩⟩, ⟨1, ⟨3, 1, 0, [], 0, [], [107]⟩⟩]
theorem a7fit : ActFit a7M := ⟨by decide, by decide, by decide⟩
theorem a7ok0 : SrvOK 0 a7s0 := SrvOK.new
theorem a7e : doE a7s0 a7M = 0 := by decide
theorem a7d : doS a7s0 2 a7M = a7s1 := rfl
theorem a7ok1 : SrvOK 1 a7s1 := by rw [← a7d]; exact a7ok0.step 2 a7fit a7e
theorem a7p1 : FnOK Try.prog 63 [.agg (srvRow a7s0), .int .i64 2, .agg (actRow a7M)] [] (fun r _ => r = .tup [.agg (srvRow a7s1), .int .i64 0]) := by
  have := do_raw a7s0 2 a7M a7ok0.hist.good ⟨by decide, by simp [a7s0]⟩ a7fit (by decide)
  unfold doR at this
  rwa [if_pos a7e, a7d] at this
theorem a7j : judgeJ a7s1.tree a7s1.next ((a7s1.past.length + 1 : Nat) : Int) [a7R] = ⟨⟨a7t, 2, 3, [], [(1, true)], []⟩, [⟨0, 1⟩], [a7R.act]⟩ := rfl
theorem a7k : takeS a7s1 1 [a7R] = ⟨a7t, 2, a7P⟩ := rfl
theorem a7f1 : ∀ r, r ∈ [a7R] → ActFit r.act := fun r hr => by rw [List.mem_singleton.1 hr]; exact ⟨by decide, by decide, by decide⟩
theorem a7p2 : FnOK Try.prog 64 [.agg (srvRow a7s1), .int .i64 1, .sl ([a7R].map recRow)] [] (fun r _ => r = .tup [.agg (srvRow ⟨a7t, 2, a7P⟩), .sl ([(⟨0, 1⟩ : Verdict)].map verdictRow)]) := by
  have := take_ok a7s1 (a7ok1.mono (by decide)) 1 [a7R] ⟨by decide, fun r hr => by rw [List.mem_singleton.1 hr]; unfold Act.Small; decide⟩ (by decide) a7f1
  rw [a7k, a7j] at this
  exact this
theorem a7ok2 : SrvOK 2 ⟨a7t, 2, a7P⟩ := by rw [← a7k]; exact a7ok1.take 1 a7f1
theorem replay_hist {p : List Past} {t : List Node} (h : Hist p t) (hlen : p.length ≤ 90000000) : FnOK Try.prog 65 [.sl (p.map pastRow)] [] (fun r _ => r = .tup [.sl (t.map nodeRow), .int .i64 0]) := by
  obtain ⟨st, h0, h1, h2⟩ := h.st
  rw [← h1]
  exact replay_ok p st hlen h0 h2
theorem a7p3 : FnOK Try.prog 65 [.sl (a7P.map pastRow)] [] (fun r _ => r = .tup [.sl (a7t.map nodeRow), .int .i64 0]) := replay_hist a7ok2.hist (by decide)
theorem a7p4 : FnOK Try.prog 119 [.agg (srvRow ⟨a7t, 2, a7P⟩)] [] (fun r _ => r = .int .i64 3) := version_ok ⟨a7t, 2, a7P⟩ (by decide)
theorem a7p5 : FnOK Try.prog 120 [.agg (srvRow ⟨a7t, 2, a7P⟩)] [] (fun r _ => r = .agg (srvRow ⟨a7t, 2, a7P⟩)) := sown_ok ⟨a7t, 2, a7P⟩ a7ok2.hist.good.small ⟨by decide, by decide⟩
set_option maxHeartbeats 2000000 in
theorem alive7 : FnOK Try.prog 61 [] [] (fun r _ => r = .bool true) := by
  have p0 := snew_ok
  have p1 := a7p1
  have p2 := a7p2
  have p4 := a7p4
  have p5 := a7p5
  simp only [srvRow, a7s0, a7s1] at p0 p1 p2 p4 p5
  refine fn_of_cwW tabOK (Go.Proofs.Try.func61) rfl (fun C => ?_)
  simp only [Go.Proofs.Try.ntmps61, Go.Proofs.Try.results61, go_sem]
  refine cw_go tabOK 99 (by simp only [go_sem]; try exact rfl) (by simp [go_sem]) ?_
  refine cw_call rfl rfl (by simp only [go_sem]; try exact rfl) (by simp [go_sem]) ⟨_, Go.Proofs.Try.func62, by kernel_rfl, rfl⟩ (by simp [go_sem]) (p0) (by simp [go_sem]) (by simp only [go_sem]; exact rfl) ?_
  refine cw_go tabOK 99 (by simp only [go_sem]; try exact rfl) (by simp [go_sem]) ?_
  refine cw_call rfl rfl (by simp only [go_sem]; try exact rfl) (by simp [go_sem]) ⟨_, Go.Proofs.Try.func63, by kernel_rfl, rfl⟩ (by simp [go_sem]) (by exact FnOK.nrm rfl (p1)) (by simp [go_sem]) (by simp only [go_sem]; exact rfl) ?_
  refine cw_go tabOK 99 (by simp only [go_sem]; try exact rfl) (by simp [go_sem]) ?_
  refine cw_step rfl (trip_bytes tabOK rfl rfl rfl (id := 15) (n := 1) (by simp only [go_sem]; try exact rfl) (by simp only [go_sem]; exact rfl) (by decide) rfl rfl) ?_
  simp only [go_sem]
  refine cw_go tabOK 99 (by simp only [go_sem]; try exact rfl) (by simp [go_sem]) ?_
  refine cw_freeze 19 rfl (rfl) ?_
  simp only [go_sem]
  refine cw_call rfl rfl (by simp only [go_sem]; try exact rfl) (by simp [go_sem]) ⟨_, Go.Proofs.Try.func64, by kernel_rfl, rfl⟩ (by simp [go_sem]) (by exact FnOK.nrm rfl (p2)) (by simp [go_sem]) (by simp only [go_sem]; exact rfl) ?_
  refine cw_go tabOK 99 (by simp only [go_sem]; try exact rfl) (by simp [go_sem]) ?_
  refine cw_call rfl rfl (by simp only [go_sem]; try exact rfl) (by simp [go_sem]) ⟨_, Go.Proofs.Try.func65, by kernel_rfl, rfl⟩ (by simp [go_sem]) (a7p3) (by simp [go_sem]) (by simp only [go_sem]; exact rfl) ?_
  refine cw_go tabOK 99 (by simp only [go_sem, pastRow, verdictRow]; try exact rfl) ?_ ?_
  · simp [go_sem, pastRow, verdictRow]
  refine cw_callC rfl (by simp only [go_sem]; try exact rfl) (by simp only [go_sem]; try exact rfl) (by simp [go_sem]) ⟨_, Go.Proofs.Try.func119, by kernel_rfl, rfl⟩ (by simp [go_sem]) (fun hb => (p4)) (by simp [go_sem]) (by simp only [go_sem]; exact rfl) ?_
  refine cw_go tabOK 99 (by simp only [go_sem, nodeRow, a7t]; try exact rfl) ?_ ?_
  · simp [go_sem, nodeRow, a7t]
  refine cw_callC rfl (by simp only [go_sem]; try exact rfl) (by simp only [go_sem]; try exact rfl) (by simp [go_sem]) ⟨_, Go.Proofs.Try.func120, by kernel_rfl, rfl⟩ (by simp [go_sem]) (fun hb => (p5)) (by simp [go_sem]) (by simp only [go_sem]; exact rfl) ?_
  refine cw_go tabOK 99 (by simp only [go_sem]; try exact rfl) (by simp [go_sem]) ?_
  refine cw_ret ⟨_, _, (by simp only [go_sem]; try exact rfl), by simp [go_sem], _, .inr (.inl rfl), ?_⟩
  rfl
end La

namespace La
open Go Go.Eng Go.Proofs
set_option maxRecDepth 10000
set_option linter.unusedSimpArgs false
set_option linter.unusedVariables false

/-- the server behind so many of the acts -/
noncomputable def srvAt (al : List Act) : Nat → Srv
  | 0 => ⟨[rootN], 1, []⟩
  | i + 1 => if doE (srvAt al i) (al.getD i default) = 0 then doS (srvAt al i) (i : Int) (al.getD i default) else srvAt al i
theorem srvAt_ok (al : List Act) (h : ∀ a, a ∈ al → ActFit a) : ∀ i, i ≤ al.length → SrvOK i (srvAt al i)
  | 0, _ => SrvOK.new
  | i + 1, hi => by
    have ih := srvAt_ok al h i (by omega)
    unfold srvAt
    split
    · rename_i he
      exact ih.step (i : Int) (h _ (getD_mem (by omega))) he
    · exact ih.mono (by omega)
theorem SrvOK.past {k : Nat} {s : Srv} (h : SrvOK k s) (hk : k ≤ 80000000) : SmallP s.past := ⟨by have := h.len; omega, fun p hp => by
  obtain ⟨st, _, _, h3⟩ := h.hist.st
  obtain ⟨i, hi⟩ := List.getElem?_of_mem hp
  have hil := (List.getElem?_eq_some_iff.1 hi).1
  have := (h3 i hil).2.1.data
  rwa [show s.past.getD i default = p by rw [List.getD_eq_getElem?_getD, hi]; rfl] at this⟩

theorem sameT_refl (v : Bool) (l : List Node) : sameT v l l = true := (sameT_iff v l l).2 ⟨rfl, fun j _ => by simp [sameN]⟩

set_option maxHeartbeats 2000000 in
theorem sreplay_ok (al : List Act) (log : List Rec) (hlen : al.length ≤ 2000000) (hfa : ∀ a, a ∈ al → ActFit a) (hlog : SmallL log) (hl2 : log.length ≤ 2000000) (hfit : ∀ r, r ∈ log → ActFit r.act) :
    FnOK Try.prog 14 [.sl (al.map actRow), .sl (log.map recRow)] [] (fun r _ => r = .bool true) := by
  have hz : srvAt al 0 = ⟨[rootN], 1, []⟩ := rfl
  have hs := fun i => @srvAt_ok al hfa i
  have hsu : ∀ i, srvAt al (i + 1) = if doE (srvAt al i) (al.getD i default) = 0 then doS (srvAt al i) (i : Int) (al.getD i default) else srvAt al i := fun i => rfl
  generalize srvAt al = S at *
  have p0 := snew_ok
  unfold srvRow at p0
  refine fn_of_cwW tabOK (Go.Proofs.Try.func14) rfl (fun C => ?_)
  simp only [Go.Proofs.Try.ntmps14, Go.Proofs.Try.results14, go_sem]
  refine cw_go tabOK 99 (by simp only [go_sem]; try exact rfl) (by simp [go_sem]) ?_
  refine cw_call rfl rfl (by simp only [go_sem]; try exact rfl) (by simp [go_sem]) ⟨_, Go.Proofs.Try.func61, by kernel_rfl, rfl⟩ (by simp [go_sem]) (alive7) (by simp [go_sem]) (by simp only [go_sem]; exact rfl) ?_
  refine cw_go tabOK 99 (by simp only [go_sem]; try exact rfl) (by simp [go_sem]) ?_
  refine cw_cond (by simp only [go_sem]; try exact rfl) trivial (fun h => ?_) (fun h => ?_)
  · cases h
  refine cw_go tabOK 99 (by simp only [go_sem]; try exact rfl) (by simp [go_sem]) ?_
  refine cw_call rfl rfl (by simp only [go_sem]; try exact rfl) (by simp [go_sem]) ⟨_, Go.Proofs.Try.func62, by kernel_rfl, rfl⟩ (by simp [go_sem]) (p0) (by simp [go_sem]) (by simp only [go_sem]; exact rfl) ?_
  refine cw_go tabOK 99 (by simp only [go_sem]; try exact rfl) (by simp [go_sem]) ?_
  refine cw_loopS (fun i : Nat => i ≤ al.length) (fun i => al.length - i) (fun i => [(6, .any), (7, .any), (8, .any), (9, .any), (17, .int .i64 i), (18, .any), (19, .any), (20, .any), (21, .any), (22, .any), (23, .any), (24, .any), (25, .any), (26, .any), (27, .any), (28, .any), (29, .any), (30, .any), (31, .any), (32, .any)])
    (fun i => [(5, .cells 97 3 [srvRow (S i)])]) 0 (by omega) ?_ fun i hi => ?_
  · rw [hz]
    unfold srvRow
    simp only [go_sem]
    exact le_sub (by simp [go_sem]) (by simp [go_sem]) (by simp [go_sem])
  unfold srvRow
  simp only [go_sem]
  refine cw_go tabOK 99 (by simp only [go_sem]; try exact rfl) (by simp [go_sem]) ?_
  refine cw_cond (by simp only [go_sem]; try exact rfl) trivial (fun h => ?_) (fun h => ?_)
  · have hlt : i < al.length := by simp at h; omega
    have hg : (al.map actRow).getD i [] = actRow (al.getD i default) := Fam.getD hlt
    have hsi := hs i (by omega)
    have hui := hsu i
    have hfi := hfa _ (getD_mem hlt)
    have how' : IntKind.i64.wrap ((i : Int) + 1) = ((i + 1 : Nat) : Int) := by rw [Eng.wrap_small (by omega) (by omega)]; rfl
    clear hs hsu
    generalize al.getD i default = a at *
    have hdo := do_raw (S i) (i : Int) a hsi.hist.good (hsi.past (by omega)) hfi (by have := hsi.next; omega)
    unfold doR at hdo
    generalize S i = s at *
    generalize doS s (i : Int) a = sd at *
    generalize doE s a = e at *
    unfold srvRow at hdo
    by_cases he : e = 0
    · rw [if_pos he] at hdo hui
      subst he
      refine cw_go tabOK 99 (by simp only [go_sem, hg, actRow]; try exact rfl) ?_ ?_
      · simp [hg, actRow, hlt]
      refine cw_freeze 7 rfl (rfl) ?_
      simp only [go_sem]
      unfold actRow at hdo
      refine cw_call rfl rfl (by simp only [go_sem]; try exact rfl) (by simp [go_sem]) ⟨_, Go.Proofs.Try.func63, by kernel_rfl, rfl⟩ (by simp [go_sem]) (hdo) (by simp [go_sem]) (by simp only [go_sem]; exact rfl) ?_
      refine cw_go tabOK 99 (by simp only [go_sem]; try exact rfl) (by simp [go_sem]) ?_
      refine cw_condT (by simp only [go_sem]; try exact rfl) trivial (rfl) ?_
      refine cw_go tabOK 99 (by simp only [go_sem, how']; try exact rfl) (by simp [go_sem, how']) ?_
      refine cw_back ⟨i + 1, by omega, by omega, le_sub ?_ ?_ ?_⟩
      · simp [go_sem]
      · simp [go_sem, hui, srvRow]
      · simp [go_sem]
    · rw [if_neg he] at hdo hui
      refine cw_go tabOK 99 (by simp only [go_sem, hg, actRow]; try exact rfl) ?_ ?_
      · simp [hg, actRow, hlt]
      refine cw_freeze 7 rfl (rfl) ?_
      simp only [go_sem]
      unfold actRow at hdo
      refine cw_call rfl rfl (by simp only [go_sem]; try exact rfl) (by simp [go_sem]) ⟨_, Go.Proofs.Try.func63, by kernel_rfl, rfl⟩ (by simp [go_sem]) (hdo) (by simp [go_sem]) (by simp only [go_sem]; exact rfl) ?_
      refine cw_go tabOK 99 (by simp only [go_sem]; try exact rfl) (by simp [go_sem]) ?_
      refine cw_condF (by simp only [go_sem]; try exact rfl) trivial (by simp [he]) ?_
      refine cw_go tabOK 99 (by simp only [go_sem, how']; try exact rfl) (by simp [go_sem, how']) ?_
      refine cw_back ⟨i + 1, by omega, by omega, le_sub ?_ ?_ ?_⟩
      · simp [go_sem]
      · simp [go_sem, hui, srvRow]
      · simp [go_sem]
  · have e : i = al.length := by simp at h; omega
    subst e
    have hsi := hs al.length (by omega)
    generalize S al.length = s at *
    have htk := take_ok s (hsi.mono (by omega)) 9 log hlog hl2 hfit
    have hok := hsi.take 9 hfit
    generalize takeS s 9 log = q at *
    generalize judgeJ s.tree s.next ((s.past.length + 1 : Nat) : Int) log = g at *
    have hrep := replay_hist hok.hist (by have := hok.len; omega)
    have hsame := same_ok q.tree q.tree true hok.hist.good.small hok.hist.good.small
    rw [sameT_refl] at hsame
    unfold srvRow at htk
    refine cw_go tabOK 99 (by simp only [go_sem]; try exact rfl) (by simp [go_sem]) ?_
    refine cw_call rfl rfl (by simp only [go_sem]; try exact rfl) (by simp [go_sem]) ⟨_, Go.Proofs.Try.func64, by kernel_rfl, rfl⟩ (by simp [go_sem]) (htk) (by simp [go_sem]) (by simp only [go_sem]; exact rfl) ?_
    refine cw_go tabOK 99 (by simp only [go_sem]; try exact rfl) (by simp [go_sem]) ?_
    refine cw_call rfl rfl (by simp only [go_sem]; try exact rfl) (by simp [go_sem]) ⟨_, Go.Proofs.Try.func65, by kernel_rfl, rfl⟩ (by simp [go_sem]) (hrep) (by simp [go_sem]) (by simp only [go_sem]; exact rfl) ?_
    refine cw_go tabOK 99 (by simp only [go_sem]; try exact rfl) (by simp [go_sem]) ?_
    refine cw_callC rfl (by simp only [go_sem]; try exact rfl) (by simp only [go_sem]; try exact rfl) (by simp [go_sem]) ⟨_, Go.Proofs.Try.func29, by kernel_rfl, rfl⟩ (by simp [go_sem]) (fun hb => (hsame)) (by simp [go_sem]) (by simp only [go_sem]; exact rfl) ?_
    refine cw_go tabOK 99 (by simp only [go_sem]; try exact rfl) (by simp [go_sem]) ?_
    refine cw_ret ⟨_, _, (by simp only [go_sem]; try exact rfl), by simp [go_sem], _, .inr (.inl rfl), ?_⟩
    rfl
end La

namespace La
open Go Go.Eng

def Edge (l : List Node) (d : Int) (s : List UInt8) (f : Int) : Prop := ∃ n, n ∈ l ∧ n.fid = d ∧ (⟨s, f⟩ : Entry) ∈ n.entries
def FidIn (l : List Node) (f : Int) : Prop := ∃ n, n ∈ l ∧ n.fid = f
structure Loc (n : Node) : Prop where
  eup : EUp n.entries
  file : n.dir = false → n.entries = []
  dirD : n.dir = true → n.data = []
structure Wh (l : List Node) : Prop where
  good : Good l
  loc : ∀ n, n ∈ l → Loc n
  name : ∀ d s f, Edge l d s f → nameB s = true
  there : ∀ d s f, Edge l d s f → FidIn l f
  noroot : ∀ d s f, Edge l d s f → f ≠ 0
  par : ∀ f, FidIn l f → f ≠ 0 → ∃ d s, Edge l d s f
  one : ∀ d s d' s' f, Edge l d s f → Edge l d' s' f → d = d' ∧ s = s'
  root : ∃ n, n ∈ l ∧ n.fid = 0 ∧ n.dir = true

theorem up_same {l : List Node} (h : Up l) {a b : Node} (ha : a ∈ l) (hb : b ∈ l) (hf : a.fid = b.fid) : a = b := by
  have h1 := (findN_some h).2 ⟨ha, rfl⟩
  have h2 := (findN_some h).2 ⟨hb, hf.symm⟩
  rw [h1] at h2; injection h2
theorem edge_at {l : List Node} (h : Up l) {n : Node} (hn : n ∈ l) {s : List UInt8} {f : Int} : Edge l n.fid s f ↔ (⟨s, f⟩ : Entry) ∈ n.entries :=
  ⟨fun ⟨m, hm, hf, he⟩ => by rw [up_same h hm hn hf] at he; exact he, fun he => ⟨n, hn, rfl, he⟩⟩
theorem edge_put {l : List Node} (h : Up l) (n : Node) {d : Int} {s : List UInt8} {f : Int} : Edge (putN l n) d s f ↔ (d = n.fid ∧ (⟨s, f⟩ : Entry) ∈ n.entries) ∨ (d ≠ n.fid ∧ Edge l d s f) := by
  obtain ⟨_, h2⟩ := putN_up h n
  constructor
  · rintro ⟨m, hm, rfl, he⟩
    rcases (h2 m).1 hm with rfl | ⟨hm, hne⟩
    · exact .inl ⟨rfl, he⟩
    · exact .inr ⟨hne, m, hm, rfl, he⟩
  · rintro (⟨rfl, he⟩ | ⟨hne, m, hm, rfl, he⟩)
    · exact ⟨n, (h2 n).2 (.inl rfl), rfl, he⟩
    · exact ⟨m, (h2 m).2 (.inr ⟨hm, hne⟩), rfl, he⟩
theorem fid_put {l : List Node} (h : Up l) (n : Node) {f : Int} : FidIn (putN l n) f ↔ f = n.fid ∨ FidIn l f := by
  obtain ⟨_, h2⟩ := putN_up h n
  constructor
  · rintro ⟨m, hm, rfl⟩
    rcases (h2 m).1 hm with rfl | ⟨hm, hne⟩
    · exact .inl rfl
    · exact .inr ⟨m, hm, rfl⟩
  · rintro (rfl | ⟨m, hm, rfl⟩)
    · exact ⟨n, (h2 n).2 (.inl rfl), rfl⟩
    · by_cases hne : m.fid = n.fid
      · exact ⟨n, (h2 n).2 (.inl rfl), hne.symm⟩
      · exact ⟨m, (h2 m).2 (.inr ⟨hm, hne⟩), rfl⟩
theorem edge_drop {l : List Node} (k : Int) {d : Int} {s : List UInt8} {f : Int} : Edge (dropN l k) d s f ↔ Edge l d s f ∧ d ≠ k := by
  constructor
  · rintro ⟨m, hm, rfl, he⟩
    have := List.mem_filter.1 hm
    exact ⟨⟨m, this.1, rfl, he⟩, by simpa using this.2⟩
  · rintro ⟨⟨m, hm, rfl, he⟩, hk⟩
    exact ⟨m, List.mem_filter.2 ⟨hm, by simpa using hk⟩, rfl, he⟩
theorem fid_drop {l : List Node} (k : Int) {f : Int} : FidIn (dropN l k) f ↔ FidIn l f ∧ f ≠ k := by
  constructor
  · rintro ⟨m, hm, rfl⟩
    have := List.mem_filter.1 hm
    exact ⟨⟨m, this.1, rfl⟩, by simpa using this.2⟩
  · rintro ⟨⟨m, hm, rfl⟩, hk⟩
    exact ⟨m, List.mem_filter.2 ⟨hm, by simpa using hk⟩, rfl⟩
theorem enter_mem {l : List Entry} (h : EUp l) {s0 : List UInt8} (hs : isE l s0 = false) (f0 : Int) {s : List UInt8} {f : Int} : (⟨s, f⟩ : Entry) ∈ enterE l s0 f0 ↔ (s = s0 ∧ f = f0) ∨ (⟨s, f⟩ : Entry) ∈ l := by
  rw [(enterE_up h hs f0).2.1]
  simp
theorem leave_mem {l : List Entry} {s0 s : List UInt8} {f : Int} : (⟨s, f⟩ : Entry) ∈ leaveE l s0 ↔ (⟨s, f⟩ : Entry) ∈ l ∧ s ≠ s0 := by
  unfold leaveE
  rw [List.mem_filter]
  simp
theorem leave_up {l : List Entry} (h : EUp l) (s : List UInt8) : EUp (leaveE l s) := h.sublist List.filter_sublist

theorem roomE_free {n : Node} {s : List UInt8} (h : roomE n s = 0) : nameB s = true ∧ isE n.entries s = false := by
  unfold roomE at h
  split at h
  · rename_i h1
    split at h
    · omega
    · rename_i h2
      exact ⟨h1, by simpa using h2⟩
  · omega
theorem fid_of_find {l : List Node} {k : Int} {n : Node} (hu : Up l) (h : findN l k = some n) : FidIn l k := by
  obtain ⟨h1, h2⟩ := (findN_some hu).1 h
  exact ⟨n, h1, h2⟩
theorem notIn_of {l : List Node} {k : Int} (hu : Up l) (h : isAt l k = false) : ¬ FidIn l k := by
  rintro ⟨m, hm, rfl⟩
  have := (findN_some hu).2 ⟨hm, rfl⟩
  rw [isAt_of this] at h; cases h

theorem wh_make {l : List Node} (h : Wh l) (a : Act) (v : Int) (he : makeE l a = 0) : Wh (makeL l a v) := by
  have hg := good_make h.good a v he
  have hu := h.good.up
  have hL : makeL l a v = putN (putN l { enterN (getN l a.dir) a.name a.fid with version := v }) (madeN a v) := by unfold makeL; rw [if_pos he]
  unfold makeE at he
  split at he
  case isFalse hd => exact absurd he hd
  rename_i hd
  obtain ⟨n, hf, hgn, hdir⟩ := dirE_zero hd
  rw [hgn] at he hL
  obtain ⟨hn, hnk⟩ := (findN_some hu).1 hf
  split at he
  case isFalse hr => exact absurd he hr
  rename_i hro
  obtain ⟨hnm, hfree⟩ := roomE_free hro
  split at he
  · omega
  rename_i hnew
  have hno : isAt l a.fid = false ∧ a.fid ≠ 0 := by simpa using hnew
  have hnin := notIn_of hu hno.1
  have hl := h.loc n hn
  have hu1 := (putN_up hu { enterN n a.name a.fid with version := v }).1
  have hnf : n.fid ≠ a.fid := fun e => hnin ⟨n, hn, e⟩
  rw [hL] at hg ⊢
  have hE : ∀ d s f, Edge (putN (putN l { enterN n a.name a.fid with version := v }) (madeN a v)) d s f ↔ Edge l d s f ∨ (d = n.fid ∧ s = a.name ∧ f = a.fid) := fun d s f => by
    rw [edge_put hu1, edge_put hu]
    show (d = a.fid ∧ (⟨s, f⟩ : Entry) ∈ []) ∨ (d ≠ a.fid ∧ ((d = n.fid ∧ (⟨s, f⟩ : Entry) ∈ enterE n.entries a.name a.fid) ∨ (d ≠ n.fid ∧ Edge l d s f))) ↔ _
    rw [enter_mem hl.eup hfree]
    constructor
    · rintro (⟨_, h0⟩ | ⟨h1, ⟨rfl, h2 | h2⟩ | ⟨h2, h3⟩⟩)
      · cases h0
      · exact .inr ⟨rfl, h2⟩
      · exact .inl ⟨n, hn, rfl, h2⟩
      · exact .inl h3
    · rintro (h1 | ⟨rfl, rfl, rfl⟩)
      · refine .inr ⟨fun e => ?_, ?_⟩
        · obtain ⟨m, hm, hmf, _⟩ := h1
          exact hnin ⟨m, hm, hmf.trans e⟩
        · by_cases hd : d = n.fid
          · subst hd; exact .inl ⟨rfl, .inr ((edge_at hu hn).1 h1)⟩
          · exact .inr ⟨hd, h1⟩
      · exact .inr ⟨hnf, .inl ⟨rfl, .inl ⟨rfl, rfl⟩⟩⟩
  have hF : ∀ f, FidIn (putN (putN l { enterN n a.name a.fid with version := v }) (madeN a v)) f ↔ f = a.fid ∨ FidIn l f := fun f => by
    rw [fid_put hu1, fid_put hu]
    show f = a.fid ∨ f = n.fid ∨ FidIn l f ↔ _
    constructor
    · rintro (h | rfl | h)
      · exact .inl h
      · exact .inr ⟨n, hn, rfl⟩
      · exact .inr h
    · rintro (h | h)
      · exact .inl h
      · exact .inr (.inr h)
  refine ⟨hg, fun x hx => ?_, fun d s f hd => ?_, fun d s f hd => ?_, fun d s f hd => ?_, fun f hf h0 => ?_, fun d s d' s' f h1 h2 => ?_, ?_⟩
  · rcases pmem hx with rfl | hx
    · exact ⟨by unfold EUp; simp [madeN], fun _ => rfl, fun _ => rfl⟩
    · rcases pmem hx with rfl | hx
      · exact ⟨(enterE_up hl.eup hfree a.fid).1, fun h0 => (by
          have h0 : n.dir = false := h0
          rw [hdir] at h0; cases h0), hl.dirD⟩
      · exact h.loc x hx
  · rcases (hE d s f).1 hd with h1 | ⟨_, rfl, _⟩
    · exact h.name d s f h1
    · exact hnm
  · rcases (hE d s f).1 hd with h1 | ⟨_, _, rfl⟩
    · exact (hF f).2 (.inr (h.there d s f h1))
    · exact (hF _).2 (.inl rfl)
  · rcases (hE d s f).1 hd with h1 | ⟨_, _, rfl⟩
    · exact h.noroot d s f h1
    · exact hno.2
  · rcases (hF f).1 hf with rfl | hf
    · exact ⟨n.fid, a.name, (hE _ _ _).2 (.inr ⟨rfl, rfl, rfl⟩)⟩
    · obtain ⟨d, s, h1⟩ := h.par f hf h0
      exact ⟨d, s, (hE _ _ _).2 (.inl h1)⟩
  · rcases (hE d s f).1 h1 with h1 | ⟨rfl, rfl, rfl⟩
    · rcases (hE d' s' f).1 h2 with h2 | ⟨rfl, rfl, rfl⟩
      · exact h.one d s d' s' f h1 h2
      · exact absurd (h.there _ _ _ h1) hnin
    · rcases (hE d' s' _).1 h2 with h2 | ⟨rfl, rfl, _⟩
      · exact absurd (h.there _ _ _ h2) hnin
      · exact ⟨rfl, rfl⟩
  · obtain ⟨m, hm, hm0, hmd⟩ := h.root
    have hmem : ∀ x, x ∈ putN l { enterN n a.name a.fid with version := v } → x.fid ≠ a.fid → x ∈ putN (putN l { enterN n a.name a.fid with version := v }) (madeN a v) := fun x hx hne => ((putN_up hu1 (madeN a v)).2 x).2 (.inr ⟨hx, hne⟩)
    by_cases hmn : m.fid = n.fid
    · refine ⟨{ enterN n a.name a.fid with version := v }, hmem _ (((putN_up hu _).2 _).2 (.inl rfl)) hnf, hmn.symm.trans hm0, hdir⟩
    · exact ⟨m, hmem _ (((putN_up hu _).2 _).2 (.inr ⟨hm, hmn⟩)) (by rw [hm0]; exact fun e => hno.2 e.symm), hm0, hmd⟩

theorem wh_store {l : List Node} (h : Wh l) (a : Act) (v : Int) (he : storeE l a = 0) : Wh (storeL l a v) := by
  have hg := good_store h.good a v he
  have hu := h.good.up
  have hL : storeL l a v = putN l { getN l a.fid with data := a.data, version := v } := by unfold storeL; rw [if_pos he]
  unfold storeE at he
  cases hf : findN l a.fid with
  | none => rw [hf] at he; simp at he
  | some n =>
    rw [hf] at he
    simp only at he
    obtain ⟨hn, hnk⟩ := (findN_some hu).1 hf
    have hgn : getN l a.fid = n := by unfold getN; rw [hf]; rfl
    rw [hgn] at hL
    split at he
    · omega
    rename_i hdir
    rw [hL] at hg ⊢
    have hE : ∀ d s f, Edge (putN l { n with data := a.data, version := v }) d s f ↔ Edge l d s f := fun d s f => by
      rw [edge_put hu]
      show (d = n.fid ∧ (⟨s, f⟩ : Entry) ∈ n.entries) ∨ (d ≠ n.fid ∧ Edge l d s f) ↔ _
      constructor
      · rintro (⟨rfl, h1⟩ | ⟨_, h1⟩)
        · exact ⟨n, hn, rfl, h1⟩
        · exact h1
      · intro h1
        by_cases hd : d = n.fid
        · subst hd; exact .inl ⟨rfl, (edge_at hu hn).1 h1⟩
        · exact .inr ⟨hd, h1⟩
    have hF : ∀ f, FidIn (putN l { n with data := a.data, version := v }) f ↔ FidIn l f := fun f => by
      rw [fid_put hu]
      show f = n.fid ∨ FidIn l f ↔ _
      constructor
      · rintro (rfl | h)
        · exact ⟨n, hn, rfl⟩
        · exact h
      · exact .inr
    refine ⟨hg, fun x hx => ?_, fun d s f hd => h.name d s f ((hE _ _ _).1 hd), fun d s f hd => (hF _).2 (h.there d s f ((hE _ _ _).1 hd)), fun d s f hd => h.noroot d s f ((hE _ _ _).1 hd), fun f hf h0 => ?_, fun d s d' s' f h1 h2 => h.one d s d' s' f ((hE _ _ _).1 h1) ((hE _ _ _).1 h2), ?_⟩
    · rcases pmem hx with rfl | hx
      · have hl := h.loc n hn
        exact ⟨hl.eup, hl.file, fun h0 => absurd h0 hdir⟩
      · exact h.loc x hx
    · obtain ⟨d, s, h1⟩ := h.par f ((hF f).1 hf) h0
      exact ⟨d, s, (hE _ _ _).2 h1⟩
    · obtain ⟨m, hm, hm0, hmd⟩ := h.root
      refine ⟨m, ((putN_up hu _).2 m).2 (.inr ⟨hm, fun e => ?_⟩), hm0, hmd⟩
      have : m = n := up_same hu hm hn e
      subst this
      exact hdir hmd

theorem named_edge {l : List Node} (h : Wh l) {a : Act} (he : namedE l a = 0) : ∃ n, findN l a.dir = some n ∧ getN l a.dir = n ∧ n ∈ l ∧ n.fid = a.dir ∧ n.dir = true ∧ Edge l a.dir a.name a.fid := by
  unfold namedE at he
  split at he
  case isFalse hd => exact absurd he hd
  rename_i hd
  obtain ⟨n, hf, hgn, hdir⟩ := dirE_zero hd
  obtain ⟨hn, hnk⟩ := (findN_some h.good.up).1 hf
  rw [hgn] at he
  cases e : entryN n a.name with
  | none => rw [e] at he; simp at he
  | some f =>
    rw [e] at he
    simp only at he
    split at he
    case isFalse hd => omega
    rename_i hff
    subst hff
    exact ⟨n, hf, hgn, hn, hnk, hdir, n, hn, hnk, (entryN_some (h.loc n hn).eup).1 e⟩

theorem edge_left {l : List Node} (hu : Up l) {n : Node} (hn : n ∈ l) (s0 : List UInt8) (v : Int) {d : Int} {s : List UInt8} {f : Int} : Edge (putN l { leaveN n s0 with version := v }) d s f ↔ Edge l d s f ∧ ¬ (d = n.fid ∧ s = s0) := by
  rw [edge_put hu]
  show (d = n.fid ∧ (⟨s, f⟩ : Entry) ∈ leaveE n.entries s0) ∨ (d ≠ n.fid ∧ Edge l d s f) ↔ _
  rw [leave_mem]
  constructor
  · rintro (⟨rfl, h1, h2⟩ | ⟨h1, h2⟩)
    · exact ⟨⟨n, hn, rfl, h1⟩, fun h => h2 h.2⟩
    · exact ⟨h2, fun h => h1 h.1⟩
  · rintro ⟨h1, h2⟩
    by_cases hd : d = n.fid
    · subst hd; exact .inl ⟨rfl, (edge_at hu hn).1 h1, fun e => h2 ⟨rfl, e⟩⟩
    · exact .inr ⟨hd, h1⟩

theorem wh_remove {l : List Node} (h : Wh l) (a : Act) (v : Int) (he : removeE l a = 0) : Wh (removeL l a v) := by
  have hg := good_remove h.good a v he
  have hu := h.good.up
  have hL : removeL l a v = dropN (putN l { leaveN (getN l a.dir) a.name with version := v }) a.fid := by unfold removeL; rw [if_pos he]
  unfold removeE at he
  split at he
  case isFalse hd => exact absurd he hd
  rename_i hnd
  obtain ⟨n, hf, hgn, hn, hnk, hdir, hed⟩ := named_edge h hnd
  rw [hgn] at hL
  cases hx : findN l a.fid with
  | none => rw [hx] at he; simp at he
  | some x =>
    rw [hx] at he
    simp only at he
    obtain ⟨hxm, hxf⟩ := (findN_some hu).1 hx
    have hxe : x.entries = [] := by
      cases e : x.entries with
      | nil => rfl
      | cons p q => rw [e] at he; simp at he
    rw [hL] at hg ⊢
    have hnoE : ∀ s f, ¬ Edge l a.fid s f := fun s f h1 => by
      rw [← hxf] at h1
      have := (edge_at hu hxm).1 h1
      rw [hxe] at this; cases this
    have hE : ∀ d s f, Edge (dropN (putN l { leaveN n a.name with version := v }) a.fid) d s f ↔ Edge l d s f ∧ ¬ (d = a.dir ∧ s = a.name) := fun d s f => by
      rw [edge_drop, edge_left hu hn, hnk]
      constructor
      · exact fun h => h.1
      · exact fun h => ⟨h, fun e => by subst e; exact hnoE s f h.1⟩
    have hF : ∀ f, FidIn (dropN (putN l { leaveN n a.name with version := v }) a.fid) f ↔ FidIn l f ∧ f ≠ a.fid := fun f => by
      rw [fid_drop, fid_put hu]
      show (f = n.fid ∨ FidIn l f) ∧ f ≠ a.fid ↔ _
      constructor
      · rintro ⟨rfl | h, h1⟩
        · exact ⟨⟨n, hn, rfl⟩, h1⟩
        · exact ⟨h, h1⟩
      · rintro ⟨h, h1⟩
        exact ⟨.inr h, h1⟩
    have hup1 := (putN_up hu { leaveN n a.name with version := v })
    refine ⟨hg, fun x hx => ?_, fun d s f hd => h.name d s f ((hE _ _ _).1 hd).1, fun d s f hd => (hF _).2 ⟨h.there d s f ((hE _ _ _).1 hd).1, fun e => ?_⟩, fun d s f hd => h.noroot d s f ((hE _ _ _).1 hd).1, fun f hf h0 => ?_, fun d s d' s' f h1 h2 => h.one d s d' s' f ((hE _ _ _).1 h1).1 ((hE _ _ _).1 h2).1, ?_⟩
    · rcases pmem (List.mem_filter.1 hx).1 with rfl | hx
      · have hl := h.loc n hn
        exact ⟨leave_up hl.eup _, fun h0 => by
          show leaveE n.entries a.name = []
          rw [hl.file h0]; rfl, hl.dirD⟩
      · exact h.loc x hx
    · subst e
      obtain ⟨h1, h2⟩ := (hE _ _ _).1 hd
      exact h2 (h.one _ _ _ _ _ h1 hed)
    · obtain ⟨h1, h2⟩ := (hF f).1 hf
      obtain ⟨d, s, h3⟩ := h.par f h1 h0
      refine ⟨d, s, (hE _ _ _).2 ⟨h3, fun e => ?_⟩⟩
      obtain ⟨rfl, rfl⟩ := e
      obtain ⟨m, hm, hmf, hme⟩ := hed
      obtain ⟨m', hm', hmf', hme'⟩ := h3
      have : m = m' := up_same hu hm hm' (hmf.trans hmf'.symm)
      subst this
      have := (h.loc m hm).eup.same hme hme' rfl
      injection this with _ h5
      exact h2 h5.symm
    · obtain ⟨m, hm, hm0, hmd⟩ := h.root
      have h0 : (0 : Int) ≠ a.fid := fun e => h.noroot _ _ _ hed e.symm
      by_cases hmn : m.fid = n.fid
      · exact ⟨{ leaveN n a.name with version := v }, List.mem_filter.2 ⟨(hup1.2 _).2 (.inl rfl), by
          show (!(n.fid == a.fid)) = true
          rw [← hmn, hm0]; simpa using h0⟩, hmn.symm.trans hm0, hdir⟩
      · exact ⟨m, List.mem_filter.2 ⟨(hup1.2 _).2 (.inr ⟨hm, hmn⟩), by rw [hm0]; simpa using h0⟩, hm0, hmd⟩

theorem wh_rename {l : List Node} (h : Wh l) (a : Act) (v : Int) (he : renameE l a = 0) : Wh (renameL l a v) := by
  have hg := good_rename h.good a v he
  have hu := h.good.up
  have hL : renameL l a v = putN (if a.to = a.dir then l else putN l { leaveN (getN l a.dir) a.name with version := v }) { enterN (toN l a) a.toName a.fid with version := v } := by unfold renameL; rw [if_pos he]
  unfold renameE at he
  split at he
  case isFalse hd => exact absurd he hd
  rename_i hnd
  obtain ⟨n, hf, hgn, hn, hnk, hdir, hed⟩ := named_edge h hnd
  split at he
  case isFalse hd => exact absurd he hd
  rename_i hdt
  obtain ⟨t, htf, htg, htdir⟩ := dirE_zero hdt
  obtain ⟨htm, htk⟩ := (findN_some hu).1 htf
  split at he
  case isFalse hd => exact absurd he hd
  rename_i hro
  obtain ⟨hnm, hfree⟩ := roomE_free hro
  rw [hgn] at hL
  rw [hL] at hg ⊢
  -- the directory that gets the name
  have hT : (toN l a).fid = a.to ∧ (toN l a).dir = true ∧ EUp (toN l a).entries ∧ ((toN l a).dir = true → (toN l a).data = []) ∧ ∀ s f, (⟨s, f⟩ : Entry) ∈ (toN l a).entries ↔ Edge l a.to s f ∧ ¬ (a.to = a.dir ∧ s = a.name) := by
    unfold toN
    split
    · rename_i htd
      rw [hgn]
      have hl := h.loc n hn
      refine ⟨hnk.trans htd.symm, hdir, leave_up hl.eup _, hl.dirD, fun s f => ?_⟩
      show (⟨s, f⟩ : Entry) ∈ leaveE n.entries a.name ↔ _
      rw [leave_mem, htd, ← hnk, edge_at hu hn]
      simp
    · rename_i htd
      rw [htg]
      have hl := h.loc t htm
      refine ⟨htk, htdir, hl.eup, hl.dirD, fun s f => ?_⟩
      rw [← htk, edge_at hu htm]
      constructor
      · exact fun h => ⟨h, fun e => htd (htk.symm.trans e.1)⟩
      · exact fun h => h.1
  obtain ⟨hTf, hTd, hTe, hTda, hTm⟩ := hT
  generalize hl1 : (if a.to = a.dir then l else putN l { leaveN n a.name with version := v }) = l1 at hg ⊢
  have hu1 : Up l1 := by subst hl1; split; exact hu; exact (putN_up hu _).1
  have hE1 : ∀ d s f, d ≠ a.to → (Edge l1 d s f ↔ Edge l d s f ∧ ¬ (d = a.dir ∧ s = a.name)) := fun d s f hd => by
    subst hl1
    split
    · rename_i htd
      exact ⟨fun h => ⟨h, fun e => hd (e.1.trans htd.symm)⟩, fun h => h.1⟩
    · rw [edge_left hu hn, hnk]
  have hF1 : ∀ f, FidIn l1 f ↔ FidIn l f := fun f => by
    subst hl1
    split
    · exact Iff.rfl
    · rw [fid_put hu]
      show f = n.fid ∨ FidIn l f ↔ _
      exact ⟨fun h => h.elim (fun e => ⟨n, hn, e.symm⟩) id, .inr⟩
  have hE : ∀ d s f, Edge (putN l1 { enterN (toN l a) a.toName a.fid with version := v }) d s f ↔ (Edge l d s f ∧ ¬ (d = a.dir ∧ s = a.name)) ∨ (d = a.to ∧ s = a.toName ∧ f = a.fid) := fun d s f => by
    rw [edge_put hu1]
    show (d = (toN l a).fid ∧ (⟨s, f⟩ : Entry) ∈ enterE (toN l a).entries a.toName a.fid) ∨ (d ≠ (toN l a).fid ∧ Edge l1 d s f) ↔ _
    rw [enter_mem hTe hfree, hTm, hTf]
    constructor
    · rintro (⟨rfl, h1 | h1⟩ | ⟨h1, h2⟩)
      · exact .inr ⟨rfl, h1⟩
      · exact .inl h1
      · exact .inl ((hE1 d s f h1).1 h2)
    · rintro (h1 | ⟨rfl, h1⟩)
      · by_cases hd : d = a.to
        · subst hd; exact .inl ⟨rfl, .inr h1⟩
        · exact .inr ⟨hd, (hE1 d s f hd).2 h1⟩
      · exact .inl ⟨rfl, .inl h1⟩
  have hF : ∀ f, FidIn (putN l1 { enterN (toN l a) a.toName a.fid with version := v }) f ↔ FidIn l f := fun f => by
    rw [fid_put hu1, hF1]
    show f = (toN l a).fid ∨ FidIn l f ↔ _
    rw [hTf]
    exact ⟨fun h => h.elim (fun e => ⟨t, htm, htk.trans e.symm⟩) id, .inr⟩
  have hthere := h.there _ _ _ hed
  -- who leads to the fid that moves: its old place alone
  have hold : ∀ d s, Edge l d s a.fid → d = a.dir ∧ s = a.name := fun d s h1 => h.one _ _ _ _ _ h1 hed
  refine ⟨hg, fun x hx => ?_, fun d s f hd => ?_, fun d s f hd => ?_, fun d s f hd => ?_, fun f hf h0 => ?_, fun d s d' s' f h1 h2 => ?_, ?_⟩
  · rcases pmem hx with rfl | hx
    · exact ⟨(enterE_up hTe hfree a.fid).1, fun h0 => (by
        have h0 : (toN l a).dir = false := h0
        rw [hTd] at h0; cases h0), hTda⟩
    · subst hl1
      split at hx
      · exact h.loc x hx
      · rcases pmem hx with rfl | hx
        · have hl := h.loc n hn
          exact ⟨leave_up hl.eup _, fun h0 => by
            show leaveE n.entries a.name = []
            rw [hl.file h0]; rfl, hl.dirD⟩
        · exact h.loc x hx
  · rcases (hE d s f).1 hd with h1 | ⟨_, rfl, _⟩
    · exact h.name d s f h1.1
    · exact hnm
  · rcases (hE d s f).1 hd with h1 | ⟨_, _, rfl⟩
    · exact (hF f).2 (h.there d s f h1.1)
    · exact (hF _).2 hthere
  · rcases (hE d s f).1 hd with h1 | ⟨_, _, rfl⟩
    · exact h.noroot d s f h1.1
    · exact h.noroot _ _ _ hed
  · by_cases hff : f = a.fid
    · subst hff
      exact ⟨a.to, a.toName, (hE _ _ _).2 (.inr ⟨rfl, rfl, rfl⟩)⟩
    · obtain ⟨d, s, h1⟩ := h.par f ((hF f).1 hf) h0
      refine ⟨d, s, (hE _ _ _).2 (.inl ⟨h1, fun e => ?_⟩)⟩
      obtain ⟨rfl, rfl⟩ := e
      obtain ⟨m, hm, hmf, hme⟩ := hed
      obtain ⟨m', hm', hmf', hme'⟩ := h1
      have : m = m' := up_same hu hm hm' (hmf.trans hmf'.symm)
      subst this
      have := (h.loc m hm).eup.same hme hme' rfl
      injection this with _ h5
      exact hff h5.symm
  · rcases (hE d s f).1 h1 with h1 | ⟨rfl, rfl, rfl⟩
    · rcases (hE d' s' f).1 h2 with h2 | ⟨rfl, rfl, rfl⟩
      · exact h.one d s d' s' f h1.1 h2.1
      · exact absurd (hold d s h1.1) h1.2
    · rcases (hE d' s' _).1 h2 with h2 | ⟨rfl, rfl, _⟩
      · exact absurd (hold d' s' h2.1) h2.2
      · exact ⟨rfl, rfl⟩
  · obtain ⟨m, hm, hm0, hmd⟩ := h.root
    by_cases hmt : m.fid = a.to
    · exact ⟨_, ((putN_up hu1 _).2 _).2 (.inl rfl), hTf.trans (hmt.symm.trans hm0), hTd⟩
    · have hml1 : ∃ x, x ∈ l1 ∧ x.fid = 0 ∧ x.dir = true := by
        subst hl1
        split
        · exact ⟨m, hm, hm0, hmd⟩
        · by_cases hmn : m.fid = n.fid
          · exact ⟨{ leaveN n a.name with version := v }, ((putN_up hu _).2 _).2 (.inl rfl), hmn.symm.trans hm0, hdir⟩
          · exact ⟨m, ((putN_up hu _).2 _).2 (.inr ⟨hm, hmn⟩), hm0, hmd⟩
      obtain ⟨x, hx, hx0, hxd⟩ := hml1
      exact ⟨x, ((putN_up hu1 _).2 _).2 (.inr ⟨hx, by
        show x.fid ≠ (toN l a).fid
        rw [hTf, hx0, ← hm0]; exact hmt⟩), hx0, hxd⟩

theorem wh_apply {l : List Node} (h : Wh l) (a : Act) (v : Int) (he : applyE l a = 0) : Wh (applyL l a v) := by
  unfold applyE at he
  unfold applyL
  split at he
  · rename_i h1; rw [if_pos h1]; exact wh_make h a v he
  · rename_i h1
    rw [if_neg h1]
    split at he
    · rename_i h2; rw [if_pos h2]; exact wh_make h a v he
    · rename_i h2
      rw [if_neg h2]
      split at he
      · rename_i h3; rw [if_pos h3]; exact wh_store h a v he
      · rename_i h3
        rw [if_neg h3]
        split at he
        · rename_i h4; rw [if_pos h4]; exact wh_remove h a v he
        · rename_i h4
          rw [if_neg h4]
          split at he
          · rename_i h5; rw [if_pos h5]; exact wh_rename h a v he
          · omega
theorem wh_root : Wh [rootN] := by
  have hE : ∀ d s f, ¬ Edge [rootN] d s f := fun d s f ⟨n, hn, _, he⟩ => by rw [List.mem_singleton.1 hn] at he; cases he
  exact ⟨good_root, fun n hn => by rw [List.mem_singleton.1 hn]; exact ⟨by unfold EUp; simp [rootN], fun _ => rfl, fun _ => rfl⟩, fun d s f h => absurd h (hE d s f), fun d s f h => absurd h (hE d s f), fun d s f h => absurd h (hE d s f),
    fun f ⟨n, hn, hf⟩ h0 => by rw [List.mem_singleton.1 hn] at hf; exact absurd hf.symm h0, fun d s d' s' f h => absurd h (hE d s f), ⟨rootN, List.mem_singleton.2 rfl, rfl, rfl⟩⟩
theorem Hist.whole {p : List Past} {t : List Node} (h : Hist p t) : Wh t := by
  induction h with
  | nil => exact wh_root
  | snoc c a h ha he ih => exact wh_apply ih _ _ he
end La

namespace La
open Go Go.Eng

/-- maps of nodes -/
def mN (m : List (Int × Node)) : List (Int × AV) := m.map fun p => (p.1, .agg (nodeRow p.2))
theorem mN_get (m : List (Int × Node)) (k : Int) : mget (mN m) k = (mget m k).map fun n => .agg (nodeRow n) := mget_map (fun n => AV.agg (nodeRow n)) m k
theorem mN_put (m : List (Int × Node)) (k : Int) (n : Node) : mput (mN m) k (.agg (nodeRow n)) = mN (mput m k n) := mput_map (fun n => AV.agg (nodeRow n)) m k n
theorem mN_del (m : List (Int × Node)) (k : Int) : mdel (mN m) k = mN (mdel m k) := mdel_map (fun n => AV.agg (nodeRow n)) m k

def RiseM {α : Type} (m : List (Int × α)) : Prop := m.Pairwise fun a b => a.1 < b.1
theorem getB_put {m : List (Int × Bool)} (h : RiseM m) (f : Int) (b : Bool) (x : Int) : getB (mput m f b) x = if x = f then b else getB m x := by
  unfold getB; rw [mget_mput h]; split <;> rfl

inductive MReach (m : List (Int × Node)) (k : Int) : Int → Prop
  | refl : MReach m k k
  | step {x : Int} {n : Node} {e : Entry} (h : MReach m k x) (hn : mget m x = some n) (he : e ∈ n.entries) : MReach m k e.fid
def allF (m : List (Int × Node)) : List Int := m.flatMap fun p => p.2.entries.map (·.fid)
theorem allF_mem {m : List (Int × Node)} {x : Int} {n : Node} {e : Entry} (hn : mget m x = some n) (he : e ∈ n.entries) : e.fid ∈ allF m :=
  List.mem_flatMap.2 ⟨_, mget_mem hn, List.mem_map.2 ⟨e, he, rfl⟩⟩
def unseen (m : List (Int × Node)) (had : List (Int × Bool)) : Nat := ((allF m).filter fun f => !(getB had f)).length
theorem unseen_put {m : List (Int × Node)} {had : List (Int × Bool)} (hr : RiseM had) {f : Int} (hf : f ∈ allF m) (h : getB had f = false) : unseen m (mput had f true) + 1 ≤ unseen m had := by
  unfold unseen
  generalize allF m = l at hf
  have hle : ∀ l : List Int, (l.filter fun x => !(getB (mput had f true) x)).length ≤ (l.filter fun x => !(getB had x)).length := fun l => by
    induction l with
    | nil => simp
    | cons x r ih =>
      rw [List.filter_cons, List.filter_cons, getB_put hr]
      by_cases hx : x = f
      · subst hx; simp [h]; omega
      · simp only [hx, if_false]; split <;> (try simp only [List.length_cons]) <;> omega
  induction l with
  | nil => cases hf
  | cons x r ih =>
    rw [List.filter_cons, List.filter_cons, getB_put hr]
    by_cases hx : x = f
    · subst hx
      have := hle r
      simp [h]; omega
    · have hf2 : f ∈ r := by
        rcases List.mem_cons.1 hf with h1 | h1
        · exact absurd h1.symm hx
        · exact h1
      have := ih hf2
      simp only [hx, if_false]
      split <;> (try simp only [List.length_cons]) <;> omega

/-- where the search is: 'T' is to be gone through yet -/
structure BI (m : List (Int × Node)) (k : Int) (had : List (Int × Bool)) (T : List Int) : Prop where
  rise : RiseM had
  sound : ∀ x, getB had x = true → MReach m k x
  start : getB had k = true
  todo : ∀ x, x ∈ T → getB had x = true
  shut : ∀ x, getB had x = true → x ∉ T → ∀ n, mget m x = some n → ∀ e, e ∈ n.entries → getB had e.fid = true
  size : T.length + unseen m had ≤ (allF m).length + 1
/-- at an entry of the first one that is to be gone through -/
structure BJ (m : List (Int × Node)) (k : Int) (x : Int) (n : Node) (c : Nat) (j : Nat) (had : List (Int × Bool)) (T : List Int) : Prop where
  at_ : mget m x = some n
  rise : RiseM had
  sound : ∀ x, getB had x = true → MReach m k x
  start : getB had k = true
  todo : ∀ x, x ∈ T → getB had x = true
  shut : ∀ x, getB had x = true → x ∉ T → ∀ n, mget m x = some n → ∀ e, e ∈ n.entries → getB had e.fid = true
  done : ∀ e, e ∈ n.entries.take j → getB had e.fid = true
  head : ∃ r, T = x :: r
  size : T.length + unseen m had ≤ c

theorem BI.begin (m : List (Int × Node)) (k : Int) : BI m k (mput [] k true) [k] := by
  have hr : RiseM ([] : List (Int × Bool)) := List.Pairwise.nil
  have hg : ∀ x, getB (mput [] k true) x = true → x = k := fun x h => by
    rw [getB_put hr] at h
    by_cases e : x = k
    · exact e
    · rw [if_neg e] at h; cases h
  refine ⟨mput_rise hr, fun x h => by rw [hg x h]; exact .refl, by rw [getB_put hr, if_pos rfl], fun x h => by rw [List.mem_singleton.1 h, getB_put hr, if_pos rfl], fun x h hn => absurd (List.mem_singleton.2 (hg x h)) hn, ?_⟩
  have : unseen m (mput [] k true) ≤ (allF m).length := List.length_filter_le _ _
  simp; omega
theorem BI.inner {m : List (Int × Node)} {k : Int} {had : List (Int × Bool)} {x : Int} {r : List Int} (h : BI m k had (x :: r)) {n : Node} (hn : mget m x = some n) : BJ m k x n ((x :: r).length + unseen m had) 0 had (x :: r) :=
  ⟨hn, h.rise, h.sound, h.start, h.todo, h.shut, fun e he => by simp at he, ⟨r, rfl⟩, Nat.le_refl _⟩
theorem BI.none {m : List (Int × Node)} {k : Int} {had : List (Int × Bool)} {x : Int} {r : List Int} (h : BI m k had (x :: r)) (hn : mget m x = none) : BI m k had r :=
  ⟨h.rise, h.sound, h.start, fun y hy => h.todo y (List.mem_cons_of_mem _ hy), fun y hy hno n hmn => h.shut y hy (fun hm => by
    rcases List.mem_cons.1 hm with rfl | hm
    · rw [hn] at hmn; cases hmn
    · exact hno hm) n hmn, by have := h.size; simp at this; omega⟩
theorem BJ.pop {m : List (Int × Node)} {k x : Int} {n : Node} {c : Nat} {had : List (Int × Bool)} {T : List Int} (h : BJ m k x n c n.entries.length had T) (hc : c ≤ (allF m).length + 1) :
    BI m k had (T.drop 1) ∧ (T.drop 1).length + unseen m had < c := by
  obtain ⟨r, rfl⟩ := h.head
  have hs := h.size
  simp only [List.length_cons] at hs
  simp only [List.drop_succ_cons, List.drop_zero]
  refine ⟨⟨h.rise, h.sound, h.start, fun y hy => h.todo y (List.mem_cons_of_mem _ hy), fun y hy hno n' hmn e he => ?_, by omega⟩, by omega⟩
  by_cases hyx : y = x
  · subst hyx
    rw [h.at_] at hmn; injection hmn with hmn; subst hmn
    exact h.done e (by rw [List.take_length]; exact he)
  · exact h.shut y hy (fun hm => by
      rcases List.mem_cons.1 hm with h1 | h1
      · exact hyx h1
      · exact hno h1) n' hmn e he
theorem BJ.skip {m : List (Int × Node)} {k x : Int} {n : Node} {c j : Nat} {had : List (Int × Bool)} {T : List Int} (h : BJ m k x n c j had T) (hj : j < n.entries.length) (hb : getB had (n.entries.getD j default).fid = true) : BJ m k x n c (j + 1) had T :=
  ⟨h.at_, h.rise, h.sound, h.start, h.todo, h.shut, fun e he => by
    rw [take_succ_getD hj] at he
    rcases List.mem_append.1 he with he | he
    · exact h.done e he
    · rw [List.mem_singleton.1 he]; exact hb, h.head, h.size⟩
theorem BJ.add {m : List (Int × Node)} {k x : Int} {n : Node} {c j : Nat} {had : List (Int × Bool)} {T : List Int} (h : BJ m k x n c j had T) (hj : j < n.entries.length) (hb : getB had (n.entries.getD j default).fid = false) :
    BJ m k x n c (j + 1) (mput had (n.entries.getD j default).fid true) (T ++ [(n.entries.getD j default).fid]) := by
  have hmem : n.entries.getD j default ∈ n.entries := getD_mem hj
  have htk : ∀ e, e ∈ n.entries.take (j + 1) → e ∈ n.entries.take j ∨ e = n.entries.getD j default := fun e he => by
    rw [take_succ_getD hj] at he
    rcases List.mem_append.1 he with he | he
    · exact .inl he
    · exact .inr (List.mem_singleton.1 he)
  generalize n.entries.getD j default = f at *
  have hg : ∀ y, getB (mput had f.fid true) y = if y = f.fid then true else getB had y := getB_put h.rise f.fid true
  have hmono : ∀ y, getB had y = true → getB (mput had f.fid true) y = true := fun y hy => by rw [hg]; split <;> first | rfl | exact hy
  obtain ⟨r, hr⟩ := h.head
  have hx : getB had x = true := h.todo x (by rw [hr]; simp)
  refine ⟨h.at_, mput_rise h.rise, fun y hy => ?_, hmono _ h.start, fun y hy => ?_, fun y hy hno n' hmn e he => ?_, fun e he => ?_, ⟨r ++ [f.fid], by rw [hr]; rfl⟩, ?_⟩
  · rw [hg] at hy
    split at hy
    · rename_i e; subst e; exact .step (h.sound x hx) h.at_ hmem
    · exact h.sound y hy
  · rcases List.mem_append.1 hy with hy | hy
    · exact hmono _ (h.todo y hy)
    · rw [List.mem_singleton.1 hy, hg, if_pos rfl]
  · rw [hg] at hy
    split at hy
    · rename_i e'; exact absurd (List.mem_append_right _ (List.mem_singleton.2 e')) hno
    · exact hmono _ (h.shut y hy (fun hm => hno (List.mem_append_left _ hm)) n' hmn e he)
  · rcases htk e he with h1 | h1
    · exact hmono _ (h.done e h1)
    · rw [h1, hg, if_pos rfl]
  · have := unseen_put h.rise (allF_mem h.at_ hmem) hb
    have := h.size
    simp only [List.length_append, List.length_cons, List.length_nil]
    omega
theorem BI.fin {m : List (Int × Node)} {k : Int} {had : List (Int × Bool)} (h : BI m k had []) (x : Int) : getB had x = true ↔ MReach m k x := by
  refine ⟨h.sound x, fun hr => ?_⟩
  induction hr with
  | refl => exact h.start
  | step hr hn he ih => exact h.shut _ ih (by simp) _ hn _ he
end La

namespace La
open Go Go.Eng

/-- nodes by fids -/
def mapDU (l : List Node) : Nat → List (Int × Node)
  | 0 => []
  | i + 1 => mput (mapDU l i) (fidN l i) (l.getD i default)
def mapD (l : List Node) : List (Int × Node) := mapDU l l.length
theorem mapUN_eq (l : List Node) : ∀ i, mapUN l i = mN (mapDU l i)
  | 0 => rfl
  | i + 1 => by
    have ih := mapUN_eq l i
    show mput (mapUN l i) (fidN l i) _ = _
    rw [ih, mN_put]; rfl
theorem mapN_eq (l : List Node) : mapN l = mN (mapD l) := mapUN_eq l l.length
theorem mapD_rise (l : List Node) : RiseM (mapD l) := by
  have : ∀ i, RiseM (mapDU l i) := fun i => by
    induction i with
    | zero => exact List.Pairwise.nil
    | succ i ih => exact mput_rise ih
  exact this _
theorem mapD_get {l : List Node} (h : Up l) (k : Int) : mget (mapD l) k = findN l k := by
  have h1 := mapN_get h k
  rw [mapN_eq, mN_get] at h1
  cases e : mget (mapD l) k with
  | none =>
    rw [e] at h1
    cases e2 : findN l k with
    | none => rfl
    | some n => rw [e2] at h1; cases h1
  | some m =>
    rw [e] at h1
    cases e2 : findN l k with
    | none => rw [e2] at h1; cases h1
    | some n =>
      rw [e2] at h1
      simp only [Option.map_some, Option.some.injEq, AV.agg.injEq] at h1
      -- the same nodes, as both come from the list
      have hm : ∀ i, i ≤ l.length → ∀ p, p ∈ mapDU l i → p.2 ∈ l ∧ p.2.fid = p.1 := fun i => by
        induction i with
        | zero => intro _ p hp; cases hp
        | succ i ih =>
          intro hi p hp
          have hr : RiseM (mapDU l i) := by
            have : ∀ j, RiseM (mapDU l j) := fun j => by
              induction j with
              | zero => exact List.Pairwise.nil
              | succ j ihj => exact mput_rise ihj
            exact this i
          rcases (mem_mput hr p.1 p.2).1 hp with ⟨h1, h2⟩ | ⟨_, h2⟩
          · rw [h1, h2]; exact ⟨getD_mem (by omega), rfl⟩
          · exact ih (by omega) p h2
      obtain ⟨q1, q2⟩ := hm _ (Nat.le_refl _) _ (mget_mem e)
      rw [← e2]
      exact ((findN_some h).2 ⟨q1, q2⟩).symm

theorem mapDU_rise (l : List Node) : ∀ i, RiseM (mapDU l i)
  | 0 => List.Pairwise.nil
  | i + 1 => mput_rise (mapDU_rise l i)
theorem mapDU_mem (l : List Node) : ∀ i, i ≤ l.length → ∀ p, p ∈ mapDU l i → p.2 ∈ l
  | 0, _, p, hp => by cases hp
  | i + 1, hi, p, hp => by
    rcases (mem_mput (mapDU_rise l i) p.1 p.2).1 hp with ⟨h1, h2⟩ | ⟨_, h2⟩
    · rw [h2]; exact getD_mem (by omega)
    · exact mapDU_mem l i (by omega) p h2
theorem mapDU_len (l : List Node) : ∀ i, (mapDU l i).length ≤ i
  | 0 => Nat.le_refl _
  | i + 1 => by
    have h1 := mapDU_len l i
    have h2 := mput_length (n := fidN l i) (v := l.getD i default) (mapDU_rise l i)
    show (mput (mapDU l i) (fidN l i) (l.getD i default)).length ≤ i + 1
    rw [h2]
    cases (mget (mapDU l i) (fidN l i)).isSome <;> simp <;> omega
theorem flat_len {α : Type} {f : α → List Int} {k : Nat} : ∀ {l : List α}, (∀ x, x ∈ l → (f x).length ≤ k) → (l.flatMap f).length ≤ k * l.length
  | [], _ => by simp
  | x :: r, h => by
    have h1 := flat_len (l := r) fun y hy => h y (List.mem_cons_of_mem _ hy)
    have h2 := h x List.mem_cons_self
    simp only [List.flatMap_cons, List.length_append, List.length_cons, Nat.mul_add, Nat.mul_one]
    omega
theorem allF_small {l : List Node} {k : Nat} (h : ∀ n, n ∈ l → n.entries.length ≤ k) : (allF (mapD l)).length ≤ k * l.length := by
  have h1 : (allF (mapD l)).length ≤ k * (mapD l).length := flat_len fun p hp => by
    rw [List.length_map]; exact h _ (mapDU_mem l _ (Nat.le_refl _) p hp)
  exact Nat.le_trans h1 (Nat.mul_le_mul_left _ (mapDU_len l _))
theorem le_sumR (r : Int → Nat) : ∀ (l : List Node) (n : Node), n ∈ l → r n.fid ≤ (l.map fun n => r n.fid).sum
  | [], n, h => by cases h
  | m :: l, n, h => by
    simp only [List.map_cons, List.sum_cons]
    rcases List.mem_cons.1 h with rfl | h
    · omega
    · have := le_sumR r l n h; omega
theorem wh_reach {l : List Node} (h : Wh l) {f : Int} (hf : FidIn l f) : MReach (mapD l) 0 f := by
  obtain ⟨r, hr⟩ := h.good.falls
  have key : ∀ (k : Nat) (f : Int), FidIn l f → (l.map fun n => r n.fid).sum - r f ≤ k → MReach (mapD l) 0 f := fun k => by
    induction k with
    | zero =>
      intro f hf hk
      by_cases h0 : f = 0
      · subst h0; exact .refl
      · obtain ⟨d, s, n, hn, hd, he⟩ := h.par f hf h0
        have h1 := hr n hn _ he
        have h2 := le_sumR r l n hn
        simp only at h1
        omega
    | succ k ih =>
      intro f hf hk
      by_cases h0 : f = 0
      · subst h0; exact .refl
      · obtain ⟨d, s, n, hn, hd, he⟩ := h.par f hf h0
        have h1 := hr n hn _ he
        have h2 := le_sumR r l n hn
        simp only at h1
        exact .step (ih n.fid ⟨n, hn, rfl⟩ (by omega)) (by rw [mapD_get h.good.up]; exact (findN_some h.good.up).2 ⟨hn, rfl⟩) he
  exact key _ f hf (Nat.le_refl _)

/-! ### How often a fid is an entry -/
def incM (m : List (Int × Int)) (f : Int) : List (Int × Int) := mput m f (getI m f + 1)
def timesM (fs : List Int) : List (Int × Int) := fs.foldl incM []
def cntF (f : Int) (fs : List Int) : Nat := (fs.filter fun x => x == f).length
theorem timesM_snoc (fs : List Int) (f : Int) : timesM (fs ++ [f]) = incM (timesM fs) f := by unfold timesM; rw [List.foldl_append]; rfl
theorem foldl_inc : ∀ (fs : List Int) (m : List (Int × Int)), RiseM m → RiseM (fs.foldl incM m) ∧ ∀ f, getI (fs.foldl incM m) f = getI m f + cntF f fs
  | [], m, h => ⟨h, fun f => by simp [cntF]⟩
  | x :: fs, m, h => by
    obtain ⟨h1, h2⟩ := foldl_inc fs (incM m x) (mput_rise h)
    refine ⟨h1, fun f => ?_⟩
    rw [List.foldl_cons, h2]
    have hg : getI (incM m x) f = if f = x then getI m x + 1 else getI m f := by
      unfold incM getI
      rw [mget_mput h]
      split <;> rfl
    rw [hg]
    unfold cntF
    rw [List.filter_cons]
    by_cases e : f = x
    · subst e; simp; omega
    · rw [if_neg e, if_neg (by simpa using fun h => e h.symm)]
theorem timesM_get (fs : List Int) (f : Int) : getI (timesM fs) f = cntF f fs := by
  have := (foldl_inc fs [] List.Pairwise.nil).2 f
  unfold timesM
  rw [this]; simp [getI, mget]
theorem cntF_le (f : Int) (fs : List Int) : cntF f fs ≤ fs.length := List.length_filter_le _ _
theorem cntF_none {f : Int} {fs : List Int} (h : f ∉ fs) : cntF f fs = 0 := by
  unfold cntF
  rw [List.filter_eq_nil_iff.2 fun x hx => by
    intro hx2
    rw [eq_of_beq hx2] at hx
    exact h hx]; rfl
theorem cntF_one {f : Int} : ∀ {fs : List Int}, fs.Nodup → f ∈ fs → cntF f fs = 1
  | [], _, h => by cases h
  | x :: fs, hn, h => by
    rw [List.nodup_cons] at hn
    unfold cntF
    rw [List.filter_cons]
    by_cases e : x = f
    · subst e
      have := cntF_none hn.1
      unfold cntF at this
      simp [this]
    · rw [if_neg (by simpa using e)]
      rcases List.mem_cons.1 h with h | h
      · exact absurd h.symm e
      · exact cntF_one hn.2 h
def fidsE (n : Node) : List Int := n.entries.map (·.fid)
def allFids (l : List Node) : List Int := l.flatMap fidsE
theorem wh_nodup {l : List Node} (h : Wh l) : (allFids l).Nodup := by
  unfold allFids List.Nodup
  rw [List.pairwise_flatMap]
  refine ⟨fun n hn => ?_, ?_⟩
  · unfold fidsE
    rw [List.pairwise_map]
    refine ((h.loc n hn).eup).imp_of_mem fun {a b} ha hb hlt e => ?_
    have := (h.one n.fid a.name n.fid b.name a.fid ⟨n, hn, rfl, ha⟩ ⟨n, hn, rfl, by rw [e]; exact hb⟩).2
    rw [this] at hlt
    exact sirr _ hlt
  · refine (h.good.up).imp_of_mem fun {a b} ha hb hlt x hx y hy e => ?_
    obtain ⟨p, hp, rfl⟩ := List.mem_map.1 hx
    obtain ⟨q, hq, rfl⟩ := List.mem_map.1 hy
    have := (h.one a.fid p.name b.fid q.name p.fid ⟨a, ha, rfl, hp⟩ ⟨b, hb, rfl, by rw [e]; exact hq⟩).1
    omega
theorem allFids_mem {l : List Node} {f : Int} : f ∈ allFids l ↔ ∃ d s, Edge l d s f := by
  unfold allFids fidsE
  rw [List.mem_flatMap]
  constructor
  · rintro ⟨n, hn, he⟩
    obtain ⟨e, he2, rfl⟩ := List.mem_map.1 he
    exact ⟨n.fid, e.name, n, hn, rfl, he2⟩
  · rintro ⟨d, s, n, hn, _, he⟩
    exact ⟨n, hn, List.mem_map.2 ⟨_, he, rfl⟩⟩
theorem wh_zero {l : List Node} (h : Wh l) : cntF 0 (allFids l) = 0 := cntF_none fun hm => by
  obtain ⟨d, s, he⟩ := allFids_mem.1 hm
  exact h.noroot d s 0 he rfl
theorem wh_one {l : List Node} (h : Wh l) {f : Int} (hf : FidIn l f) (h0 : f ≠ 0) : cntF f (allFids l) = 1 := cntF_one (wh_nodup h) (allFids_mem.2 (h.par f hf h0))
theorem wh_dir {l : List Node} (h : Wh l) {n : Node} (hn : n ∈ l) (h0 : n.fid = 0) : n.dir = true := by
  obtain ⟨m, hm, hm0, hmd⟩ := h.root
  rw [up_same h.good.up hn hm (h0.trans hm0.symm)]; exact hmd
end La

namespace Go.Eng
section
variable {P : Program} {T : Tab} {C : Ctx} {σ : St} {Ret : St → Prop}

theorem leAny_kill (id : Nat) : ∀ l : List AV, leAny l (l.map (kill id))
  | [] => trivial
  | x :: l => by
    refine ⟨?_, leAny_kill id l⟩
    unfold kill
    split
    · exact .inl rfl
    · exact .inr rfl
theorem hset_hset_get (h : List (Nat × Blk)) (id : Nat) (b c : Blk) (i : Nat) : hget (hset (hset h id b) id c) i = hget (hset h id c) i := by
  simp only [hget_hset]
  split <;> rfl

/-- a block told longer than it was known: nothing is known of what lies behind -/
theorem Inv.pad {μ : Nat → Option Nat} {S : Nat → Prop} {a : Act} {w : World} (hi : Inv C μ S σ a w) {id e s m n : Nat} {R : List (List AV)} (hb : hget σ.hp id = some (.cells e s R)) {g : Nat} (hg : μ id = some g) {c : Array Value} (hc : w.heap[g]? = some (.cells c e (0, 0)))
    (hm : m ≤ R.length) (hn : (m + n) * s ≤ c.size) : Inv C μ S ⟨σ.tm, hset σ.hp id (.cells e s (R.take m ++ List.replicate n (List.replicate s .any)))⟩ a w := by
  refine ⟨hi.size, hi.defers, hi.tm, fun i b hb' => ?_, fun i q hq => ?_, hi.inj, hi.frm, hi.sb⟩
  · rw [hget_hset] at hb'
    split at hb'
    · rename_i e'
      injection hb' with hb'
      subst hb' e'
      rcases hi.hp id _ hb with ⟨_, k⟩ | ⟨g', c', k1, k2, k3, k4, k5⟩
      · rw [k] at hg; cases hg
      · rw [k1] at hg; injection hg with hg; subst hg
        rw [k2] at hc
        simp only [Option.some.injEq, Obj.cells.injEq] at hc
        obtain ⟨rfl, _⟩ := hc
        refine .inr ⟨g', c', k1, k2, ?_, fun row hr => ?_, fun i row hi' j x hx => ?_⟩
        · simp only [List.length_append, List.length_take, List.length_replicate, Nat.min_eq_left hm]; exact hn
        · rcases List.mem_append.1 hr with h | h
          · exact k4 row (List.mem_of_mem_take h)
          · rw [(List.mem_replicate.1 h).2]; simp
        · by_cases h : i < (R.take m).length
          · rw [List.getElem?_append_left h, List.getElem?_take] at hi'
            split at hi'
            · exact k5 i row hi' j x hx
            · cases hi'
          · rw [List.getElem?_append_right (by omega)] at hi'
            have h1 := (List.mem_replicate.1 (List.mem_of_getElem? hi')).2
            subst h1
            have h2 := (List.mem_replicate.1 (List.mem_of_getElem? hx)).2
            subst h2
            exact .any _
    · exact hi.hp i b hb'
  · obtain ⟨⟨b, k1⟩, k2⟩ := hi.dom i q hq
    refine ⟨?_, k2⟩
    rw [hget_hset]; split
    · exact ⟨_, rfl⟩
    · exact ⟨b, k1⟩

theorem cw_appendO (hT : TabOK P T) {k : List It} {all : Array Oper} {o : Oper} {l : List Oper} {x y : Operand} {t e : TypeId} (ho : o.op = .call { callee := .builtin .append, args := #[x, y], argTypes := #[t, t] }) (hgd : o.guard = none) (ht : T.und t = .sl e)
    {id s off len : Nat} {R rows : List (List AV)} {yv : AV} (hx : evS σ x = (True, .osl id s off len)) (hy : evS σ y = (True, yv)) (hsrc : srcRows σ yv = some rows) (hyl : ∀ id s off len, yv = .osl id s off len → rows.length = len) (hb : hget σ.hp id = some (.cells e s R))
    (hlen : 0 < len) (hR : off + len ≤ R.length) (hs : T.siz e = s) (hs0 : s ≠ 0) (hb0 : T.byt e ≠ 0) (hrl : rowsOf s rows) (hleaf : rowsLeaf rows = true) (hsz : (2 * (len + rows.length) + 768) * T.byt e ≤ 281474976710656) (hfree : HpFree id σ.hp)
    (hbf : BlkFree id (.cells e s (R ++ rows)))
    (h : ∀ off' : Nat, off' = off ∨ off' = 0 → Cw P C Ret (.ops all l :: k) (St.put ⟨σ.tm.map (kill id), hset σ.hp id (.cells e s ((R.drop (off - off')).take (off' + len) ++ rows))⟩ o.dst (.osl id s off' (len + rows.length)))) :
    Cw P C Ret (.ops all (o :: l) :: k) σ := by
  subst hs
  intro a w hrel
  show wpList P all _ (o :: l) a w
  unfold wpList
  obtain ⟨μ, S, hi⟩ := hrel
  rw [wanted_of hi (c := true) (by rw [hgd]; rfl)]
  refine .inl ?_
  have hty : P.underlying t = some (.slice e) := by have := hT.und t; rw [ht] at this; exact this
  have hvx := hi.evS x (by rw [hx]; trivial)
  have hvy := hi.evS y (by rw [hy]; trivial)
  rw [hx] at hvx; rw [hy] at hvy
  obtain ⟨vs, hvs⟩ := src_of hi hsrc hvy hrl hyl
  have hRt : ((R.drop off).take len).length = len := by simp; omega
  rcases hi.hp id _ hb with ⟨rfl, _⟩ | ⟨g', c, k1, k2, k3, k4, k5⟩
  · simp at hR; omega
  have hRl : rowsOf (T.siz e) ((R.drop off).take len) := fun row hr => k4 row (List.mem_of_mem_drop (List.mem_of_mem_take hr))
  obtain ⟨olds, hol⟩ := src_of hi (x := .osl id (T.siz e) off len) (rows := (R.drop off).take len) (size := T.siz e) (by simp [srcRows, hb]) hvx hRl (fun _ _ _ _ h => by injection h with _ _ _ h; rw [hRt, h])
  have hvx0 := hvx
  obtain ⟨A, cap, hav, hc, hor⟩ := hvx.inv_osl
  rcases hor with ⟨h1, _⟩ | ⟨g, e2, n, h1, hA, h3, h4⟩
  · omega
  rw [k1] at h1; injection h1 with h1; subst h1
  rw [rowSize, k2] at h3
  simp only [Option.some.injEq, Prod.mk.injEq] at h3
  obtain ⟨rfl, rfl⟩ := h3
  have hax : a.eval x = .slice (some ⟨g', off * T.siz e, none⟩) len cap := by rw [← hA]; exact hav
  have hno := rowsFree hbf
  have hv0 : ∀ u, u ∈ vs → u.oneCell' = true := vals_leaf hvs hleaf
  by_cases hroom : len + rows.length ≤ cap
  · -- in place
    have hr := run_append_in (ty := o.type) (A := some ⟨g', off * T.siz e, none⟩) (len := len) (cap := cap) hT hty hs0 hvs hroom
    have hcap : (off + len + rows.length) * T.siz e ≤ c.size := by
      rw [← h4]; exact Nat.mul_le_mul_right _ (by omega)
    have hi1 := hi.pad hb k1 k2 hR hcap
    have hl1 : (R.take (off + len)).length = off + len := by simp; omega
    obtain ⟨w', r1, r2⟩ := write_rows (P := P) hi1 (off := off + len) (new := rows) (vs := vs) (by rw [hget_hset, if_pos rfl]) k1 (by simp [hl1]) hvs.len hrl hv0 (fun i row hi j x hx => hvs.rd i row hi j x hx)
    have hov : overRows (R.take (off + len) ++ List.replicate rows.length (List.replicate (T.siz e) .any)) (off + len) rows = R.take (off + len) ++ rows := by
      unfold overRows
      rw [List.take_append_of_le_length (by omega), List.take_of_length_le (by omega), List.drop_eq_nil_of_le (by simp [hl1]), List.append_nil]
    rw [hov] at r2
    have hfr : (execOp a.eval o).run P w = .ok (.value (.slice (some ⟨g', off * T.siz e, none⟩) (len + rows.length) cap)) w' := by
      have e1 : off * T.siz e + len * T.siz e = (off + len) * T.siz e := by rw [Nat.add_mul]
      simp only [add_plain, e1, r1, Result.andThen_ok] at hr
      simp [execOp, ho, hax, resolve, invoke, builtin, hr]
    have r3 := r2.hpEq (H := hset σ.hp id (.cells e (T.siz e) (R.take (off + len) ++ rows))) (fun i => (hset_hset_get _ _ _ _ i).symm)
    have he : evS ⟨σ.tm, hset σ.hp id (.cells e (T.siz e) (R.take (off + len) ++ rows))⟩ x = evS σ x := by cases x <;> rfl
    have hv2 := r3.evS x (by rw [he, hx]; trivial)
    rw [he, hx, hax] at hv2
    obtain ⟨A2, cap2, hv3, _, hor2⟩ := hv2.inv_osl
    obtain ⟨μ3, S3, r4⟩ := le_any (C := C) (leAny_kill id σ.tm) a w' ⟨μ, S, r3⟩
    unfold Oper.wp
    rw [hfr]
    have hv4 := r4
    refine h off (.inl rfl) (a.put o.dst _) _ ⟨μ, S, Inv.put ?_ o.dst ?_⟩
    rw [Nat.sub_self, List.drop_zero]
    · exact ⟨by rw [r3.size]; simp, r3.defers, fun t x hx => by
        rw [List.getElem?_map] at hx
        cases e5 : σ.tm[t]? with
        | none => rw [e5] at hx; cases hx
        | some y =>
          rw [e5] at hx
          simp only [Option.map_some, Option.some.injEq] at hx
          subst hx
          have := r3.tm t y e5
          unfold kill
          split
          · exact .any _
          · exact this, r3.hp, r3.dom, r3.inj, r3.frm, r3.sb⟩
    · rcases hor2 with ⟨h5, _⟩ | ⟨g2, e3, n2, q1, q2, q3, q4⟩
      · omega
      · rw [k1] at q1; injection q1 with q1; subst q1
        injection hv3 with j1 j2 j3
        subst j3
        exact .osl id _ off _ cap _ hroom (.inr ⟨g', e3, n2, k1, rfl, q3, q4⟩)
  · -- a new block
    obtain ⟨nc, z, h1, h2, hgr⟩ := run_append_grow' (ty := o.type) hT hty hs0 hb0 (by rw [← hax]; exact hol) hvs hRt hroom hsz
    have hi1 := (hi.drop id hfree).drew
    have hfr : hget (σ.drop id).hp id = none := by simp only [St.drop, hget_hdel, if_true]
    have hnod : upd μ id none id = none := hi1.fresh hfr
    have hm : ∀ {v x}, Rd μ S w v x → id ∉ refs x → Rd (upd μ id none) S w.drew v x := fun h hn =>
      (h.other hn none).mono (fun _ _ => rfl) (fun _ h => h) (fun _ _ h => h) (fun _ _ _ => rfl)
    have hrun : (execOp a.eval o).run P w = .ok (.value (.slice (some ⟨w.heap.size, 0, none⟩) (len + rows.length) nc)) (w.drew.alloc (.cells (olds.toArray ++ vs.toArray ++ z) e)) := by
      simp [execOp, ho, hax, resolve, invoke, builtin, hgr]
    unfold Oper.wp
    rw [hrun]
    have hnew := hi1.new id hfr (.cells (olds.toArray ++ vs.toArray ++ z) e) (.cells e (T.siz e) ((R.drop off).take len ++ rows)) (.inr ⟨w.heap.size, _, by simp [upd], alloc_drew_new w _, by simp [hol.len, hvs.len, hRt, Nat.add_mul], fun row hrow => by
        rcases List.mem_append.1 hrow with h | h
        · exact hRl row h
        · exact hrl row h, ?_⟩)
    · have hnew' := hnew.hpEq (H := hset σ.hp id (.cells e (T.siz e) ((R.drop off).take len ++ rows))) (fun i => by
        simp only [St.drop, hget_hset, hget, hget_hdel]
        split <;> rfl)
      refine h 0 (.inr rfl) (a.put o.dst _) _ ⟨_, _, Inv.put (by rw [Nat.sub_zero, Nat.zero_add]; exact hnew') o.dst ?_⟩
      refine .osl id _ 0 _ nc _ h1 (.inr ⟨w.heap.size, e, _, if_pos rfl, by simp, ?_, rfl⟩)
      unfold rowSize
      rw [alloc_drew_new]
      simp only [Option.some.injEq, Prod.mk.injEq, true_and]
      simp only [Array.size_append, List.size_toArray, hol.len, hvs.len, hRt, h2, Nat.zero_add, ← Nat.add_mul]
      congr 1
      omega
    · have hup : ∀ {v x}, Rd (upd μ id none) S w.drew v x →
          Rd (upd (upd μ id none) id (some w.heap.size)) S (World.alloc w.drew (.cells (olds.toArray ++ vs.toArray ++ z) e)) v x := fun h =>
        h.mono (fun b hb => alloc_get _ _ b (hi1.sb b hb).1) (fun _ h => h) (fun i' g hg => by
          show (if i' = id then some w.heap.size else upd μ id none i') = some g
          rw [if_neg (by rintro rfl; rw [hnod] at hg; cases hg)]; exact hg) (fun i' g hg => rowSize_same (alloc_get _ _ g (hi1.dom i' g hg).2.2.2))
      have key := joined_rd (μ := upd μ id none) (S := S) (w := w.drew) (R := (R.drop off).take len) (rows := rows) (cs := olds.toArray ++ vs.toArray ++ z) (s := T.siz e) hol.len hRl hrl
        (fun i row hi' j x hx => hm (hol.rd i row hi' j x hx) (hno row (List.mem_append_left _ (List.mem_of_mem_drop (List.mem_of_mem_take (List.mem_of_getElem? hi')))) x (List.mem_of_getElem? hx)))
        (fun i row hi' j x hx => hm (hvs.rd i row hi' j x hx) (hno row (List.mem_append_right _ (List.mem_of_getElem? hi')) x (List.mem_of_getElem? hx))) hvs.len (fun k hk => by
          rw [Array.getD_eq_getD_getElem?, List.getD_eq_getElem?_getD, Array.getElem?_append_left (by simpa using hk)]
          simp [List.append_toArray])
      exact fun i row hi' j x hx => hup (key i row hi' j x hx)
end
end Go.Eng

namespace La
open Go Go.Eng Go.Proofs
set_option maxRecDepth 10000
set_option linter.unusedSimpArgs false
set_option linter.unusedVariables false

theorem drop_len {α : Type} {L T : List α} {off : Nat} (h : off ≤ L.length) (ht : L.drop off = T) : L.length = off + T.length := by
  have := congrArg List.length ht
  rw [List.length_drop] at this
  omega
theorem rebase {L : List Int} {off off' : Nat} (h : off ≤ L.length) (ho : off' = off ∨ off' = 0) (f : Int) :
    (((L.map intRow).drop (off - off')).take (off' + (L.length - off)) ++ [intRow f]) = (((L.drop (off - off')).take (off' + (L.length - off))) ++ [f]).map intRow ∧
    ((((L.drop (off - off')).take (off' + (L.length - off))) ++ [f]).drop off') = L.drop off ++ [f] ∧ (((L.drop (off - off')).take (off' + (L.length - off))) ++ [f]).length = off' + (L.length - off + 1) := by
  have hl : ((L.drop (off - off')).take (off' + (L.length - off))).length = off' + (L.length - off) := by simp; omega
  refine ⟨?_, ?_, ?_⟩
  · rw [List.map_append, List.map_take, List.map_drop]; rfl
  · rw [List.drop_append_of_le_length (by omega), List.drop_take, List.drop_drop]
    have e : off - off' + off' = off := by rcases ho with rfl | rfl <;> omega
    rw [e, Nat.add_sub_cancel_left]
    congr 1
    exact List.take_of_length_le (by simp)
  · rw [List.length_append, hl]; simp; omega

theorem allF_len {m : List (Int × Node)} {x : Int} {n : Node} (h : mget m x = some n) : n.entries.length ≤ (allF m).length := by
  have h1 := mget_mem h
  unfold allF
  clear h
  induction m with
  | nil => cases h1
  | cons p r ih =>
    simp only [List.flatMap_cons, List.length_append, List.length_map]
    rcases List.mem_cons.1 h1 with rfl | h1
    · simp only; omega
    · have := ih h1; omega
theorem mB_start (k : Int) : mput ([] : List (Int × AV)) k (.bool true) = mB (mput [] k true) := rfl
open Classical in
set_option maxHeartbeats 4000000 in
theorem rwithin_ok (m : List (Int × Node)) (fid inn : Int) (hsz : (allF m).length ≤ 90000000) : FnOK Try.prog 81 [.rm (mN m), .int .i64 fid, .int .i64 inn] [] (fun r _ => r = .bool (decide (MReach m inn fid))) := by
  refine fn_of_cwW tabOK (Go.Proofs.Try.func81) rfl (fun C => ?_)
  simp only [Go.Proofs.Try.ntmps81, Go.Proofs.Try.results81, go_sem]
  refine cw_go tabOK 99 (by simp only [go_sem]; try exact rfl) ?_ ?_
  · simp [go_sem, AV.deepB, AV.pureB]
  refine cw_loopS (fun s : List (Int × Bool) × Nat × List Int => s.2.1 ≤ s.2.2.length ∧ BI m inn s.1 (s.2.2.drop s.2.1)) (fun s => (s.2.2.length - s.2.1) + unseen m s.1) (fun s => [(8, .osl 15 1 s.2.1 (s.2.2.length - s.2.1)), (10, .any), (14, .any), (15, .any), (16, .any), (17, .any), (18, .any), (19, .any), (20, .any), (21, .any), (22, .any), (23, .any), (24, .any), (25, .any), (26, .any), (27, .any), (28, .any), (29, .any), (30, .any), (31, .any), (32, .any), (33, .any), (34, .any), (35, .any), (36, .any), (37, .any), (38, .any), (39, .any), (40, .any), (41, .any), (42, .any), (43, .any), (44, .any), (45, .any)])
    (fun s => [(11, .map (mB s.1)), (15, .cells 3 1 (s.2.2.map intRow))]) (mput [] inn true, 0, [inn]) ⟨by simp, BI.begin m inn⟩ ?_ fun s hs => ?_
  · simp only [go_sem]
    exact le_sub (by simp [go_sem]) (by simp [go_sem, mB_start, intRow]) (by simp [go_sem])
  obtain ⟨had, off, L⟩ := s
  obtain ⟨hoff, hbi⟩ := hs
  simp only at hoff hbi
  simp only [go_sem]
  refine cw_go tabOK 99 (by simp only [go_sem]; try exact rfl) (by simp [go_sem]) ?_
  refine cw_cond (by simp only [go_sem]; try exact rfl) trivial (fun h => ?_) (fun h => ?_)
  · have hlt : off < L.length := by simp at h; omega
    have hg : (L.map intRow).getD off [] = intRow (L.getD off default) := Fam.getD hlt
    have hdr := drop_getD hlt
    have hl1 : L.length - off = (L.drop (off + 1)).length + 1 := by rw [List.length_drop]; omega
    generalize hx : L.getD off default = x at *
    have hbi0 := hbi
    rw [hdr] at hbi0
    cases hm : mget m x with
    | none =>
      have hmg : mget (mN m) x = none := by rw [mN_get, hm]; rfl
      refine cw_go tabOK 99 (by simp only [go_sem, hg, intRow, hmg]; try exact rfl) ?_ ?_
      · simp [hg, intRow]; omega
      refine cw_loopS (fun _ : Unit => True) (fun _ => 0) (fun _ => []) (fun _ => []) () trivial ?_ fun _ _ => ?_
      · simp only [go_sem]
        exact le_sub (by simp [go_sem]) (by simp [go_sem]) (by simp [go_sem])
      simp only [go_sem]
      refine cw_go tabOK 99 (by simp only [go_sem]; try exact rfl) (by simp [go_sem]) ?_
      refine cw_cond (by simp only [go_sem]; try exact rfl) trivial (fun h => ?_) (fun h => ?_)
      · cases h
      refine cw_go tabOK 99 (by simp only [go_sem]; try exact rfl) ?_ ?_
      · simp; omega
      refine cw_back ⟨(had, off + 1, L), ⟨by simp only; omega, by simp only; exact hbi0.none hm⟩, by simp only; omega, le_sub ?_ ?_ ?_⟩
      · simp [go_sem]; omega
      · simp [go_sem]
      · simp [go_sem]
    | some n =>
      have hmg : mget (mN m) x = some (.agg (nodeRow n)) := by rw [mN_get, hm]; rfl
      have hbj := hbi0.inner hm
      have hel := allF_len hm
      have hc : (x :: L.drop (off + 1)).length + unseen m had = L.length - off + unseen m had := by simp only [List.length_cons]; omega
      rw [hc, ← hdr] at hbj
      have hcs : L.length - off + unseen m had ≤ (allF m).length + 1 := by have := hbi.size; rw [List.length_drop] at this; exact this
      refine cw_go tabOK 99 (by simp only [go_sem, hg, intRow, hmg, nodeRow]; try exact rfl) ?_ ?_
      · simp [hg, intRow, hmg, nodeRow]; omega
      refine cw_loopS (fun s : Nat × List (Int × Bool) × Nat × List Int => s.1 ≤ n.entries.length ∧ s.2.2.1 ≤ s.2.2.2.length ∧ BJ m inn x n (L.length - off + unseen m had) s.1 s.2.1 (s.2.2.2.drop s.2.2.1)) (fun s => n.entries.length - s.1)
        (fun s => [(8, .osl 15 1 s.2.2.1 (s.2.2.2.length - s.2.2.1)), (10, .any), (14, .any), (15, .any), (16, .any), (20, .any), (21, .any), (26, .int .i64 s.1), (27, .any), (28, .any), (29, .any), (30, .any), (31, .any), (32, .any), (33, .any), (34, .any), (35, .any), (36, .any), (37, .any), (38, .any), (39, .any), (40, .any), (41, .any), (42, .any), (43, .any), (44, .any), (45, .any)]) (fun s => [(11, .map (mB s.2.1)), (15, .cells 3 1 (s.2.2.2.map intRow))]) (0, had, off, L) ⟨by simp, hoff, hbj⟩ ?_ fun s hs => ?_
      · simp only [go_sem]
        exact le_sub (by simp [go_sem]) (by simp [go_sem]) (by simp [go_sem])
      obtain ⟨j, had2, off2, L2⟩ := s
      obtain ⟨hj, hoff2, hb⟩ := hs
      simp only at hj hoff2 hb
      simp only [go_sem]
      refine cw_go tabOK 99 (by simp only [go_sem]; try exact rfl) (by simp [go_sem]) ?_
      refine cw_cond (by simp only [go_sem]; try exact rfl) trivial (fun h => ?_) (fun h => ?_)
      · have hjl : j < n.entries.length := by simp at h; omega
        have hge : (n.entries.map entryRow).getD j [] = entryRow (n.entries.getD j default) := Fam.getD hjl
        have hw : IntKind.i64.wrap ((j : Int) + 1) = ((j + 1 : Nat) : Int) := by rw [Eng.wrap_small (by omega) (by omega)]; rfl
        have hskip := hb.skip hjl
        have hadd := hb.add hjl
        generalize n.entries.getD j default = f at *
        refine cw_go tabOK 99 (by simp only [go_sem, hge, entryRow]; try exact rfl) ?_ ?_
        · simp [hge, entryRow, hjl]
        cases hgb : getB had2 f.fid with
        | true =>
          refine cw_condF (by simp only [go_sem]; try exact rfl) trivial (by simp) ?_
          refine cw_go tabOK 99 (by simp only [go_sem, hw]; try exact rfl) (by simp [go_sem, hw]) ?_
          refine cw_back ⟨(j + 1, had2, off2, L2), ⟨by simp only; omega, hoff2, hskip hgb⟩, by simp only; omega, le_sub ?_ ?_ ?_⟩
          · simp [go_sem]
          · simp [go_sem]
          · simp [go_sem]
        | false =>
          refine cw_condT (by simp only [go_sem]; try exact rfl) trivial (by simp) ?_
          refine cw_goR 99 (by simp only [go_sem]; try exact rfl) ?_
          refine cw_runN tabOK 3 (by simp only [go_sem]; exact rfl) (by simp only [go_sem]; exact rfl) (by simp only [go_sem]; try exact rfl) (by simp [go_sem]) ?_
          refine cw_runN tabOK 1 (by simp only [go_sem]; exact rfl) (by simp only [go_sem]; exact rfl) (by simp only [go_sem]; try exact rfl) ?_ ?_
          · simp [AV.deepB, AV.pureB]
          refine cw_goR 99 (by simp only [go_sem]; try exact rfl) ?_
          refine cw_runN tabOK 4 (by simp only [go_sem]; exact rfl) (by simp only [go_sem]; exact rfl) (by simp only [go_sem]; try exact rfl) (by simp [go_sem]) ?_
          have hcs2 := hb.size
          rw [List.length_drop] at hcs2
          obtain ⟨q, hq⟩ := hb.head
          have hlq := drop_len hoff2 hq
          simp only [List.length_cons] at hlq
          refine cw_appendO tabOK rfl rfl (by simp only [go_sem]; try exact rfl) (by simp only [go_sem]; try exact rfl) (by simp only [go_sem]; try exact rfl) (by simp only [go_sem]; try exact rfl) (by intro _ _ _ _ h; cases h; rfl) (by simp only [go_sem]; try exact rfl) (by omega) (by simp; omega) (by simp only [go_sem]; try exact rfl) (by decide) (by simp only [go_sem]; decide) (by simp [rowsOf]) (by simp [go_sem]) (by simp [go_sem]; omega) (by simp [go_sem]) (by simp [go_sem, intRow]) fun off' ho => ?_
          obtain ⟨b1, b2, b3⟩ := rebase hoff2 ho f.fid
          have b1' : List.take (off' + (L2.length - off2)) (List.drop (off2 - off') (List.map intRow L2)) ++ [[.int .i64 f.fid]] = List.map intRow (List.take (off' + (L2.length - off2)) (List.drop (off2 - off') L2) ++ [f.fid]) := b1
          clear b1
          generalize List.take (off' + (L2.length - off2)) (List.drop (off2 - off') L2) ++ [f.fid] = L3 at *
          simp only [go_sem]
          rw [b1']
          refine cw_go tabOK 99 (by simp only [go_sem, hw]; try exact rfl) (by simp [go_sem, hw]) ?_
          refine cw_back ⟨(j + 1, mput had2 f.fid true, off', L3), ⟨by simp only; omega, by simp only; omega, by simp only; rw [b2]; exact hadd hgb⟩, by simp only; omega, le_sub ?_ ?_ ?_⟩
          · simp [go_sem]; omega
          · simp [go_sem]
          · simp [go_sem]
      · have e : j = n.entries.length := by simp at h; omega
        subst e
        obtain ⟨h1, h2⟩ := hb.pop hcs
        obtain ⟨q, hq⟩ := hb.head
        have hlq := drop_len hoff2 hq
        simp only [List.length_cons] at hlq
        refine cw_go tabOK 99 (by simp only [go_sem]; try exact rfl) ?_ ?_
        · simp; omega
        refine cw_back ⟨(had2, off2 + 1, L2), ⟨by simp only; omega, by simp only; rw [← List.drop_drop]; exact h1⟩, ?_, le_sub ?_ ?_ ?_⟩
        · simp only
          rw [List.length_drop, List.length_drop] at h2
          omega
        · simp [go_sem]; omega
        · simp [go_sem]
        · simp [go_sem]
  · have e : L.drop off = [] := List.drop_eq_nil_of_le (by simp at h; omega)
    rw [e] at hbi
    have hf := hbi.fin fid
    refine cw_go tabOK 99 (by simp only [go_sem]; try exact rfl) (by simp [go_sem]) ?_
    refine cw_ret ⟨_, _, (by simp only [go_sem]; try exact rfl), by simp [go_sem], _, .inr (.inl rfl), ?_⟩
    cases hgb : getB had fid with
    | true => rw [decide_eq_true (hf.1 hgb)]; rfl
    | false => rw [decide_eq_false fun hh => by rw [hf.2 hh] at hgb; cases hgb]; rfl
end La

namespace La
open Go Go.Eng Go.Proofs
set_option maxRecDepth 10000
set_option linter.unusedSimpArgs false
set_option linter.unusedVariables false

theorem rname_ok (s : List UInt8) (hs : s.length ≤ 100000000) : FnOK Try.prog 122 [.str s] [] (fun r _ => r = .bool (nameB s)) := by
  refine fn_of_cwW tabOK (Go.Proofs.Try.func122) rfl (fun C => ?_)
  simp only [Go.Proofs.Try.ntmps122, Go.Proofs.Try.results122, go_sem]
  refine cw_go tabOK 99 (by simp only [go_sem]; try exact rfl) (by simp [go_sem]) ?_
  refine cw_loopS (fun i : Nat => i ≤ s.length ∧ ∀ j, j < i → okC (s.getD j 0) = true) (fun i => s.length - i) (fun i => [(3, .any), (4, .any), (7, .int .i64 i), (8, .any), (9, .any), (10, .any), (11, .any), (12, .any), (13, .any), (14, .any), (15, .any), (16, .any), (17, .any), (18, .any), (19, .any), (20, .any), (21, .any), (22, .any), (23, .any), (24, .any), (25, .any), (26, .any), (27, .any), (28, .any), (29, .any), (30, .any), (31, .any), (32, .any), (33, .any), (34, .any), (35, .any), (36, .any)]) (fun _ => []) 0 ⟨by omega, by omega⟩ ?_ fun i hi => ?_
  · simp only [go_sem]
    exact le_sub (by simp [go_sem]) (by simp [go_sem]) (by simp [go_sem])
  obtain ⟨hi, hs2⟩ := hi
  simp only [go_sem]
  refine cw_go tabOK 99 (by simp only [go_sem]; try exact rfl) (by simp [go_sem]) ?_
  refine cw_cond (by simp only [go_sem]; try exact rfl) trivial (fun h => ?_) (fun h => ?_)
  · have hlt : i < s.length := by simp at h; omega
    have hw : IntKind.i64.wrap ((i : Int) + 1) = ((i + 1 : Nat) : Int) := by rw [Eng.wrap_small (by omega) (by omega)]; rfl
    have hno : okC (s.getD i 0) = false → nameB s = false := fun h0 => by
      cases e : s.all okC with
      | false => unfold nameB; rw [e, Bool.and_false]
      | true =>
        have := List.all_eq_true.1 e (s.getD i 0) (by rw [List.getD_eq_getElem?_getD, List.getElem?_eq_getElem hlt]; exact List.getElem_mem hlt)
        rw [this] at h0; cases h0
    have hyes : okC (s.getD i 0) = true → ∀ j, j < i + 1 → okC (s.getD j 0) = true := fun h0 j hj => by
      rcases Nat.lt_succ_iff_lt_or_eq.1 hj with h1 | rfl
      · exact hs2 j h1
      · exact h0
    refine cw_goR 99 (by simp only [go_sem]; try exact rfl) ?_
    refine cw_runN tabOK 2 (by simp only [go_sem]; exact rfl) (by simp only [go_sem]; exact rfl) (by simp only [go_sem]; try exact rfl) (by simp [go_sem]) ?_
    refine cw_goR 99 (by simp only [go_sem]; try exact rfl) ?_
    refine cw_runN tabOK 2 (by simp only [go_sem]; exact rfl) (by simp only [go_sem]; exact rfl) (by simp only [go_sem]; try exact rfl) (by simp [go_sem]) ?_
    refine cw_runN tabOK 1 (by simp only [go_sem]; exact rfl) (by simp only [go_sem]; exact rfl) (by simp only [go_sem]; try exact rfl) ?_ ?_
    · simp; omega
    refine cw_runN tabOK 1 (by simp only [go_sem]; exact rfl) (by simp only [go_sem]; exact rfl) (by simp only [go_sem]; try exact rfl) (by simp [go_sem]) ?_
    refine cw_goR 99 (by simp only [go_sem]; try exact rfl) ?_
    generalize s.getD i 0 = c at hno hyes
    have hc : okC c = ((decide ((c.toNat : Int) ≥ 97) && decide ((c.toNat : Int) ≤ 122)) || (decide ((c.toNat : Int) ≥ 48) && decide ((c.toNat : Int) ≤ 57))) := by
      unfold okC
      rw [Bool.eq_iff_iff]
      simp only [Bool.or_eq_true, Bool.and_eq_true, decide_eq_true_eq]
      omega
    generalize hf1 : decide ((c.toNat : Int) ≥ 97) = f1 at hc
    generalize hf2 : decide ((c.toNat : Int) ≤ 122) = f2 at hc
    generalize hf3 : decide ((c.toNat : Int) ≥ 48) = f3 at hc
    generalize hf4 : decide ((c.toNat : Int) ≤ 57) = f4 at hc
    refine cw_runN tabOK 14 (by simp only [go_sem]; exact rfl) (by simp only [go_sem]; exact rfl) (by simp only [go_sem, hf1, hf2, hf3, hf4]; try exact rfl) ?_ ?_
    · cases f1 <;> cases f2 <;> cases f3 <;> cases f4 <;> simp
    have hb : (bif (bif f1 then f2 else false) then true else (bif f3 then f4 else false)) = okC c := by
      rw [hc]; cases f1 <;> cases f2 <;> cases f3 <;> cases f4 <;> rfl
    simp only [go_sem, hb]
    refine cw_go tabOK 99 (by simp only [go_sem]; try exact rfl) (by simp [go_sem]) ?_
    refine cw_cond (by simp only [go_sem]; try exact rfl) trivial (fun h => ?_) (fun h => ?_)
    · have h0 : okC c = false := by simpa using h
      refine cw_go tabOK 99 (by simp only [go_sem]; try exact rfl) (by simp [go_sem]) ?_
      refine cw_ret ⟨_, _, (by simp only [go_sem]; try exact rfl), by simp [go_sem], _, .inr (.inl rfl), ?_⟩
      rw [hno h0]
    · have h0 : okC c = true := by simpa using h
      refine cw_go tabOK 99 (by simp only [go_sem, hw]; try exact rfl) (by simp [go_sem, hw]) ?_
      refine cw_back ⟨i + 1, ⟨by omega, hyes h0⟩, by omega, le_sub ?_ ?_ ?_⟩
      · simp [go_sem]
      · simp [go_sem]
      · simp [go_sem]
  · have e : i = s.length := by simp at h; omega
    have : s.all okC = true := List.all_eq_true.2 fun x hx => by
      obtain ⟨j, hj⟩ := List.getElem?_of_mem hx
      have := hs2 j (by rw [e]; exact (List.getElem?_eq_some_iff.1 hj).1)
      rwa [List.getD_eq_getElem?_getD, hj] at this
    refine cw_go tabOK 99 (by simp only [go_sem]; try exact rfl) (by simp [go_sem]) ?_
    refine cw_ret ⟨_, _, (by simp only [go_sem]; try exact rfl), by simp [go_sem], _, .inr (.inl rfl), ?_⟩
    unfold nameB
    rw [this, cond_and, Bool.and_true]
    have h1 : decide ((s.length : Int) > 0) = decide (1 ≤ s.length) := by rw [Bool.eq_iff_iff]; simp only [decide_eq_true_eq]; omega
    have h2 : decide ((s.length : Int) ≤ 8) = decide (s.length ≤ 8) := by rw [Bool.eq_iff_iff]; simp only [decide_eq_true_eq]; omega
    rw [h1, h2]
end La

namespace La
open Go Go.Eng Go.Proofs
set_option maxRecDepth 10000
set_option linter.unusedSimpArgs false
set_option linter.unusedVariables false

/-- the fids of entries so far: of so many nodes, and of so many entries of the next one -/
def fidsTo (l : List Node) (i : Nat) : List Int := allFids (l.take i)
theorem fidsTo_succ {l : List Node} {i : Nat} (h : i < l.length) : fidsTo l (i + 1) = fidsTo l i ++ fidsE (l.getD i default) := by
  unfold fidsTo allFids; rw [take_succ_getD h, List.flatMap_append]; simp
theorem fidsE_take {n : Node} {j : Nat} (h : j < n.entries.length) : (fidsE n).take (j + 1) = (fidsE n).take j ++ [(n.entries.getD j default).fid] := by
  unfold fidsE
  rw [← List.map_take, ← List.map_take, take_succ_getD h, List.map_append]; rfl
theorem allFids_len {l : List Node} : (∀ n, n ∈ l → n.entries.length ≤ 6) → (allFids l).length ≤ 6 * l.length := fun h => by
  induction l with
  | nil => simp [allFids]
  | cons n r ih =>
    have h1 := ih (fun n hn => h n (List.mem_cons_of_mem _ hn))
    have h2 := h n List.mem_cons_self
    unfold allFids at h1 ⊢
    simp only [List.flatMap_cons, List.length_append, List.length_cons]
    have h3 : (fidsE n).length = n.entries.length := by simp [fidsE]
    omega
theorem mI_zero : ([] : List (Int × AV)) = mI (timesM []) := rfl

open Classical in
set_option maxHeartbeats 8000000 in
theorem whole_ok (l : List Node) (hw : Wh l) : FnOK Try.prog 66 [.sl (l.map nodeRow)] [] (fun r _ => r = .bool true) := by
  have h24 := hw.good.len
  have hof := of_ok l (by omega)
  rw [mapN_eq] at hof
  have hmg : ∀ n, n ∈ l → ∀ e, e ∈ n.entries → ∃ m, mget (mN (mapD l)) e.fid = some (.agg (nodeRow m)) := fun n hn e he => by
    obtain ⟨m, hm, hf⟩ := hw.there n.fid e.name e.fid ⟨n, hn, rfl, he⟩
    exact ⟨m, by rw [mN_get, mapD_get hw.good.up, (findN_some hw.good.up).2 ⟨hm, hf⟩]; rfl⟩
  have hallm : (allF (mapD l)).length ≤ 90000000 := by have := allF_small hw.good.ent; omega
  have hrises : FnOK Try.prog 27 [.sl (l.map nodeRow)] [] (fun r _ => r = .bool true) := by
    have := rises_ok l hw.good.small
    rwa [(risesB_iff l).2 ⟨hw.good.up, fun n hn => (hw.loc n hn).eup⟩] at this
  refine fn_of_cwW tabOK (Go.Proofs.Try.func66) rfl (fun C => ?_)
  simp only [Go.Proofs.Try.ntmps66, Go.Proofs.Try.results66, go_sem]
  refine cw_go tabOK 99 (by simp only [go_sem]; try exact rfl) (by simp [go_sem]) ?_
  refine cw_callG [] 1000 rfl rfl (by simp only [go_sem]; try exact rfl) (by simp [go_sem]) ⟨_, Go.Proofs.Try.func26, by kernel_rfl, rfl⟩ (by simp only [go_sem, Bool.false_or, Bool.or_true, Bool.true_or, if_true]; try exact rfl) (hof) (by simp [go_sem]) (by simp [go_sem]) (by simp [go_sem]) (by simp only [go_sem]) (by simp [go_sem]) (by simp only [go_sem, Bool.false_or, Bool.or_true, Bool.true_or, Bool.or_false, ↓reduceIte]; exact rfl) ?_
  refine cw_go tabOK 99 (by simp only [go_sem]; try exact rfl) (by simp [go_sem]) ?_
  refine cw_loopS (fun i : Nat => i ≤ l.length) (fun i => l.length - i) (fun i => [(5, .any), (6, .any), (7, .any), (8, .any), (9, .any), (10, .any), (18, .int .i64 i), (19, .any), (20, .any), (21, .any), (22, .any), (23, .any), (24, .any), (25, .any), (26, .any), (27, .any), (28, .any), (29, .any), (30, .any), (31, .any), (32, .any), (33, .any), (34, .any), (35, .any), (36, .any), (37, .any), (38, .any), (39, .any), (40, .any), (41, .any), (42, .any), (43, .any), (44, .any), (45, .any), (46, .any), (47, .any), (48, .any), (49, .any), (50, .any), (51, .any), (52, .any), (53, .any), (54, .any), (55, .any), (56, .any), (57, .any), (58, .any), (59, .any), (60, .any), (61, .any), (62, .any), (63, .any), (64, .any), (65, .any), (66, .any), (67, .any), (68, .any), (69, .any), (70, .any), (71, .any), (72, .any), (73, .any), (74, .any), (75, .any), (76, .any), (77, .any), (78, .any), (79, .any), (80, .any), (81, .any)]) (fun i => [(15, .map (mI (timesM (fidsTo l i))))]) 0 (by omega) ?_ fun i hi => ?_
  · simp only [go_sem]
    exact le_sub (by simp [go_sem]) (by simp [go_sem, fidsTo, allFids, mI_zero]) (by simp [go_sem])
  simp only [go_sem]
  refine cw_go tabOK 99 (by simp only [go_sem]; try exact rfl) (by simp [go_sem]) ?_
  refine cw_cond (by simp only [go_sem]; try exact rfl) trivial (fun h => ?_) (fun h => ?_)
  · have hlt : i < l.length := by simp at h; omega
    have hn := getD_mem hlt
    have hg : (l.map nodeRow).getD i [] = nodeRow (l.getD i default) := Fam.getD hlt
    have hfs := fidsTo_succ hlt
    have hfl : (fidsTo l i).length ≤ 6 * i := by
      have := allFids_len (l := l.take i) (fun n hn => hw.good.ent n (List.mem_of_mem_take hn))
      rw [List.length_take, Nat.min_eq_left (by omega)] at this
      exact this
    have hwi : IntKind.i64.wrap ((i : Int) + 1) = ((i + 1 : Nat) : Int) := by rw [Eng.wrap_small (by omega) (by omega)]; rfl
    generalize l.getD i default = n at *
    have hloc := hw.loc n hn
    have hent := hw.good.ent n hn
    have hdat := hw.good.data n hn
    refine cw_goR 99 (by simp only [go_sem]; try exact rfl) ?_
    refine cw_runN tabOK 4 (by simp only [go_sem]; exact rfl) (by simp only [go_sem]; exact rfl) (by simp only [go_sem, hg, nodeRow]; try exact rfl) ?_ ?_
    · simp [hg, nodeRow, hlt]
    refine cw_goR 99 (by simp only [go_sem]; try exact rfl) ?_
    refine cw_runN tabOK 9 (by simp only [go_sem]; exact rfl) (by simp only [go_sem]; exact rfl) (by simp only [go_sem]; try exact rfl) (by simp [go_sem]) ?_
    refine cw_name 30 (by simp only [go_sem]; exact rfl) (fun c30 h30 => ?_)
    simp only [go_sem]
    refine cw_runN tabOK 10 (by simp only [go_sem]; exact rfl) (by simp only [go_sem]; exact rfl) (by simp only [go_sem]; try exact rfl) ?_ ?_
    · cases c30 <;> simp
    refine cw_name 40 (by simp only [go_sem]; exact rfl) (fun c40 h40 => ?_)
    simp only [go_sem]
    refine cw_runN tabOK 6 (by simp only [go_sem]; exact rfl) (by simp only [go_sem]; exact rfl) (by simp only [go_sem]; try exact rfl) (by simp [go_sem]) ?_
    refine cw_name 46 (by simp only [go_sem]; exact rfl) (fun c46 h46 => ?_)
    simp only [go_sem]
    refine cw_runN tabOK 6 (by simp only [go_sem]; exact rfl) (by simp only [go_sem]; exact rfl) (by simp only [go_sem]; try exact rfl) (by simp [go_sem]) ?_
    refine cw_name 52 (by simp only [go_sem]; exact rfl) (fun c52 h52 => ?_)
    simp only [go_sem]
    have hc : c52 = false := by
      subst h52 h46 h40 h30
      have e6 : decide ((n.entries.length : Int) > 6) = false := decide_eq_false (by omega)
      have e20 : decide ((n.data.length : Int) > 20) = false := decide_eq_false (by omega)
      cases hd : n.dir with
      | true => simp [hloc.dirD hd]; omega
      | false => simp [hloc.file hd]; omega
    refine cw_go tabOK 99 (by simp only [go_sem]; try exact rfl) (by simp [go_sem]) ?_
    refine cw_condF (by simp only [go_sem]; try exact rfl) trivial (hc) ?_
    refine cw_go tabOK 99 (by simp only [go_sem]; try exact rfl) (by simp [go_sem]) ?_
    refine cw_loopS (fun j : Nat => j ≤ n.entries.length) (fun j => n.entries.length - j) (fun j => [(8, .any), (9, .any), (10, .any), (56, .int .i64 j), (57, .any), (58, .any), (59, .any), (60, .any), (61, .any), (62, .any), (63, .any), (64, .any), (65, .any), (66, .any), (67, .any), (68, .any), (69, .any), (70, .any), (71, .any), (72, .any), (73, .any), (74, .any), (75, .any), (76, .any), (77, .any), (78, .any), (79, .any), (80, .any)]) (fun j => [(15, .map (mI (timesM (fidsTo l i ++ (fidsE n).take j))))]) 0 (by omega) ?_ fun j hj => ?_
    · simp only [go_sem]
      exact le_sub (by simp [go_sem]) (by simp [go_sem]) (by simp [go_sem])
    simp only [go_sem]
    refine cw_go tabOK 99 (by simp only [go_sem]; try exact rfl) (by simp [go_sem]) ?_
    refine cw_cond (by simp only [go_sem]; try exact rfl) trivial (fun h => ?_) (fun h => ?_)
    · have hlj : j < n.entries.length := by simp at h; omega
      have hgj : (n.entries.map entryRow).getD j [] = entryRow (n.entries.getD j default) := Fam.getD hlj
      have hej := getD_mem hlj
      have htj : timesM (fidsTo l i ++ (fidsE n).take (j + 1)) = mput (timesM (fidsTo l i ++ (fidsE n).take j)) (n.entries.getD j default).fid (getI (timesM (fidsTo l i ++ (fidsE n).take j)) (n.entries.getD j default).fid + 1) := by
        rw [fidsE_take hlj, ← List.append_assoc, timesM_snoc]; rfl
      have hwj : IntKind.i64.wrap ((j : Int) + 1) = ((j + 1 : Nat) : Int) := by rw [Eng.wrap_small (by omega) (by omega)]; rfl
      have hcnt : getI (timesM (fidsTo l i ++ (fidsE n).take j)) (n.entries.getD j default).fid ≤ 1000 ∧ 0 ≤ getI (timesM (fidsTo l i ++ (fidsE n).take j)) (n.entries.getD j default).fid := by
        rw [timesM_get]
        have := cntF_le (n.entries.getD j default).fid (fidsTo l i ++ (fidsE n).take j)
        have h2 : ((fidsE n).take j).length ≤ 6 := by simp [fidsE]; omega
        rw [List.length_append] at this
        omega
      obtain ⟨m, hmm⟩ := hmg n hn _ hej
      have hnmB : nameB (n.entries.getD j default).name = true := hw.name n.fid _ _ ⟨n, hn, rfl, hej⟩
      generalize n.entries.getD j default = e at *
      have hwc : IntKind.i64.wrap (getI (timesM (fidsTo l i ++ (fidsE n).take j)) e.fid + 1) = getI (timesM (fidsTo l i ++ (fidsE n).take j)) e.fid + 1 := Eng.wrap_small (by omega) (by omega)
      have hnl : e.name.length ≤ 100000000 := by
        unfold nameB at hnmB
        simp only [Bool.and_eq_true, decide_eq_true_eq] at hnmB
        omega
      have hrn := rname_ok e.name hnl
      rw [hnmB] at hrn
      generalize timesM (fidsTo l i ++ (fidsE n).take j) = tm at *
      refine cw_go tabOK 99 (by simp only [go_sem, hgj, entryRow, hwc, hmm, nodeRow, cond_false, cond_true]; try exact rfl) ?_ ?_
      · simp [hgj, entryRow, hlj, hmm, nodeRow, AV.deepB, AV.pureB, AV.leaf]
      refine cw_callC rfl (by simp only [go_sem]; try exact rfl) (by simp only [go_sem]; try exact rfl) (by simp [go_sem]) ⟨_, Go.Proofs.Try.func122, by kernel_rfl, rfl⟩ (by simp [go_sem]) (fun hb => (hrn)) (by simp [go_sem]) (by simp only [go_sem]; exact rfl) ?_
      refine cw_go tabOK 99 (by simp only [go_sem]; try exact rfl) (by simp [go_sem]) ?_
      refine cw_condF (by simp only [go_sem]; try exact rfl) trivial (by simp) ?_
      refine cw_go tabOK 99 (by simp only [go_sem, hwj]; try exact rfl) (by simp [go_sem, hwj]) ?_
      refine cw_back ⟨j + 1, by omega, by omega, le_sub ?_ ?_ ?_⟩
      · simp [go_sem]
      · simp [go_sem, htj]
      · simp [go_sem]
    · have e : j = n.entries.length := by simp at h; omega
      subst e
      refine cw_go tabOK 99 (by simp only [go_sem, hwi]; try exact rfl) (by simp [go_sem, hwi]) ?_
      refine cw_back ⟨i + 1, by omega, by omega, le_sub ?_ ?_ ?_⟩
      · simp [go_sem]
      · simp [go_sem, hfs, fidsE, List.take_of_length_le]
      · simp [go_sem]
  · have e : i = l.length := by simp at h; omega
    subst e
    have hall : fidsTo l l.length = allFids l := by unfold fidsTo; rw [List.take_length]
    rw [hall]
    have h0 := wh_zero hw
    have h1 := fun f => @wh_one l hw f
    have hT : ∀ f, getI (timesM (allFids l)) f = cntF f (allFids l) := timesM_get (allFids l)
    generalize timesM (allFids l) = tm at *
    refine cw_go tabOK 99 (by simp only [go_sem]; try exact rfl) (by simp [go_sem]) ?_
    refine cw_loopS (fun i : Nat => i ≤ l.length) (fun i => l.length - i) (fun i => [(12, .any), (84, .int .i64 i), (85, .any), (86, .any), (87, .any), (88, .any), (89, .any), (90, .any), (91, .any), (92, .any), (93, .any), (94, .any), (95, .any), (96, .any), (97, .any), (98, .any), (99, .any), (100, .any), (101, .any), (102, .any), (103, .any), (104, .any), (105, .any), (106, .any), (107, .any), (108, .any), (109, .any), (110, .any), (111, .any), (112, .any), (113, .any), (114, .any), (115, .any), (116, .any), (117, .any), (118, .any), (119, .any), (120, .any)]) (fun _ => []) 0 (by omega) ?_ fun i hi => ?_
    · simp only [go_sem]
      exact le_sub (by simp [go_sem]) (by simp [go_sem]) (by simp [go_sem])
    simp only [go_sem]
    refine cw_go tabOK 99 (by simp only [go_sem]; try exact rfl) (by simp [go_sem]) ?_
    refine cw_cond (by simp only [go_sem]; try exact rfl) trivial (fun h => ?_) (fun h => ?_)
    · have hlt : i < l.length := by simp at h; omega
      have hn := getD_mem hlt
      have hg : (l.map nodeRow).getD i [] = nodeRow (l.getD i default) := Fam.getD hlt
      have hwi : IntKind.i64.wrap ((i : Int) + 1) = ((i + 1 : Nat) : Int) := by rw [Eng.wrap_small (by omega) (by omega)]; rfl
      generalize l.getD i default = n at *
      refine cw_goR 99 (by simp only [go_sem]; try exact rfl) ?_
      refine cw_runN tabOK 4 (by simp only [go_sem]; exact rfl) (by simp only [go_sem]; exact rfl) (by simp only [go_sem, hg, nodeRow]; try exact rfl) ?_ ?_
      · simp [hg, nodeRow, hlt]
      have hwn := rwithin_ok (mapD l) n.fid 0 hallm
      rw [decide_eq_true (wh_reach hw ⟨n, hn, rfl⟩)] at hwn
      refine cw_goR 99 (by simp only [go_sem]; try exact rfl) ?_
      refine cw_runN tabOK 3 (by simp only [go_sem]; exact rfl) (by simp only [go_sem]; exact rfl) (by simp only [go_sem]; try exact rfl) (by simp [go_sem]) ?_
      refine cw_name 90 (by simp only [go_sem]; exact rfl) (fun c90 h90 => ?_)
      simp only [go_sem]
      refine cw_runN tabOK 10 (by simp only [go_sem]; exact rfl) (by simp only [go_sem]; exact rfl) (by simp only [go_sem, cond_false]; try exact rfl) ?_ ?_
      · cases c90 <;> simp
      refine cw_name 100 (by simp only [go_sem]; exact rfl) (fun c100 h100 => ?_)
      simp only [go_sem]
      refine cw_runN tabOK 14 (by simp only [go_sem]; exact rfl) (by simp only [go_sem]; exact rfl) (by simp only [go_sem, cond_false]; try exact rfl) ?_ ?_
      · cases c100 <;> simp
      refine cw_viewC rfl (by simp only [go_sem]; try exact rfl) (by simp only [go_sem]; try exact rfl) (by simp [go_sem]) (by simp only [go_sem]; try exact rfl) (by simp [go_sem]) ⟨_, Go.Proofs.Try.func81, by kernel_rfl, rfl⟩ (fun hb => (hwn)) (by simp [go_sem]) (by simp only [go_sem]; exact rfl) ?_
      refine cw_runN tabOK 4 (by simp only [go_sem]; exact rfl) (by simp only [go_sem]; exact rfl) (by simp only [go_sem, cond_false]; try exact rfl) ?_ ?_
      · cases c100 <;> simp <;> exact fun h => ⟨h, fun h2 => ⟨h, h2⟩⟩
      refine cw_name 119 (by simp only [go_sem]; exact rfl) (fun c119 h119 => ?_)
      simp only [go_sem]
      have hc : c119 = false := by
        subst h119 h100 h90
        by_cases hz : n.fid = 0
        · have hd := wh_dir hw hn hz
          have hz0 : getI tm 0 = 0 := by rw [hT, h0]; rfl
          simp [hz, hd, hz0]
        · have h11 := h1 n.fid ⟨n, hn, rfl⟩ hz
          have ht1 : getI tm n.fid = 1 := by rw [hT, h11]; rfl
          simp [hz, ht1]
      refine cw_go tabOK 99 (by simp only [go_sem]; try exact rfl) (by simp [go_sem]) ?_
      refine cw_condF (by simp only [go_sem]; try exact rfl) trivial (hc) ?_
      refine cw_go tabOK 99 (by simp only [go_sem, hwi]; try exact rfl) (by simp [go_sem, hwi]) ?_
      refine cw_back ⟨i + 1, by omega, by omega, le_sub ?_ ?_ ?_⟩
      · simp [go_sem]
      · simp [go_sem]
      · simp [go_sem]
    · have e : i = l.length := by simp at h; omega
      subst e
      have hlp : 0 < l.length := by
        obtain ⟨m, hm, _⟩ := hw.root
        exact List.length_pos_of_mem hm
      refine cw_go tabOK 99 (by simp only [go_sem]; try exact rfl) (by simp [go_sem]) ?_
      refine cw_call rfl rfl (by simp only [go_sem]; try exact rfl) (by simp [go_sem]) ⟨_, Go.Proofs.Try.func27, by kernel_rfl, rfl⟩ (by simp [go_sem]) (hrises) (by simp [go_sem]) (by simp only [go_sem]; exact rfl) ?_
      refine cw_go tabOK 99 (by simp only [go_sem]; try exact rfl) (by simp [go_sem]) ?_
      refine cw_ret ⟨_, _, (by simp only [go_sem]; try exact rfl), by simp [go_sem], _, .inr (.inl rfl), ?_⟩
      simp; omega
end La

namespace La
open Go Go.Eng Go.Proofs
set_option maxRecDepth 10000
set_option linter.unusedSimpArgs false
set_option linter.unusedVariables false

set_option maxHeartbeats 2000000 in
theorem swhole_ok (al : List Act) (log : List Rec) (hlen : al.length ≤ 2000000) (hfa : ∀ a, a ∈ al → ActFit a) (hlog : SmallL log) (hl2 : log.length ≤ 2000000) (hfit : ∀ r, r ∈ log → ActFit r.act) :
    FnOK Try.prog 15 [.sl (al.map actRow), .sl (log.map recRow)] [] (fun r _ => r = .bool true) := by
  have hz : srvAt al 0 = ⟨[rootN], 1, []⟩ := rfl
  have hs := fun i => @srvAt_ok al hfa i
  have hsu : ∀ i, srvAt al (i + 1) = if doE (srvAt al i) (al.getD i default) = 0 then doS (srvAt al i) (i : Int) (al.getD i default) else srvAt al i := fun i => rfl
  generalize srvAt al = S at *
  have p0 := snew_ok
  unfold srvRow at p0
  refine fn_of_cwW tabOK (Go.Proofs.Try.func15) rfl (fun C => ?_)
  simp only [Go.Proofs.Try.ntmps15, Go.Proofs.Try.results15, go_sem]
  refine cw_go tabOK 99 (by simp only [go_sem]; try exact rfl) (by simp [go_sem]) ?_
  refine cw_call rfl rfl (by simp only [go_sem]; try exact rfl) (by simp [go_sem]) ⟨_, Go.Proofs.Try.func61, by kernel_rfl, rfl⟩ (by simp [go_sem]) (alive7) (by simp [go_sem]) (by simp only [go_sem]; exact rfl) ?_
  refine cw_go tabOK 99 (by simp only [go_sem]; try exact rfl) (by simp [go_sem]) ?_
  refine cw_cond (by simp only [go_sem]; try exact rfl) trivial (fun h => ?_) (fun h => ?_)
  · cases h
  refine cw_go tabOK 99 (by simp only [go_sem]; try exact rfl) (by simp [go_sem]) ?_
  refine cw_call rfl rfl (by simp only [go_sem]; try exact rfl) (by simp [go_sem]) ⟨_, Go.Proofs.Try.func62, by kernel_rfl, rfl⟩ (by simp [go_sem]) (p0) (by simp [go_sem]) (by simp only [go_sem]; exact rfl) ?_
  refine cw_go tabOK 99 (by simp only [go_sem]; try exact rfl) (by simp [go_sem]) ?_
  refine cw_loopS (fun i : Nat => i ≤ al.length) (fun i => al.length - i) (fun i => [(6, .any), (7, .any), (8, .any), (9, .any), (15, .int .i64 i), (16, .any), (17, .any), (18, .any), (19, .any), (20, .any), (21, .any), (22, .any), (23, .any), (24, .any), (25, .any), (26, .any), (27, .any), (28, .any), (29, .any), (30, .any), (31, .any), (32, .any), (33, .any), (34, .any), (35, .any), (36, .any), (37, .any), (38, .any), (39, .any), (40, .any), (41, .any), (42, .any), (43, .any), (44, .any)])
    (fun i => [(5, .cells 97 3 [srvRow (S i)])]) 0 (by omega) ?_ fun i hi => ?_
  · rw [hz]
    unfold srvRow
    simp only [go_sem]
    exact le_sub (by simp [go_sem]) (by simp [go_sem]) (by simp [go_sem])
  unfold srvRow
  simp only [go_sem]
  refine cw_go tabOK 99 (by simp only [go_sem]; try exact rfl) (by simp [go_sem]) ?_
  refine cw_cond (by simp only [go_sem]; try exact rfl) trivial (fun h => ?_) (fun h => ?_)
  · have hlt : i < al.length := by simp at h; omega
    have hg : (al.map actRow).getD i [] = actRow (al.getD i default) := Fam.getD hlt
    have hsi := hs i (by omega)
    have hsi2 := hs (i + 1) (by omega)
    have hui := hsu i
    have hfi := hfa _ (getD_mem hlt)
    have how' : IntKind.i64.wrap ((i : Int) + 1) = ((i + 1 : Nat) : Int) := by rw [Eng.wrap_small (by omega) (by omega)]; rfl
    clear hs hsu
    generalize al.getD i default = a at *
    have hdo := do_raw (S i) (i : Int) a hsi.hist.good (hsi.past (by omega)) hfi (by have := hsi.next; omega)
    unfold doR at hdo
    have hwho := whole_ok (S (i + 1)).tree hsi2.hist.whole
    generalize S i = s at *
    generalize doS s (i : Int) a = sd at *
    generalize doE s a = e at *
    unfold srvRow at hdo
    by_cases he : e = 0
    · rw [if_pos he] at hdo hui
      subst he
      rw [hui] at hwho
      refine cw_go tabOK 99 (by simp only [go_sem, hg, actRow]; try exact rfl) ?_ ?_
      · simp [hg, actRow, hlt]
      refine cw_freeze 7 rfl (rfl) ?_
      simp only [go_sem]
      unfold actRow at hdo
      refine cw_call rfl rfl (by simp only [go_sem]; try exact rfl) (by simp [go_sem]) ⟨_, Go.Proofs.Try.func63, by kernel_rfl, rfl⟩ (by simp [go_sem]) (hdo) (by simp [go_sem]) (by simp only [go_sem]; exact rfl) ?_
      refine cw_go tabOK 99 (by simp only [go_sem]; try exact rfl) (by simp [go_sem]) ?_
      refine cw_condT (by simp only [go_sem]; try exact rfl) trivial (rfl) ?_
      refine cw_go tabOK 99 (by simp only [go_sem]; try exact rfl) (by simp [go_sem]) ?_
      refine cw_call rfl rfl (by simp only [go_sem]; try exact rfl) (by simp [go_sem]) ⟨_, Go.Proofs.Try.func66, by kernel_rfl, rfl⟩ (by simp [go_sem]) (hwho) (by simp [go_sem]) (by simp only [go_sem]; exact rfl) ?_
      refine cw_go tabOK 99 (by simp only [go_sem]; try exact rfl) (by simp [go_sem]) ?_
      refine cw_condF (by simp only [go_sem]; try exact rfl) trivial (rfl) ?_
      refine cw_go tabOK 99 (by simp only [go_sem, how']; try exact rfl) (by simp [go_sem, how']) ?_
      refine cw_back ⟨i + 1, by omega, by omega, le_sub ?_ ?_ ?_⟩
      · simp [go_sem]
      · simp [go_sem, hui, srvRow]
      · simp [go_sem]
    · rw [if_neg he] at hdo hui
      rw [hui] at hwho
      refine cw_go tabOK 99 (by simp only [go_sem, hg, actRow]; try exact rfl) ?_ ?_
      · simp [hg, actRow, hlt]
      refine cw_freeze 7 rfl (rfl) ?_
      simp only [go_sem]
      unfold actRow at hdo
      refine cw_call rfl rfl (by simp only [go_sem]; try exact rfl) (by simp [go_sem]) ⟨_, Go.Proofs.Try.func63, by kernel_rfl, rfl⟩ (by simp [go_sem]) (hdo) (by simp [go_sem]) (by simp only [go_sem]; exact rfl) ?_
      refine cw_go tabOK 99 (by simp only [go_sem]; try exact rfl) (by simp [go_sem]) ?_
      refine cw_condF (by simp only [go_sem]; try exact rfl) trivial (by simp [he]) ?_
      refine cw_go tabOK 99 (by simp only [go_sem]; try exact rfl) (by simp [go_sem]) ?_
      refine cw_condF (by simp only [go_sem]; try exact rfl) trivial (by simp) ?_
      refine cw_go tabOK 99 (by simp only [go_sem]; try exact rfl) (by simp [go_sem]) ?_
      refine cw_call rfl rfl (by simp only [go_sem]; try exact rfl) (by simp [go_sem]) ⟨_, Go.Proofs.Try.func66, by kernel_rfl, rfl⟩ (by simp [go_sem]) (hwho) (by simp [go_sem]) (by simp only [go_sem]; exact rfl) ?_
      refine cw_go tabOK 99 (by simp only [go_sem]; try exact rfl) (by simp [go_sem]) ?_
      refine cw_condF (by simp only [go_sem]; try exact rfl) trivial (rfl) ?_
      refine cw_go tabOK 99 (by simp only [go_sem, how']; try exact rfl) (by simp [go_sem, how']) ?_
      refine cw_back ⟨i + 1, by omega, by omega, le_sub ?_ ?_ ?_⟩
      · simp [go_sem]
      · simp [go_sem, hui, srvRow]
      · simp [go_sem]
  · have e : i = al.length := by simp at h; omega
    subst e
    have hsi := hs al.length (by omega)
    generalize S al.length = s at *
    have htk := take_ok s (hsi.mono (by omega)) 9 log hlog hl2 hfit
    have hok := hsi.take 9 hfit
    generalize takeS s 9 log = q at *
    generalize judgeJ s.tree s.next ((s.past.length + 1 : Nat) : Int) log = g at *
    have hwho := whole_ok q.tree hok.hist.whole
    unfold srvRow at htk
    refine cw_go tabOK 99 (by simp only [go_sem]; try exact rfl) (by simp [go_sem]) ?_
    refine cw_call rfl rfl (by simp only [go_sem]; try exact rfl) (by simp [go_sem]) ⟨_, Go.Proofs.Try.func64, by kernel_rfl, rfl⟩ (by simp [go_sem]) (htk) (by simp [go_sem]) (by simp only [go_sem]; exact rfl) ?_
    refine cw_go tabOK 99 (by simp only [go_sem]; try exact rfl) (by simp [go_sem]) ?_
    refine cw_call rfl rfl (by simp only [go_sem]; try exact rfl) (by simp [go_sem]) ⟨_, Go.Proofs.Try.func66, by kernel_rfl, rfl⟩ (by simp [go_sem]) (hwho) (by simp [go_sem]) (by simp only [go_sem]; exact rfl) ?_
    refine cw_go tabOK 99 (by simp only [go_sem]; try exact rfl) (by simp [go_sem]) ?_
    refine cw_ret ⟨_, _, (by simp only [go_sem]; try exact rfl), by simp [go_sem], _, .inr (.inl rfl), ?_⟩
    rfl
end La

namespace La
open Go Go.Eng Go.Proofs Go.Proofs.Ytldpfleilffanaa

/-- cells that read so, in blocks that are there -/
def RdC (w : World) (cs : List Value) (xs : List AV) : Prop := cs.length = xs.length ∧ ∀ (j : Nat) y, xs[j]? = some y → RdP (fun b => b < w.heap.size) w (cs.getD j undef) y

theorem rdc_nil {w : World} {cs : List Value} {off : Nat} (h : cs.length = off) : RdC w (cs.drop off) [] :=
  ⟨by simp; omega, fun j y hj => by simp at hj⟩

theorem rdc_cons {w : World} {cs : List Value} {xs ys : List AV} (off s : Nat) (h : RdC w ((cs.drop off).take s) xs) (hs : xs.length = s) (k : RdC w (cs.drop (off + s)) ys) : RdC w (cs.drop off) (xs ++ ys) := by
  obtain ⟨h1, h2⟩ := h
  obtain ⟨k1, k2⟩ := k
  have hl : (cs.drop off).length = s + (cs.drop (off + s)).length := by
    simp only [List.length_take, List.length_drop] at h1 k1 ⊢
    omega
  refine ⟨by rw [List.length_append, hl, hs, k1], fun j y hj => ?_⟩
  by_cases hjs : j < s
  · rw [List.getElem?_append_left (by omega)] at hj
    have := h2 j y hj
    rwa [List.getD_eq_getElem?_getD, List.getElem?_take, if_pos hjs, ← List.getD_eq_getElem?_getD] at this
  · rw [List.getElem?_append_right (by omega), hs] at hj
    have := k2 (j - s) y hj
    rw [List.getD_eq_getElem?_getD, List.getElem?_drop] at this
    rw [List.getD_eq_getElem?_getD, List.getElem?_drop]
    rwa [show off + s + (j - s) = off + j from by omega] at this

/-- A TYPE's VALUES, AS LEAN HAS THEM: the cells read as 'f x', 'q' holds of it, and it is no larger than what was read. -/
structure Rep (t : TypeId) {α : Type} (f : α → List AV) (q : α → Prop) (sz : α → Nat) : Prop where
  size : ∀ x, (f x).length = (Try.prog).cellsOf t
  opn : ∀ {H : Type} (enc : TypeId × Value → H) (w : World) (n : Nat) (cs : List Value) (y : DataW H × List MemPlace), DataW.trod enc Try.prog w 0 (fun _ => true) true n t cs = some y →
    ∃ x : α, q x ∧ sz x ≤ Rows.uptoBulk y.1 ∧ RdC w cs (f x)

theorem cells_tab {t : TypeId} {n : Nat} (h : tab.siz t = n) (h0 : n ≠ 0) : (Try.prog).cellsOf t = n := by
  obtain ⟨i, h1, h2, _⟩ := tabOK.siz t (by rw [h]; exact h0)
  unfold Program.cellsOf
  rw [h1]
  simp [h2, h]

theorem rep_int {t : TypeId} (ht : (Try.prog).underlying t = some (.int .i64)) (hs : (Try.prog).cellsOf t = 1) : Rep t (fun n : Int => [AV.int .i64 n]) (fun n => -9223372036854775808 ≤ n ∧ n ≤ 9223372036854775807) (fun _ => 1) where
  size := fun _ => by rw [hs]; rfl
  opn := fun enc w n cs y h => by
    obtain ⟨m, rfl, rfl, hw⟩ := DataW.trod_int ht h
    refine ⟨m, ?_, by simp [Rows.uptoBulk], rfl, fun j y hj => ?_⟩
    · simpa [Lit.wf, IntKind.min, IntKind.max, IntKind.bits, IntKind.signed] using hw
    · cases j with
      | zero => simp only [List.getElem?_cons_zero, Option.some.injEq] at hj; subst hj; exact .int _ _
      | succ j => simp at hj

theorem rep_bool {t : TypeId} (ht : (Try.prog).underlying t = some .bool) (hs : (Try.prog).cellsOf t = 1) : Rep t (fun b : Bool => [AV.bool b]) (fun _ => True) (fun _ => 1) where
  size := fun _ => by rw [hs]; rfl
  opn := fun enc w n cs y h => by
    obtain ⟨b, rfl, rfl⟩ := DataW.trod_bool ht h
    refine ⟨b, trivial, by simp [Rows.uptoBulk], rfl, fun j y hj => ?_⟩
    cases j with
    | zero => simp only [List.getElem?_cons_zero, Option.some.injEq] at hj; subst hj; exact .bool _
    | succ j => simp at hj

theorem rep_str {t : TypeId} (ht : (Try.prog).underlying t = some .string) (hs : (Try.prog).cellsOf t = 1) : Rep t (fun s : List UInt8 => [AV.str s]) (fun _ => True) (fun s => s.length + 1) where
  size := fun _ => by rw [hs]; rfl
  opn := fun enc w n cs y h => by
    obtain ⟨s, rfl, rfl, _⟩ := DataW.trod_string ht h
    refine ⟨s.data.toList, trivial, by simp [Rows.uptoBulk], rfl, fun j y hj => ?_⟩
    cases j with
    | zero => simp only [List.getElem?_cons_zero, Option.some.injEq] at hj; subst hj; exact .str _ _ rfl
    | succ j => simp at hj

theorem rep_byte {t : TypeId} (ht : (Try.prog).underlying t = some (.int .u8)) (hs : (Try.prog).cellsOf t = 1) : Rep t byteRow (fun _ => True) (fun _ => 1) where
  size := fun _ => by rw [hs]; rfl
  opn := fun enc w n cs y h => by
    obtain ⟨m, rfl, rfl, hw⟩ := DataW.trod_int ht h
    have hb : 0 ≤ m ∧ m ≤ 255 := by simpa [Lit.wf, IntKind.min, IntKind.max, IntKind.bits, IntKind.signed] using hw
    refine ⟨UInt8.ofNat m.toNat, trivial, by simp [Rows.uptoBulk], rfl, fun j y hj => ?_⟩
    cases j with
    | zero =>
      simp only [byteRow, List.getElem?_cons_zero, Option.some.injEq] at hj
      subst hj
      have : ((UInt8.ofNat m.toNat).toNat : Int) = m := by
        rw [UInt8.toNat_ofNat']
        omega
      rw [this]; exact .int _ _
    | succ j => simp [byteRow] at hj

/-- how much a list holds -/
def szL {α : Type} (sz : α → Nat) : List α → Nat
  | [] => 0
  | x :: r => sz x + szL sz r

theorem szL_mem {α : Type} {sz : α → Nat} {x : α} : ∀ {l : List α}, x ∈ l → sz x ≤ szL sz l
  | y :: r, h => by
    rcases List.mem_cons.1 h with rfl | h
    · simp only [szL]; omega
    · have := szL_mem (sz := sz) h; simp only [szL]; omega

theorem szL_len {α : Type} {sz : α → Nat} (h : ∀ x, 1 ≤ sz x) : ∀ (l : List α), l.length ≤ szL sz l
  | [] => Nat.le_refl _
  | x :: r => by have := szL_len h r; have := h x; simp only [szL, List.length_cons]; omega

theorem bulkAll_append {H : Type} : ∀ (a b : List (DataW H)), Rows.uptoBulkAll (a ++ b) = Rows.uptoBulkAll a + Rows.uptoBulkAll b
  | [], b => by simp [Rows.uptoBulkAll]
  | x :: a, b => by simp only [List.cons_append, Rows.uptoBulkAll, bulkAll_append a b]; omega

/-- what each element is, one by one -/
theorem pick_list {α H : Type} {q : α → Prop} {sz : α → Nat} {R : Nat → α → Prop} : ∀ (elems : List (DataW H × List MemPlace)) (i0 : Nat), (∀ (i : Nat) y, elems[i]? = some y → ∃ x, q x ∧ sz x ≤ Rows.uptoBulk y.1 ∧ R (i0 + i) x) →
    ∃ l : List α, l.length = elems.length ∧ (∀ x, x ∈ l → q x) ∧ szL sz l ≤ Rows.uptoBulkAll (elems.map (·.1)) ∧ ∀ (i : Nat) x, l[i]? = some x → R (i0 + i) x
  | [], _, _ => ⟨[], rfl, fun x h => by simp at h, by simp [szL], fun i x h => by simp at h⟩
  | y :: r, i0, h => by
    obtain ⟨x, h1, h2, h3⟩ := h 0 y rfl
    obtain ⟨l, k1, k2, k3, k4⟩ := pick_list (R := R) r (i0 + 1) (fun i z hz => by rw [show i0 + 1 + i = i0 + (i + 1) from by omega]; exact h (i + 1) z (by simpa using hz))
    refine ⟨x :: l, by simp [k1], fun z hz => ?_, ?_, fun i z hz => ?_⟩
    · rcases List.mem_cons.1 hz with rfl | hz
      · exact h1
      · exact k2 z hz
    · simp only [szL, List.map_cons, Rows.uptoBulkAll]; omega
    · cases i with
      | zero => simp only [List.getElem?_cons_zero, Option.some.injEq] at hz; subst hz; exact h3
      | succ i => rw [show i0 + (i + 1) = i0 + 1 + i from by omega]; exact k4 i z (by simpa using hz)

theorem cells_some {w : World} {a : Addr} {n : Nat} {cs : List Value} (h : w.cells? 0 a n = some cs) : cs.length = n ∧ ∀ i, i < n → w.cell? (a.add i) = cs[i]? := by
  unfold World.cells? at h
  rw [if_pos (Nat.zero_le _)] at h
  have hl := mapM_some_length h
  refine ⟨by simpa using hl, fun i hi => ?_⟩
  exact mapM_some_get h i i (by simp [hi])

theorem rep_slice {t e : TypeId} {α : Type} {f : α → List AV} {q : α → Prop} {sz : α → Nat} (ht : (Try.prog).underlying t = some (.slice e)) (hs : (Try.prog).cellsOf t = 1) (he : Rep e f q sz) (hsz : (Try.prog).cellsOf e ≠ 0) :
    Rep t (fun l : List α => [AV.sl (l.map f)]) (fun l => ∀ x, x ∈ l → q x) (fun l => szL sz l + 1) where
  size := fun _ => by rw [hs]; rfl
  opn := fun enc w n cs y h => by
    rcases DataW.trod_slice ht h with ⟨rfl, rfl⟩ | ⟨a, len, cap, elems, rest, m, rfl, rfl, rfl, h1, h2, h3, h4, h5, _⟩
    · refine ⟨[], fun x hx => by simp at hx, by simp [szL, Rows.uptoBulk], rfl, fun j y hj => ?_⟩
      cases j with
      | zero =>
        simp only [List.map_nil, List.getElem?_cons_zero, Option.some.injEq] at hj; subst hj
        exact .sl none 0 0 [] 0 0 0 (fun _ _ => undef) rfl (Nat.le_refl _) (fun row h => by simp at h) (fun h => by omega) (fun i j h => by omega) (fun i row h => by simp at h)
      | succ j => simp at hj
    · have key : ∀ (i : Nat) y, elems[i]? = some y → ∃ x, q x ∧ sz x ≤ Rows.uptoBulk y.1 ∧ (∃ cs, w.cells? 0 (a.add ((0 + i) * (Try.prog).cellsOf e)) ((Try.prog).cellsOf e) = some cs ∧ RdC w cs (f x)) := fun i y hy => by
        have hi : i < len := by rw [← h4]; exact (List.getElem?_eq_some_iff.1 hy).1
        have := h5 i hi
        rw [hy] at this
        obtain ⟨cs, k1, k2⟩ := Option.bind_eq_some_iff.1 this
        obtain ⟨x, q1, q2, q3⟩ := he.opn enc w m cs y k2
        exact ⟨x, q1, q2, cs, by rw [Nat.zero_add]; exact k1, q3⟩
      obtain ⟨l, l1, l2, l3, l4⟩ := pick_list (q := q) (sz := sz) (R := fun i x => ∃ cs, w.cells? 0 (a.add (i * (Try.prog).cellsOf e)) ((Try.prog).cellsOf e) = some cs ∧ RdC w cs (f x)) elems 0 key
      refine ⟨l, l2, by simp only [Rows.uptoBulk]; omega, rfl, fun j y hj => ?_⟩
      cases j with
      | succ j => simp at hj
      | zero =>
        simp only [List.getElem?_cons_zero, Option.some.injEq] at hj
        subst hj
        have hcell : ∀ i j, i < l.length → j < (Try.prog).cellsOf e → ∃ (b : a.spot = none ∨ True) (x : α) (cs : List Value), l[i]? = some x ∧ RdC w cs (f x) ∧ w.cell? (a.add (i * (Try.prog).cellsOf e) |>.add j) = cs[j]? ∧ j < cs.length := fun i j hi hj => by
          obtain ⟨cs, k1, k2⟩ := l4 i l[i] (List.getElem?_eq_getElem hi)
          obtain ⟨c1, c2⟩ := cells_some k1
          rw [Nat.zero_add] at c2
          exact ⟨.inr trivial, l[i], cs, List.getElem?_eq_getElem hi, k2, c2 j hj, by omega⟩
        by_cases h0 : l.length = 0
        · have : l = [] := List.eq_nil_of_length_eq_zero h0
          subst this
          simp only [List.map_nil]
          have e0 : len = 0 := by rw [← h4, ← l1]; rfl
          subst e0
          exact .sl (some a) 0 cap [] 0 0 0 (fun _ _ => undef) rfl (Nat.zero_le _) (fun row h => by simp at h) (fun h => by omega) (fun i j h => by omega) (fun i row h => by simp at h)
        · have hspot : a.spot = none ∧ a.block < w.heap.size := by
            obtain ⟨_, x, cs, _, _, c3, c4⟩ := hcell 0 0 (by omega) (by omega)
            rw [List.getElem?_eq_getElem c4] at c3
            have c3' : w.cell? a = some cs[0] := by simpa [Addr.add] using c3
            unfold World.cell? at c3'
            split at c3'
            · rename_i c e' f' hb
              split at c3'
              · cases c3'
              · rename_i hsp
                refine ⟨?_, ?_⟩
                · cases e : a.spot with
                  | none => rfl
                  | some k => rw [e] at hsp; simp at hsp
                · exact (Array.getElem?_eq_some_iff.1 hb).1
            · cases c3'
          obtain ⟨ab, ao, asp⟩ := a
          simp only at hspot
          obtain ⟨rfl, hlt⟩ := hspot
          have hadd : ∀ (i j : Nat), ((⟨ab, ao, none⟩ : Addr).add (i * (Try.prog).cellsOf e) |>.add j) = ⟨ab, ao + (i * (Try.prog).cellsOf e + j), none⟩ := fun i j => by
            rw [add_plain, add_plain, Nat.add_assoc]
          refine .sl (some ⟨ab, ao, none⟩) len cap (l.map f) ((Try.prog).cellsOf e) ab ao (fun i j => (w.cell? ⟨ab, ao + (i * (Try.prog).cellsOf e + j), none⟩).getD undef) (by simp [l1, h4]) h2 (fun row hr => ?_) (fun _ => ⟨rfl, hlt⟩) (fun i j hi hj => ?_) (fun i row hrow j x hx => ?_)
          · obtain ⟨x, _, rfl⟩ := List.mem_map.1 hr
            exact he.size x
          · obtain ⟨_, x, cs, _, _, c3, c4⟩ := hcell i j (by omega) hj
            rw [hadd, List.getElem?_eq_getElem c4] at c3
            rw [c3]; rfl
          · rw [List.getElem?_map] at hrow
            cases e1 : l[i]? with
            | none => rw [e1] at hrow; cases hrow
            | some x0 =>
              rw [e1] at hrow
              simp only [Option.map_some, Option.some.injEq] at hrow
              subst hrow
              have hi : i < l.length := (List.getElem?_eq_some_iff.1 e1).1
              have hj : j < (Try.prog).cellsOf e := by rw [← he.size x0]; exact (List.getElem?_eq_some_iff.1 hx).1
              obtain ⟨_, x1, cs, c1, c2, c3, c4⟩ := hcell i j hi hj
              rw [e1] at c1
              injection c1 with c1
              subst c1
              have := c2.2 j x hx
              rw [hadd, List.getElem?_eq_getElem c4] at c3
              simp only [c3, Option.getD_some]
              rwa [List.getD_eq_getElem?_getD, List.getElem?_eq_getElem c4] at this

/-! ### The program's types -/

theorem rep_i (t : TypeId) (ht : (Try.prog).underlying t = some (.int .i64)) (hs : tab.siz t = 1) : Rep t (fun n : Int => [AV.int .i64 n]) (fun n => -9223372036854775808 ≤ n ∧ n ≤ 9223372036854775807) (fun _ => 1) := rep_int ht (cells_tab hs (by decide))

theorem rep_bytes : Rep 23 (fun d : List UInt8 => [AV.sl (d.map byteRow)]) (fun l => ∀ x, x ∈ l → True) (fun l => szL (fun _ => 1) l + 1) :=
  rep_slice Try.underlying23 (cells_tab (t := 23) (n := 1) rfl (by decide)) (rep_byte Try.underlying5 (cells_tab (t := 5) (n := 1) rfl (by decide))) (by rw [cells_tab (t := 5) (n := 1) rfl (by decide)]; decide)

def i64 (n : Int) : Prop := -9223372036854775808 ≤ n ∧ n ≤ 9223372036854775807

structure Entry.Ok (e : Entry) : Prop where
  fid : i64 e.fid
structure Node.Ok (n : Node) : Prop where
  fid : i64 n.fid
  entries : ∀ e, e ∈ n.entries → e.Ok
  version : i64 n.version
structure Act.Ok (a : Act) : Prop where
  kind : i64 a.kind
  fid : i64 a.fid
  dir : i64 a.dir
  to : i64 a.to
structure Rec.Ok (r : Rec) : Prop where
  act : r.act.Ok
  version : i64 r.version
  id : i64 r.id
def Entry.sz (e : Entry) : Nat := e.name.length + 1
def Node.sz (n : Node) : Nat := n.data.length + szL Entry.sz n.entries + 1
def Act.sz (a : Act) : Nat := a.name.length + a.toName.length + a.data.length + 1
def Rec.sz (r : Rec) : Nat := r.act.sz + 1
theorem szL_ones {α : Type} : ∀ (l : List α), szL (fun _ => 1) l = l.length
  | [] => rfl
  | x :: r => by simp only [szL, szL_ones r, List.length_cons]; omega

theorem rep_entry : Rep 115 entryRow Entry.Ok Entry.sz where
  size := fun x => by rw [cells_tab (t := 115) (n := 2) rfl (by decide)]; rfl
  opn := fun enc w n cs y h => by
    obtain ⟨xs, m, rfl, rfl, hl, hxl, hf⟩ := DataW.trod_struct Try.underlying115 h
    obtain ⟨y0, y1, rfl⟩ : ∃ y0 y1, xs = [y0, y1] := by
      have hxl : xs.length = 2 := hxl
      match xs, hxl with
      | [a0, a1], _ => exact ⟨a0, a1, rfl⟩
    have e0 : DataW.trod enc Try.prog w 0 (fun _ => true) true m 9 ((cs.drop 0).take ((Try.prog).cellsOf 9)) = some y0 := hf 0 _ rfl
    obtain ⟨x0, q0, s0, r0⟩ := (rep_str Try.underlying9 (cells_tab (t := 9) (n := 1) rfl (by decide))).opn enc w m _ _ e0
    rw [cells_tab (t := 9) (n := 1) rfl (by decide)] at r0
    have e1 : DataW.trod enc Try.prog w 0 (fun _ => true) true m 3 ((cs.drop 1).take ((Try.prog).cellsOf 3)) = some y1 := hf 1 _ rfl
    obtain ⟨x1, q1, s1, r1⟩ := (rep_i 3 Try.underlying3 rfl).opn enc w m _ _ e1
    rw [cells_tab (t := 3) (n := 1) rfl (by decide)] at r1
    refine ⟨⟨x0, x1⟩, ⟨q1⟩, ?_, ?_⟩
    · simp only [Entry.sz, Rows.uptoBulk, Rows.uptoBulkAll, List.map_cons, List.map_nil]; omega
    · have hl : cs.length = 2 := by rw [hl, cells_tab (t := 115) (n := 2) rfl (by decide)]
      have := rdc_cons 0 1 r0 rfl (rdc_cons 1 1 r1 rfl (rdc_nil hl))
      rw [List.drop_zero] at this
      exact this

theorem rep_entries : Rep 44 (fun l : List Entry => [AV.sl (l.map entryRow)]) (fun l => ∀ x, x ∈ l → x.Ok) (fun l => szL Entry.sz l + 1) :=
  rep_slice Try.underlying44 (cells_tab (t := 44) (n := 1) rfl (by decide)) rep_entry (by rw [cells_tab (t := 115) (n := 2) rfl (by decide)]; decide)

theorem rep_node : Rep 46 nodeRow Node.Ok Node.sz where
  size := fun x => by rw [cells_tab (t := 46) (n := 5) rfl (by decide)]; rfl
  opn := fun enc w n cs y h => by
    obtain ⟨xs, m, rfl, rfl, hl, hxl, hf⟩ := DataW.trod_struct Try.underlying46 h
    obtain ⟨y0, y1, y2, y3, y4, rfl⟩ : ∃ y0 y1 y2 y3 y4, xs = [y0, y1, y2, y3, y4] := by
      have hxl : xs.length = 5 := hxl
      match xs, hxl with
      | [a0, a1, a2, a3, a4], _ => exact ⟨a0, a1, a2, a3, a4, rfl⟩
    have e0 : DataW.trod enc Try.prog w 0 (fun _ => true) true m 3 ((cs.drop 0).take ((Try.prog).cellsOf 3)) = some y0 := hf 0 _ rfl
    obtain ⟨x0, q0, s0, r0⟩ := (rep_i 3 Try.underlying3 rfl).opn enc w m _ _ e0
    rw [cells_tab (t := 3) (n := 1) rfl (by decide)] at r0
    have e1 : DataW.trod enc Try.prog w 0 (fun _ => true) true m 4 ((cs.drop 1).take ((Try.prog).cellsOf 4)) = some y1 := hf 1 _ rfl
    obtain ⟨x1, q1, s1, r1⟩ := (rep_bool Try.underlying4 (cells_tab (t := 4) (n := 1) rfl (by decide))).opn enc w m _ _ e1
    rw [cells_tab (t := 4) (n := 1) rfl (by decide)] at r1
    have e2 : DataW.trod enc Try.prog w 0 (fun _ => true) true m 23 ((cs.drop 2).take ((Try.prog).cellsOf 23)) = some y2 := hf 2 _ rfl
    obtain ⟨x2, q2, s2, r2⟩ := (rep_bytes).opn enc w m _ _ e2
    rw [cells_tab (t := 23) (n := 1) rfl (by decide)] at r2
    have e3 : DataW.trod enc Try.prog w 0 (fun _ => true) true m 44 ((cs.drop 3).take ((Try.prog).cellsOf 44)) = some y3 := hf 3 _ rfl
    obtain ⟨x3, q3, s3, r3⟩ := (rep_entries).opn enc w m _ _ e3
    rw [cells_tab (t := 44) (n := 1) rfl (by decide)] at r3
    have e4 : DataW.trod enc Try.prog w 0 (fun _ => true) true m 3 ((cs.drop 4).take ((Try.prog).cellsOf 3)) = some y4 := hf 4 _ rfl
    obtain ⟨x4, q4, s4, r4⟩ := (rep_i 3 Try.underlying3 rfl).opn enc w m _ _ e4
    rw [cells_tab (t := 3) (n := 1) rfl (by decide)] at r4
    refine ⟨⟨x0, x1, x2, x3, x4⟩, ⟨q0, q3, q4⟩, ?_, ?_⟩
    · simp only [szL_ones] at s2
      simp only [Node.sz, Rows.uptoBulk, Rows.uptoBulkAll, List.map_cons, List.map_nil]; omega
    · have hl : cs.length = 5 := by rw [hl, cells_tab (t := 46) (n := 5) rfl (by decide)]
      have := rdc_cons 0 1 r0 rfl (rdc_cons 1 1 r1 rfl (rdc_cons 2 1 r2 rfl (rdc_cons 3 1 r3 rfl (rdc_cons 4 1 r4 rfl (rdc_nil hl)))))
      rw [List.drop_zero] at this
      exact this

theorem rep_nodes : Rep 39 (fun l : List Node => [AV.sl (l.map nodeRow)]) (fun l => ∀ x, x ∈ l → x.Ok) (fun l => szL Node.sz l + 1) :=
  rep_slice Try.underlying39 (cells_tab (t := 39) (n := 1) rfl (by decide)) rep_node (by rw [cells_tab (t := 46) (n := 5) rfl (by decide)]; decide)

theorem rep_act : Rep 25 actRow Act.Ok Act.sz where
  size := fun x => by rw [cells_tab (t := 25) (n := 7) rfl (by decide)]; rfl
  opn := fun enc w n cs y h => by
    obtain ⟨xs, m, rfl, rfl, hl, hxl, hf⟩ := DataW.trod_struct Try.underlying25 h
    obtain ⟨y0, y1, y2, y3, y4, y5, y6, rfl⟩ : ∃ y0 y1 y2 y3 y4 y5 y6, xs = [y0, y1, y2, y3, y4, y5, y6] := by
      have hxl : xs.length = 7 := hxl
      match xs, hxl with
      | [a0, a1, a2, a3, a4, a5, a6], _ => exact ⟨a0, a1, a2, a3, a4, a5, a6, rfl⟩
    have e0 : DataW.trod enc Try.prog w 0 (fun _ => true) true m 3 ((cs.drop 0).take ((Try.prog).cellsOf 3)) = some y0 := hf 0 _ rfl
    obtain ⟨x0, q0, s0, r0⟩ := (rep_i 3 Try.underlying3 rfl).opn enc w m _ _ e0
    rw [cells_tab (t := 3) (n := 1) rfl (by decide)] at r0
    have e1 : DataW.trod enc Try.prog w 0 (fun _ => true) true m 3 ((cs.drop 1).take ((Try.prog).cellsOf 3)) = some y1 := hf 1 _ rfl
    obtain ⟨x1, q1, s1, r1⟩ := (rep_i 3 Try.underlying3 rfl).opn enc w m _ _ e1
    rw [cells_tab (t := 3) (n := 1) rfl (by decide)] at r1
    have e2 : DataW.trod enc Try.prog w 0 (fun _ => true) true m 3 ((cs.drop 2).take ((Try.prog).cellsOf 3)) = some y2 := hf 2 _ rfl
    obtain ⟨x2, q2, s2, r2⟩ := (rep_i 3 Try.underlying3 rfl).opn enc w m _ _ e2
    rw [cells_tab (t := 3) (n := 1) rfl (by decide)] at r2
    have e3 : DataW.trod enc Try.prog w 0 (fun _ => true) true m 9 ((cs.drop 3).take ((Try.prog).cellsOf 9)) = some y3 := hf 3 _ rfl
    obtain ⟨x3, q3, s3, r3⟩ := (rep_str Try.underlying9 (cells_tab (t := 9) (n := 1) rfl (by decide))).opn enc w m _ _ e3
    rw [cells_tab (t := 9) (n := 1) rfl (by decide)] at r3
    have e4 : DataW.trod enc Try.prog w 0 (fun _ => true) true m 3 ((cs.drop 4).take ((Try.prog).cellsOf 3)) = some y4 := hf 4 _ rfl
    obtain ⟨x4, q4, s4, r4⟩ := (rep_i 3 Try.underlying3 rfl).opn enc w m _ _ e4
    rw [cells_tab (t := 3) (n := 1) rfl (by decide)] at r4
    have e5 : DataW.trod enc Try.prog w 0 (fun _ => true) true m 9 ((cs.drop 5).take ((Try.prog).cellsOf 9)) = some y5 := hf 5 _ rfl
    obtain ⟨x5, q5, s5, r5⟩ := (rep_str Try.underlying9 (cells_tab (t := 9) (n := 1) rfl (by decide))).opn enc w m _ _ e5
    rw [cells_tab (t := 9) (n := 1) rfl (by decide)] at r5
    have e6 : DataW.trod enc Try.prog w 0 (fun _ => true) true m 23 ((cs.drop 6).take ((Try.prog).cellsOf 23)) = some y6 := hf 6 _ rfl
    obtain ⟨x6, q6, s6, r6⟩ := (rep_bytes).opn enc w m _ _ e6
    rw [cells_tab (t := 23) (n := 1) rfl (by decide)] at r6
    refine ⟨⟨x0, x1, x2, x3, x4, x5, x6⟩, ⟨q0, q1, q2, q4⟩, ?_, ?_⟩
    · simp only [szL_ones] at s6
      simp only [Act.sz, Rows.uptoBulk, Rows.uptoBulkAll, List.map_cons, List.map_nil]; omega
    · have hl : cs.length = 7 := by rw [hl, cells_tab (t := 25) (n := 7) rfl (by decide)]
      have := rdc_cons 0 1 r0 rfl (rdc_cons 1 1 r1 rfl (rdc_cons 2 1 r2 rfl (rdc_cons 3 1 r3 rfl (rdc_cons 4 1 r4 rfl (rdc_cons 5 1 r5 rfl (rdc_cons 6 1 r6 rfl (rdc_nil hl)))))))
      rw [List.drop_zero] at this
      exact this

theorem rep_acts : Rep 33 (fun l : List Act => [AV.sl (l.map actRow)]) (fun l => ∀ x, x ∈ l → x.Ok) (fun l => szL Act.sz l + 1) :=
  rep_slice Try.underlying33 (cells_tab (t := 33) (n := 1) rfl (by decide)) rep_act (by rw [cells_tab (t := 25) (n := 7) rfl (by decide)]; decide)

theorem rep_rec : Rep 27 recRow Rec.Ok Rec.sz where
  size := fun x => by rw [cells_tab (t := 27) (n := 9) rfl (by decide)]; rfl
  opn := fun enc w n cs y h => by
    obtain ⟨xs, m, rfl, rfl, hl, hxl, hf⟩ := DataW.trod_struct Try.underlying27 h
    obtain ⟨y0, y1, y2, rfl⟩ : ∃ y0 y1 y2, xs = [y0, y1, y2] := by
      have hxl : xs.length = 3 := hxl
      match xs, hxl with
      | [a0, a1, a2], _ => exact ⟨a0, a1, a2, rfl⟩
    have e0 : DataW.trod enc Try.prog w 0 (fun _ => true) true m 25 ((cs.drop 0).take ((Try.prog).cellsOf 25)) = some y0 := hf 0 _ rfl
    obtain ⟨x0, q0, s0, r0⟩ := (rep_act).opn enc w m _ _ e0
    rw [cells_tab (t := 25) (n := 7) rfl (by decide)] at r0
    have e1 : DataW.trod enc Try.prog w 0 (fun _ => true) true m 3 ((cs.drop 7).take ((Try.prog).cellsOf 3)) = some y1 := hf 1 _ rfl
    obtain ⟨x1, q1, s1, r1⟩ := (rep_i 3 Try.underlying3 rfl).opn enc w m _ _ e1
    rw [cells_tab (t := 3) (n := 1) rfl (by decide)] at r1
    have e2 : DataW.trod enc Try.prog w 0 (fun _ => true) true m 3 ((cs.drop 8).take ((Try.prog).cellsOf 3)) = some y2 := hf 2 _ rfl
    obtain ⟨x2, q2, s2, r2⟩ := (rep_i 3 Try.underlying3 rfl).opn enc w m _ _ e2
    rw [cells_tab (t := 3) (n := 1) rfl (by decide)] at r2
    refine ⟨⟨x0, x1, x2⟩, ⟨q0, q1, q2⟩, ?_, ?_⟩
    · simp only [Rec.sz, Rows.uptoBulk, Rows.uptoBulkAll, List.map_cons, List.map_nil]; omega
    · have hl : cs.length = 9 := by rw [hl, cells_tab (t := 27) (n := 9) rfl (by decide)]
      have := rdc_cons 0 7 r0 rfl (rdc_cons 7 1 r1 rfl (rdc_cons 8 1 r2 rfl (rdc_nil hl)))
      rw [List.drop_zero] at this
      exact this

theorem rep_recs : Rep 22 (fun l : List Rec => [AV.sl (l.map recRow)]) (fun l => ∀ x, x ∈ l → x.Ok) (fun l => szL Rec.sz l + 1) :=
  rep_slice Try.underlying22 (cells_tab (t := 22) (n := 1) rfl (by decide)) rep_rec (by rw [cells_tab (t := 27) (n := 9) rfl (by decide)]; decide)

/-! ### Arguments -/

/-- an argument, opened -/
theorem open_arg {t : TypeId} {α : Type} {f : α → List AV} {q : α → Prop} {sz : α → Nat} (h : Rep t f q sz) {H : Type} {enc : TypeId × Value → H} {w : World} {v : Value} {d : DataW H} {ps : List MemPlace}
    (hd : DataW.Trod enc Try.prog w 0 (fun _ => true) true t v d ps) : ∃ x, q x ∧ sz x ≤ Rows.uptoBulk d ∧ RdC w v.cells.toList (f x) := by
  obtain ⟨n, hn⟩ := hd
  exact h.opn enc w n _ _ hn

/-- of one cell -/
theorem rdc_one {w : World} {v : Value} {x : AV} (h : RdC w v.cells.toList [x]) (hv : ∀ cs, v ≠ .agg cs) : RdP (fun b => b < w.heap.size) w v x := by
  have := h.2 0 x rfl
  cases v with
  | agg cs => exact absurd rfl (hv cs)
  | _ => exact this

theorem rdc_agg {w : World} {cs : Array Value} {xs : List AV} (h : RdC w (Value.agg cs).cells.toList xs) : RdP (fun b => b < w.heap.size) w (.agg cs) (.agg xs) := by
  refine .agg cs xs (by have h1 : cs.toList.length = xs.length := h.1; simpa using h1) fun j y hj => ?_
  have := h.2 j y hj
  rwa [List.getD_eq_getElem?_getD, Array.getElem?_toList, ← Array.getD_eq_getD_getElem?] at this

/-! ### What is not large -/
theorem Act.sz_data (a : Act) : a.data.length ≤ a.sz := by unfold Act.sz; omega
theorem nodeSmall_of {n : Node} (h : n.sz ≤ 1048576) : n.Small := by
  have h1 := szL_len (sz := Entry.sz) (fun e => by unfold Entry.sz; omega) n.entries
  unfold Node.sz at h
  exact ⟨by omega, by omega⟩
theorem small_of {l : List Node} (h : szL Node.sz l ≤ 1048576) : Small l :=
  ⟨by have := szL_len (sz := Node.sz) (fun r => by unfold Node.sz; omega) l; omega, fun r hr => nodeSmall_of (by have := szL_mem (sz := Node.sz) hr; omega)⟩
theorem nodes_len {l : List Node} (h : szL Node.sz l ≤ 1048576) : l.length ≤ 99999999 := by
  have := szL_len (sz := Node.sz) (fun r => by unfold Node.sz; omega) l; omega
theorem entries_len {n : Node} (h : n.sz ≤ 1048576) : n.entries.length ≤ 99999999 := by
  have h1 := szL_len (sz := Entry.sz) (fun e => by unfold Entry.sz; omega) n.entries
  unfold Node.sz at h
  omega
end La

namespace La
open Go Go.Eng Go.Proofs Go.Proofs.Ytldpfleilffanaa
theorem actSmall_of {a : Act} (h : a.sz ≤ 1048576) : a.Small := by unfold Act.Small; have := a.sz_data; omega
theorem recSmall_of {r : Rec} (h : r.sz ≤ 1048576) : r.act.Small := actSmall_of (by unfold Rec.sz at h; omega)
theorem smallL_of {l : List Rec} (h : szL Rec.sz l ≤ 1048576) : SmallL l :=
  ⟨by have := szL_len (sz := Rec.sz) (fun r => by unfold Rec.sz; omega) l; omega, fun r hr => recSmall_of (by have := szL_mem (sz := Rec.sz) hr; omega)⟩
end La

namespace La
open Go Go.Eng Go.Proofs Go.Proofs.Ytldpfleilffanaa
theorem actFit_of {a : Act} (h : a.sz ≤ 1048576) : ActFit a := ⟨by unfold Act.sz at h; omega, by unfold Act.sz at h; omega, by unfold Act.sz at h; omega⟩
theorem actsFit_of {l : List Act} (h : szL Act.sz l ≤ 1048576) : ∀ a, a ∈ l → ActFit a := fun a ha => actFit_of (by have := szL_mem (sz := Act.sz) ha; omega)
theorem acts_len {l : List Act} (h : szL Act.sz l ≤ 1048576) : l.length ≤ 2000000 := by
  have := szL_len (sz := Act.sz) (fun r => by unfold Act.sz; omega) l; omega
theorem recsFit_of {l : List Rec} (h : szL Rec.sz l ≤ 1048576) : ∀ r, r ∈ l → ActFit r.act := fun r hr => actFit_of (by
  have := szL_mem (sz := Rec.sz) hr
  have h2 : r.sz = r.act.sz + 1 := rfl
  omega)
theorem recs_len {l : List Rec} (h : szL Rec.sz l ≤ 1048576) : l.length ≤ 2000000 := by
  have := szL_len (sz := Rec.sz) (fun r => by unfold Rec.sz; omega) l; omega
end La

namespace Go.Proofs.Ytldpfleilffanaa.serverWhole
set_option maxRecDepth 100000
set_option linter.unusedSimpArgs false
open Go Go.ChangeShapes Go.WideShapes Go.ChangeAt Go.RowKit Go.Eng

theorem contract (H : Type) (enc : TypeId × Value → H) (W : World) (base : Nat) (args : Array Value) (ds gs : List (DataW H)) (before : List MemPlace)
    (hval : ∀ (j : Nat) t v, Try.f15.params[j]? = some t → args[j]? = some v → Value.okWide Try.prog W .any base t v)
    (hW : DataW.Whole enc Try.prog Try.f15.params.toList Rows.serverWholeSpec.vars false W args.toList ds gs before) (hk : Rows.uptoSmall H (ds ++ gs) = true) :
    Calls Try.prog 15 args W fun e W' => ∃ v, e = .returned v ∧ Rows.serverWholeSpec.post enc Try.prog Try.f15 false true false false W args v W' := by
  have hW' := hW
  obtain ⟨p, q, hA0, hV, rfl, hfz, hnd⟩ := hW
  have hA : DataW.TrodAll enc Try.prog W 0 (fun _ => true) true Try.f15.params.toList args.toList ds p := hA0
  rw [Try.params15] at hA hval
  obtain ⟨v0, vs0, d0, ds0, p0, q0, hargs, rfl, rfl, h0, r0⟩ := trodAll_cons hA
  obtain ⟨v1, vs1, d1, ds1, p1, q1, rfl, rfl, rfl, h1, r1⟩ := trodAll_cons r0
  obtain ⟨rfl, rfl, rfl⟩ := trodAll_nil r1
  obtain rfl : args = #[v0, v1] := by cases args; simp_all
  obtain ⟨rfl, rfl⟩ := trodVars_none hV
  have hk2 : Rows.uptoBulkAll [d0, d1] ≤ 1048576 := of_decide_eq_true hk
  simp only [Rows.uptoBulkAll] at hk2
  obtain ⟨x0, o0, s0, c0⟩ := La.open_arg (La.rep_acts) h0
  obtain ⟨a0, len0, cap0, rfl⟩ := okWide_slice Try.underlying33 (hval 0 33 v0 rfl rfl)
  have R0 := La.rdc_one c0 (fun _ h => nomatch h)
  obtain ⟨x1, o1, s1, c1⟩ := La.open_arg (La.rep_recs) h1
  obtain ⟨a1, len1, cap1, rfl⟩ := okWide_slice Try.underlying22 (hval 1 22 v1 rfl rfl)
  have R1 := La.rdc_one c1 (fun _ h => nomatch h)
  refine (calls_of_fn (La.swhole_ok x0 x1 (La.acts_len (by omega)) (La.actsFit_of (by omega)) (La.smallL_of (by omega)) (La.recs_len (by omega)) (La.recsFit_of (by omega))) (w := W) (vs := [.slice a0 len0 cap0, .slice a1 len1 cap1]) rfl (S := fun b => b < W.heap.size) (fun j x h => ?_) (fun _ h => h)).mono fun e W' ⟨v, μ, S', he, hv, hf⟩ => ?_
  · rcases j with _ | _ | j
    · simp only [List.getElem?_cons_zero, List.getElem?_cons_succ, Option.some.injEq] at h; subst h; exact R0
    · simp only [List.getElem?_cons_zero, List.getElem?_cons_succ, Option.some.injEq] at h; subst h; exact R1
    · simp at h
  subst he
  obtain rfl := hv.inv_bool
  exact ⟨_, rfl, post_true La.laid La.rowed La.full (by rw [Try.params15]; decide) rfl Try.underlying4 rfl hW' hf rfl rfl rfl⟩

theorem lifted (os : Os) (started : os.Started) (H : Type) (enc : TypeId × Value → H) (F : Stop.Interp) :
    ReturnsInHanded {} Try.checked os 15 .any ((Rows.OpenSpec.upto Rows.serverWholeSpec).pre6 enc Try.prog Try.f15 Rows.serverWholeUptoRow.domain false) (((Rows.OpenSpec.upto Rows.serverWholeSpec).at F).post enc Try.prog Try.f15 false true false false) := by
  refine returnsInHanded_of_cond (C := Try.checked) (s := Rows.OpenSpec.upto Rows.serverWholeSpec) (k := Rows.uptoSmall) rfl La.own started (by kernel_rfl) Try.func15
    (OpenSpec.witness (enc := enc) (C := Try.checked) (s := Rows.OpenSpec.upto Rows.serverWholeSpec) (k := Rows.uptoSmall) rfl false ⟨#[], #[.slice none 0 0, .slice none 0 0], []⟩ 8 (by kernel_rfl) (by kernel_rfl) (by kernel_rfl)
      (x := ([.nil, .nil], [], [])) (by kernel_rfl) rfl (by kernel_rfl)) ?_
  intro W base args ds gs before hval hW _ hk _
  exact contract H enc W base args ds gs before hval hW hk

theorem over : Rows.serverWholeUptoRow.holds Try.pinned (Rows.OpenSpec.upto Rows.serverWholeSpec) :=
  OpenClaim.holds_of_cond 15 Try.f15 rfl rfl rfl rfl rfl rfl rfl ⟨rfl, rfl, rfl, rfl, rfl⟩ rfl rfl rfl rfl rfl (by kernel_rfl) Try.func15 (by kernel_rfl)
    (of_decide_eq_true (by kernel_rfl)) (by unfold Func.isWrapper; first | (rw [if_pos (by decide +kernel)]; kernel_rfl) | (rw [if_neg (by decide +kernel)]; exact ⟨rfl, rfl⟩))
    (fun os started H enc _ F => lifted os started H enc F)

theorem proved : Rows.ServerWholeUptoSaid :=
  over
end Go.Proofs.Ytldpfleilffanaa.serverWhole
