/- Texts of this claim, part 4: SameN, PutsS, Make, Rise, Walk, Within, Apply, Rename, PBack, PRank, PGood, TSame, Ali2, PLog, Logs, Srv, Srv2, Cach, Cach2, Unl, PJud. No condition. -/
import Derived.Test.YtldpfleilffanaaXCT3
namespace La
open Go Go.Eng Go.Proofs
set_option maxRecDepth 10000
set_option linter.unusedSimpArgs false
set_option linter.unusedVariables false

theorem bytesEqual_ok (a b : List UInt8) : FnOK Try.prog 133 [.sl (a.map byteRow), .sl (b.map byteRow)] [] (fun r _ => r = .bool (a == b)) := by
  refine fn_of_cwW tabOK (Go.Proofs.Try.func133) rfl (fun C => ?_)
  simp only [Go.Proofs.Try.ntmps133, Go.Proofs.Try.results133, go_sem]
  refine cw_go tabOK 99 (by simp only [go_sem]; try exact rfl) ?_ ?_
  · simp
  refine cw_ret ⟨_, _, (by simp only [go_sem]; try exact rfl), by simp [go_sem], _, .inr (.inl rfl), ?_⟩
  simp

/-- two lists that are alike as far as one looked -/
theorem take_same {α : Type} [Inhabited α] [DecidableEq α] {a b : List α} {i : Nat} (h : a.take i = b.take i) (ha : i < a.length) (hb : i < b.length) (e : a.getD i default = b.getD i default) : a.take (i + 1) = b.take (i + 1) := by
  rw [take_succ_getD ha, take_succ_getD hb, h, e]
theorem take_diff {α : Type} [Inhabited α] {a b : List α} {i : Nat} (e : ¬ a.getD i default = b.getD i default) : a ≠ b := by rintro rfl; exact e rfl

set_option maxHeartbeats 1000000 in
theorem entriesEqual_ok (a b : List Entry) (ha : a.length ≤ 100000000) (hb : b.length ≤ 100000000) : FnOK Try.prog 134 [.sl (a.map entryRow), .sl (b.map entryRow)] [] (fun r _ => r = .bool (decide (a = b))) := by
  refine fn_of_cwW tabOK (Go.Proofs.Try.func134) rfl (fun C => ?_)
  simp only [Go.Proofs.Try.ntmps134, Go.Proofs.Try.results134, go_sem]
  refine cw_go tabOK 99 (by simp only [go_sem]; try exact rfl) (by simp [go_sem]) ?_
  refine cw_cond (by simp only [go_sem]; try exact rfl) trivial (fun h => ?_) (fun h => ?_)
  · have hne : a ≠ b := by rintro rfl; simp at h
    refine cw_go tabOK 99 (by simp only [go_sem]; try exact rfl) (by simp [go_sem]) ?_
    refine cw_ret ⟨_, _, (by simp only [go_sem]; try exact rfl), by simp [go_sem], _, .inr (.inl rfl), ?_⟩
    simp [hne]
  have hl : a.length = b.length := by simp at h; omega
  refine cw_go tabOK 99 (by simp only [go_sem]; try exact rfl) (by simp [go_sem]) ?_
  refine cw_loopS (fun i : Nat => i ≤ a.length ∧ a.take i = b.take i) (fun i => a.length - i) (fun i => [(5, .any), (13, .int .i64 i), (14, .any), (15, .any), (16, .any), (17, .any), (18, .any), (19, .any), (20, .any), (21, .any), (22, .any), (23, .any), (24, .any), (25, .any)]) (fun _ => []) 0 ⟨by omega, by simp⟩ ?_ fun i hi => ?_
  · simp only [go_sem]
    exact le_sub (by simp [go_sem]) (by simp [go_sem]) (by simp [go_sem])
  obtain ⟨hi, hs⟩ := hi
  simp only [go_sem]
  refine cw_go tabOK 99 (by simp only [go_sem]; try exact rfl) (by simp [go_sem]) ?_
  refine cw_cond (by simp only [go_sem]; try exact rfl) trivial (fun h => ?_) (fun h => ?_)
  · have hlt : i < a.length := by simp at h; omega
    have hltb : i < b.length := by omega
    have hga : (a.map entryRow).getD i [] = entryRow (a.getD i default) := Fam.getD hlt
    have hgb : (b.map entryRow).getD i [] = entryRow (b.getD i default) := Fam.getD hltb
    have htk := take_same hs hlt hltb
    have htd := take_diff (a := a) (b := b) (i := i)
    generalize a.getD i default = x at hga htk htd
    generalize b.getD i default = y at hgb htk htd
    refine cw_go tabOK 99 (by simp only [go_sem]; try exact rfl) (by simp [go_sem]) ?_
    refine cw_draw mixed ?_
    refine seg_start rfl ?_
    refine seg_runN tabOK 8 (by simp only [go_sem]; exact rfl) (by simp only [go_sem]; exact rfl) (by simp only [go_sem, hga, hgb, entryRow]; try exact rfl) ?_ (by simp only [go_sem]; exact rfl) ?_
    · simp [hga, hgb, entryRow, hlt, hltb]
    refine seg_end (by kernel_rfl) (by simp only [go_sem]; exact rfl) ?_
    refine draw_trip rfl (by kernel_rfl) rfl (trip_eqS tabOK rfl (tys := [9, 3]) (by kernel_rfl) (by simp only [go_sem]; try exact rfl) (by simp only [go_sem]; try exact rfl) (by simp only [go_sem]; exact rfl) (by first | exact .inl ⟨rfl, rfl⟩ | exact .inr ⟨rfl, rfl⟩)) rfl ?_
    refine draw_close (by kernel_rfl) ?_
    have hxy : (x.name == y.name && x.fid == y.fid) = decide (x = y) := by
      obtain ⟨n1, f1⟩ := x
      obtain ⟨n2, f2⟩ := y
      by_cases h1 : n1 = n2 <;> by_cases h2 : f1 = f2 <;> simp [h1, h2]
    simp only [go_sem, Bool.and_true, hxy]
    refine cw_go tabOK 99 (by simp only [go_sem]; try exact rfl) (by simp [go_sem]) ?_
    refine cw_cond (by simp only [go_sem]; try exact rfl) trivial (fun h => ?_) (fun h => ?_)
    · have hne : x ≠ y := by simpa using h
      have := htd hne
      refine cw_go tabOK 99 (by simp only [go_sem]; try exact rfl) (by simp [go_sem]) ?_
      refine cw_ret ⟨_, _, (by simp only [go_sem]; try exact rfl), by simp [go_sem], _, .inr (.inl rfl), ?_⟩
      simp [this]
    · have heq : x = y := by simpa using h
      have hw : IntKind.i64.wrap ((i : Int) + 1) = ((i + 1 : Nat) : Int) := by rw [Eng.wrap_small (by omega) (by omega)]; rfl
      refine cw_go tabOK 99 (by simp only [go_sem, hw]; try exact rfl) (by simp [go_sem, hw]) ?_
      refine cw_back ⟨i + 1, ⟨by omega, htk heq⟩, by omega, le_sub ?_ ?_ ?_⟩
      · simp [go_sem]; exact hw
      · simp [go_sem]
      · simp [go_sem]
  · have e : i = a.length := by simp at h; omega
    have hab : a = b := by
      rw [e, List.take_length, hl, List.take_length] at hs; exact hs
    refine cw_go tabOK 99 (by simp only [go_sem]; try exact rfl) (by simp [go_sem]) ?_
    refine cw_ret ⟨_, _, (by simp only [go_sem]; try exact rfl), by simp [go_sem], _, .inr (.inl rfl), ?_⟩
    simp [hab]

def sameN (v : Bool) (a b : Node) : Bool := a.fid == b.fid && a.dir == b.dir && a.data == b.data && decide (a.entries = b.entries) && (!v || a.version == b.version)

set_option maxHeartbeats 1000000 in
theorem sameNode_ok (a b : Node) (v : Bool) (ha : a.Small) (hb : b.Small) : FnOK Try.prog 34 [.agg (nodeRow a), .agg (nodeRow b), .bool v] [] (fun r _ => r = .bool (sameN v a b)) := by
  have hla := ha.entries
  have hlb := hb.entries
  unfold nodeRow
  refine fn_of_cwW tabOK (Go.Proofs.Try.func34) rfl (fun C => ?_)
  simp only [Go.Proofs.Try.ntmps34, Go.Proofs.Try.results34, go_sem]
  refine cw_goR 99 (by simp only [go_sem]; try exact rfl) ?_
  refine cw_runN tabOK 3 (by simp only [go_sem]; exact rfl) (by simp only [go_sem]; exact rfl) (by simp only [go_sem]; try exact rfl) (by simp [go_sem]) ?_
  refine cw_goR 99 (by simp only [go_sem]; try exact rfl) ?_
  refine cw_freeze 3 rfl (rfl) ?_
  refine cw_freeze 4 rfl (rfl) ?_
  simp only [go_sem]
  refine cw_runN tabOK 5 (by simp only [go_sem]; exact rfl) (by simp only [go_sem]; exact rfl) (by simp only [go_sem]; try exact rfl) (by simp [go_sem]) ?_
  refine cw_name 12 (by simp only [go_sem]; exact rfl) (fun c12 h12 => ?_)
  simp only [go_sem]
  refine cw_runN tabOK 7 (by simp only [go_sem]; exact rfl) (by simp only [go_sem]; exact rfl) (by simp only [go_sem]; try exact rfl) (by simp [go_sem]) ?_
  refine cw_name 19 (by simp only [go_sem]; exact rfl) (fun c19 h19 => ?_)
  simp only [go_sem]
  refine cw_runN tabOK 9 (by simp only [go_sem]; exact rfl) (by simp only [go_sem]; exact rfl) (by simp only [go_sem]; try exact rfl) (by simp [go_sem]) ?_
  refine cw_name 28 (by simp only [go_sem]; exact rfl) (fun c28 h28 => ?_)
  simp only [go_sem]
  refine cw_runN tabOK 9 (by simp only [go_sem]; exact rfl) (by simp only [go_sem]; exact rfl) (by simp only [go_sem]; try exact rfl) (by simp [go_sem]) ?_
  refine cw_name 37 (by simp only [go_sem]; exact rfl) (fun c37 h37 => ?_)
  simp only [go_sem]
  refine cw_runN tabOK 10 (by simp only [go_sem]; exact rfl) (by simp only [go_sem]; exact rfl) (by simp only [go_sem]; try exact rfl) ?_ ?_
  · cases c37 <;> cases v <;> simp
  refine cw_name 47 (by simp only [go_sem]; exact rfl) (fun c47 h47 => ?_)
  simp only [go_sem]
  have hdiff : c47 = !(a.fid == b.fid && a.dir == b.dir && a.data == b.data && (a.entries.length == b.entries.length) && (!v || a.version == b.version)) := by
    subst h47 h37 h28 h19 h12
    have e : ((a.entries.length : Int) != (b.entries.length : Int)) = !(a.entries.length == b.entries.length) := by
      rw [Bool.eq_iff_iff]; simp; omega
    rw [e]
    simp only [bne]
    cases (a.fid == b.fid) <;> cases (a.dir == b.dir) <;> cases (a.data == b.data) <;> cases (a.entries.length == b.entries.length) <;> cases v <;> cases (a.version == b.version) <;> rfl
  refine cw_cond (by simp only [go_sem]; try exact rfl) trivial (fun h => ?_) (fun h => ?_)
  · rw [hdiff] at h
    refine cw_go tabOK 99 (by simp only [go_sem]; try exact rfl) (by simp [go_sem]) ?_
    refine cw_ret ⟨_, _, (by simp only [go_sem]; try exact rfl), by simp [go_sem], _, .inr (.inl rfl), ?_⟩
    have : sameN v a b = false := by
      unfold sameN
      have hn : decide (a.entries = b.entries) = true → (a.entries.length == b.entries.length) = true := fun h => by
        rw [of_decide_eq_true h]; simp
      revert h hn
      cases (a.fid == b.fid) <;> cases (a.dir == b.dir) <;> cases (a.data == b.data) <;> cases (a.entries.length == b.entries.length) <;> cases v <;> cases (a.version == b.version) <;> cases decide (a.entries = b.entries) <;> simp
    rw [this]
  rw [hdiff] at h
  have hl : a.entries.length = b.entries.length := by
    revert h
    cases e : (a.entries.length == b.entries.length)
    · simp
    · intro _; simpa using e
  have hsn : sameN v a b = decide (a.entries = b.entries) := by
    unfold sameN
    revert h
    cases (a.fid == b.fid) <;> cases (a.dir == b.dir) <;> cases (a.data == b.data) <;> cases (a.entries.length == b.entries.length) <;> cases v <;> cases (a.version == b.version) <;> simp
  rw [hsn]
  clear h12 h19 h28 h37 h47
  refine cw_go tabOK 99 (by simp only [go_sem]; try exact rfl) (by simp [go_sem]) ?_
  refine cw_loopS (fun i : Nat => i ≤ a.entries.length ∧ a.entries.take i = b.entries.take i) (fun i => a.entries.length - i) (fun i => [(7, .any), (51, .int .i64 i), (52, .any), (53, .any), (54, .any), (55, .any), (56, .any), (57, .any), (58, .any), (59, .any), (60, .any), (61, .any), (62, .any), (63, .any), (64, .any), (65, .any)]) (fun _ => []) 0 ⟨by omega, by simp⟩ ?_ fun i hi => ?_
  · simp only [go_sem]
    exact le_sub (by simp [go_sem]) (by simp [go_sem]) (by simp [go_sem])
  obtain ⟨hi, hs⟩ := hi
  simp only [go_sem]
  refine cw_go tabOK 99 (by simp only [go_sem]; try exact rfl) (by simp [go_sem]) ?_
  refine cw_cond (by simp only [go_sem]; try exact rfl) trivial (fun h => ?_) (fun h => ?_)
  · have hlt : i < a.entries.length := by simp at h; omega
    have hltb : i < b.entries.length := by omega
    have hga : (a.entries.map entryRow).getD i [] = entryRow (a.entries.getD i default) := Fam.getD hlt
    have hgb : (b.entries.map entryRow).getD i [] = entryRow (b.entries.getD i default) := Fam.getD hltb
    have htk := take_same hs hlt hltb
    have htd := take_diff (a := a.entries) (b := b.entries) (i := i)
    generalize a.entries.getD i default = x at hga htk htd
    generalize b.entries.getD i default = y at hgb htk htd
    refine cw_go tabOK 99 (by simp only [go_sem]; try exact rfl) (by simp [go_sem]) ?_
    refine cw_draw mixed ?_
    refine seg_start rfl ?_
    refine seg_runN tabOK 10 (by simp only [go_sem]; exact rfl) (by simp only [go_sem]; exact rfl) (by simp only [go_sem, hga, hgb, entryRow]; try exact rfl) ?_ (by simp only [go_sem]; exact rfl) ?_
    · simp [hga, hgb, entryRow, hlt, hltb]
    refine seg_end (by kernel_rfl) (by simp only [go_sem]; exact rfl) ?_
    refine draw_trip rfl (by kernel_rfl) rfl (trip_eqS tabOK rfl (tys := [9, 3]) (by kernel_rfl) (by simp only [go_sem]; try exact rfl) (by simp only [go_sem]; try exact rfl) (by simp only [go_sem]; exact rfl) (by first | exact .inl ⟨rfl, rfl⟩ | exact .inr ⟨rfl, rfl⟩)) rfl ?_
    refine draw_close (by kernel_rfl) ?_
    have hxy : (x.name == y.name && x.fid == y.fid) = decide (x = y) := by
      obtain ⟨n1, f1⟩ := x
      obtain ⟨n2, f2⟩ := y
      by_cases h1 : n1 = n2 <;> by_cases h2 : f1 = f2 <;> simp [h1, h2]
    simp only [go_sem, Bool.and_true, hxy]
    refine cw_go tabOK 99 (by simp only [go_sem]; try exact rfl) (by simp [go_sem]) ?_
    refine cw_cond (by simp only [go_sem]; try exact rfl) trivial (fun h => ?_) (fun h => ?_)
    · have hne : x ≠ y := by simpa using h
      have := htd hne
      refine cw_go tabOK 99 (by simp only [go_sem]; try exact rfl) (by simp [go_sem]) ?_
      refine cw_ret ⟨_, _, (by simp only [go_sem]; try exact rfl), by simp [go_sem], _, .inr (.inl rfl), ?_⟩
      simp [this]
    · have heq : x = y := by simpa using h
      have hw : IntKind.i64.wrap ((i : Int) + 1) = ((i + 1 : Nat) : Int) := by rw [Eng.wrap_small (by omega) (by omega)]; rfl
      refine cw_go tabOK 99 (by simp only [go_sem, hw]; try exact rfl) (by simp [go_sem, hw]) ?_
      refine cw_back ⟨i + 1, ⟨by omega, htk heq⟩, by omega, le_sub ?_ ?_ ?_⟩
      · simp [go_sem]; exact hw
      · simp [go_sem]
      · simp [go_sem]
  · have e : i = a.entries.length := by simp at h; omega
    have hab : a.entries = b.entries := by
      rw [e, List.take_length, hl, List.take_length] at hs; exact hs
    refine cw_go tabOK 99 (by simp only [go_sem]; try exact rfl) (by simp [go_sem]) ?_
    refine cw_ret ⟨_, _, (by simp only [go_sem]; try exact rfl), by simp [go_sem], _, .inr (.inl rfl), ?_⟩
    simp [hab]
end La

namespace La
open Go Go.Eng Go.Proofs
set_option linter.unusedVariables false

theorem putN_small {l : List Node} (hl : Small l) {n : Node} (hn : n.Small) (hlen : l.length ≤ 99999999) : Small (putN l n) := by
  refine ⟨by have := putN_length l n; omega, fun x hx => ?_⟩
  unfold putN at hx
  split at hx
  · rcases List.mem_or_eq_of_mem_set hx with h | rfl
    · exact hl.each x h
    · exact hn
  · rcases List.mem_append.1 hx with h | h
    · exact hl.each x (List.mem_of_mem_take h)
    · rcases List.mem_cons.1 h with rfl | h
      · exact hn
      · exact hl.each x (List.mem_of_mem_drop h)
theorem dropN_small {l : List Node} (hl : Small l) (f : Int) : Small (dropN l f) :=
  ⟨by have := List.length_filter_le (fun n : Node => !(n.fid == f)) l; unfold dropN; have := hl.len; omega, fun x hx => hl.each x ((List.mem_filter.1 hx).1)⟩
theorem sameN_self (v : Bool) (n : Node) : sameN v n n = true := by unfold sameN; simp

theorem enterN_small {n : Node} (hn : n.Small) (s : List UInt8) (f : Int) (h : n.entries.length ≤ 99999999) : (enterN n s f).Small := by
  refine ⟨hn.data, ?_⟩
  show (enterE n.entries s f).length ≤ _
  unfold enterE
  split
  · simp; omega
  · have := eplace_le n.entries s
    simp; omega
theorem leaveN_small {n : Node} (hn : n.Small) (s : List UInt8) : (leaveN n s).Small :=
  ⟨hn.data, by
    have := List.length_filter_le (fun e : Entry => !(e.name == s)) n.entries
    have := hn.entries
    show (leaveE n.entries s).length ≤ _
    unfold leaveE; omega⟩

end La

namespace La
open Go Go.Eng Go.Proofs
set_option maxRecDepth 10000
set_option linter.unusedSimpArgs false
set_option linter.unusedVariables false

def namedE (l : List Node) (a : Act) : Int := if dirE l a.dir = 0 then (match entryN (getN l a.dir) a.name with
  | none => 6
  | some f => if f = a.fid then 0 else 13) else dirE l a.dir


set_option maxHeartbeats 1000000 in
theorem named_ok (l : List Node) (a : Act) (v : Int) (hl : Small l) (hname : a.name.length ≤ 100000000) (G Y N : Nat → Nat) : FnOK Try.prog 148 [.ptr 15 9 0 0] (dH (doerRow l a v) G Y N)
    (fun r H => r = .tup [.agg (nodeRow (getN l a.dir)), .int .i64 (namedE l a)] ∧ ∀ i b, hget (dH (doerRow l a v) G Y N) i = some b → hget H i = some b) := by
  have hsm : (getN l a.dir).Small := hl.find a.dir
  unfold namedE
  unfold dH
  refine fn_of_cwW tabOK (Go.Proofs.Try.func148) rfl (fun C => ?_)
  simp only [Go.Proofs.Try.ntmps148, Go.Proofs.Try.results148, go_sem]
  refine cw_go tabOK 99 (by simp only [go_sem, doerRow]; try exact rfl) ?_ ?_
  · simp [doerRow]
  refine cw_step rfl (trip_callP rfl (by simp only [go_sem]; try exact rfl) (by simp [go_sem]) ⟨_, Go.Proofs.Try.func145, by kernel_rfl, rfl⟩ [15] (by simp only [go_sem, Bool.false_or, Bool.or_true, Bool.true_or, Bool.or_false, ↓reduceIte]; try exact rfl) (by simp [go_sem]) (by simp) (by simp [go_sem]) (by simp [go_sem]) (by simp [go_sem]) (dir_ok l a v a.dir hl) (by simp only [go_sem, Bool.false_or, Bool.or_true, Bool.true_or, Bool.or_false, ↓reduceIte]; exact rfl)) ?_
  generalize hgn : getN l a.dir = n at hsm
  generalize hge : dirE l a.dir = e
  refine cw_go tabOK 99 (by simp only [go_sem, nodeRow]; try exact rfl) ?_ ?_
  · simp [nodeRow]
  refine cw_cond (by simp only [go_sem]; try exact rfl) trivial (fun h => ?_) (fun h => ?_)
  · have he : e ≠ 0 := by simpa using h
    refine cw_go tabOK 99 (by simp only [go_sem, nodeRow]; try exact rfl) ?_ ?_
    · simp [nodeRow]
    refine cw_ret ⟨_, _, by simp only [go_sem]; try exact rfl, by simp [go_sem], _, .inr (.inl rfl), ?_, hold2 ?_ ?_⟩
    · simp [nodeRow, he]
    · simp [go_sem, doerRow]
    · simp [go_sem]
  have he : e = 0 := by simpa using h
  subst he
  refine cw_go tabOK 99 (by simp only [go_sem]; try exact rfl) (by simp [go_sem]) ?_
  refine cw_draw mixed ?_
  refine seg_start rfl ?_
  refine seg_runN tabOK 6 (by simp only [go_sem]; exact rfl) (by simp only [go_sem]; exact rfl) (by simp only [go_sem, nodeRow, doerRow]; try exact rfl) ?_ (by simp only [go_sem]; exact rfl) ?_
  · simp [nodeRow, doerRow]
  refine seg_call rfl rfl (by simp only [go_sem]; try exact rfl) (by simp [go_sem]) ⟨_, Go.Proofs.Try.func36, by kernel_rfl, rfl⟩ (by simp [go_sem]) (entry_ok n a.name hsm) (by simp [go_sem]) (by simp only [go_sem]; exact rfl) (by simp only [go_sem]; exact rfl) ?_
  cases hen : entryN n a.name with
  | none =>
    simp only [optInt]
    refine seg_run tabOK (by simp only [go_sem]; try exact rfl) (by simp [go_sem]) (by simp only [go_sem]; exact rfl) ?_
    refine seg_end (by kernel_rfl) (by simp only [go_sem]; exact rfl) ?_
    refine draw_close (by kernel_rfl) ?_
    try simp only [go_sem, List.getElem_toArray, List.getElem_cons_succ, List.getElem_cons_zero]
    refine cw_go tabOK 99 (by simp only [go_sem]; try exact rfl) (by simp [go_sem]) ?_
    refine cw_cond (by simp only [go_sem]; try exact rfl) trivial (fun h => ?_) (fun h => ?_)
    · refine cw_go tabOK 99 (by simp only [go_sem, nodeRow]; try exact rfl) ?_ ?_
      · simp [nodeRow]
      refine cw_ret ⟨_, _, by simp only [go_sem]; try exact rfl, by simp [go_sem], _, .inr (.inl rfl), ?_, hold2 ?_ ?_⟩
      · simp [nodeRow]
      · simp [go_sem, doerRow]
      · simp [go_sem]
    · cases h
  | some f =>
    simp only [optInt]
    refine seg_run tabOK (by simp only [go_sem]; try exact rfl) (by simp [go_sem]) (by simp only [go_sem]; exact rfl) ?_
    refine seg_end (by kernel_rfl) (by simp only [go_sem]; exact rfl) ?_
    refine draw_close (by kernel_rfl) ?_
    try simp only [go_sem, List.getElem_toArray, List.getElem_cons_succ, List.getElem_cons_zero]
    refine cw_go tabOK 99 (by simp only [go_sem]; try exact rfl) (by simp [go_sem]) ?_
    refine cw_cond (by simp only [go_sem]; try exact rfl) trivial (fun h => ?_) (fun h => ?_)
    · cases h
    refine cw_go tabOK 99 (by simp only [go_sem, doerRow]; try exact rfl) ?_ ?_
    · simp [doerRow]
    refine cw_cond (by simp only [go_sem]; try exact rfl) trivial (fun h => ?_) (fun h => ?_)
    · have hf : ¬ f = a.fid := by simpa using h
      refine cw_go tabOK 99 (by simp only [go_sem, nodeRow]; try exact rfl) ?_ ?_
      · simp [nodeRow]
      refine cw_ret ⟨_, _, by simp only [go_sem]; try exact rfl, by simp [go_sem], _, .inr (.inl rfl), ?_, hold2 ?_ ?_⟩
      · simp [nodeRow, hf]
      · simp [go_sem, doerRow]
      · simp [go_sem]
    · have hf : f = a.fid := by simpa using h
      refine cw_go tabOK 99 (by simp only [go_sem, nodeRow]; try exact rfl) ?_ ?_
      · simp [nodeRow]
      refine cw_ret ⟨_, _, by simp only [go_sem]; try exact rfl, by simp [go_sem], _, .inr (.inl rfl), ?_, hold2 ?_ ?_⟩
      · simp [nodeRow, hf]
      · simp [go_sem, doerRow]
      · simp [go_sem]

def makeE (l : List Node) (a : Act) : Int := if dirE l a.dir = 0 then (if roomE (getN l a.dir) a.name = 0 then (if (isAt l a.fid || a.fid == 0) = true then 13 else if l.length ≥ 24 then 5 else 0) else roomE (getN l a.dir) a.name) else dirE l a.dir
def madeN (a : Act) (v : Int) : Node := ⟨a.fid, a.kind == 2, [], [], v⟩
def makeL (l : List Node) (a : Act) (v : Int) : List Node := if makeE l a = 0 then putN (putN l { enterN (getN l a.dir) a.name a.fid with version := v }) (madeN a v) else l

set_option maxHeartbeats 2000000 in
theorem make_ok (l : List Node) (a : Act) (v : Int) (hl : Small l) (hlen : l.length ≤ 99999990) (hent : ∀ n, n ∈ l → n.entries.length ≤ 99999990) (hname : a.name.length ≤ 100000000) (G Y N : Nat → Nat) : FnOK Try.prog 100 [.ptr 15 9 0 0] (dH (doerRow l a v) G Y N)
    (fun r H => r = .int .i64 (makeE l a) ∧ ∀ i b, hget (dH (doerRow (makeL l a v) a v) G Y N) i = some b → hget H i = some b) := by
  have hsm : (getN l a.dir).Small := hl.find a.dir
  have hen : (getN l a.dir).entries.length ≤ 99999999 := by
    unfold getN
    cases e : findN l a.dir with
    | none => simp [zeroN]
    | some n => have := hent n (findN_mem e); simp only [Option.getD_some]; omega
  have hmE : makeL l a v = if makeE l a = 0 then putN (putN l { enterN (getN l a.dir) a.name a.fid with version := v }) (madeN a v) else l := rfl
  rw [hmE]
  unfold makeE
  unfold dH
  refine fn_of_cwW tabOK (Go.Proofs.Try.func100) rfl (fun C => ?_)
  simp only [Go.Proofs.Try.ntmps100, Go.Proofs.Try.results100, go_sem]
  refine cw_go tabOK 99 (by simp only [go_sem, doerRow]; try exact rfl) ?_ ?_
  · simp [doerRow]
  refine cw_step rfl (trip_callP rfl (by simp only [go_sem]; try exact rfl) (by simp [go_sem]) ⟨_, Go.Proofs.Try.func145, by kernel_rfl, rfl⟩ [15] (by simp only [go_sem, Bool.false_or, Bool.or_true, Bool.true_or, Bool.or_false, ↓reduceIte]; try exact rfl) (by simp [go_sem]) (by simp) (by simp [go_sem]) (by simp [go_sem]) (by simp [go_sem]) (dir_ok l a v a.dir hl) (by simp only [go_sem, Bool.false_or, Bool.or_true, Bool.true_or, Bool.or_false, ↓reduceIte]; exact rfl)) ?_
  have hee := enter_ok (getN l a.dir) a.name a.fid hsm
  have hes := enterN_small hsm a.name a.fid hen
  have hsv : ({ enterN (getN l a.dir) a.name a.fid with version := v } : Node).Small := ⟨hes.data, hes.entries⟩
  have hl1 := putN_small hl hsv (by omega)
  have hp1 := put_in l a v (enterN (getN l a.dir) a.name a.fid) hl hes
  have hp2 := put_in (putN l { enterN (getN l a.dir) a.name a.fid with version := v }) a v (madeN a 0) hl1 ⟨by simp [madeN], by simp [madeN]⟩
  have hmv : ({ madeN a 0 with version := v } : Node) = madeN a v := rfl
  rw [hmv] at hp2
  generalize putN (putN l { enterN (getN l a.dir) a.name a.fid with version := v }) (madeN a v) = l2 at hp2
  generalize putN l { enterN (getN l a.dir) a.name a.fid with version := v } = l1 at hp1 hp2 hl1
  have hp3 : ∀ (G Y N : Nat → Nat), FnOK Try.prog 147 [.ptr 15 9 0 0, .agg [.int .i64 a.fid, .bool (a.kind == 2), .nils, .nils, .int .i64 0]] (dH (doerRow l1 a v) G Y N) (fun r H => r = .tup [] ∧ ∀ i b, hget (dH (doerRow l2 a v) G Y N) i = some b → hget H i = some b) := fun G Y N => FnOK.nrm rfl (hp2 G Y N)
  generalize enterN (getN l a.dir) a.name a.fid = en at hee hp1
  generalize hgn : getN l a.dir = n at hsm hee
  generalize hge : dirE l a.dir = e
  refine cw_go tabOK 99 (by simp only [go_sem, nodeRow]; try exact rfl) ?_ ?_
  · simp [nodeRow]
  refine cw_cond (by simp only [go_sem]; try exact rfl) trivial (fun h => ?_) (fun h => ?_)
  · have he : e ≠ 0 := by simpa using h
    refine cw_go tabOK 99 (by simp only [go_sem]; try exact rfl) (by simp [go_sem]) ?_
    refine cw_ret ⟨_, _, by simp only [go_sem]; try exact rfl, by simp [go_sem], _, .inr (.inl rfl), ?_, hold2 ?_ ?_⟩
    · simp [he]
    · simp [go_sem, doerRow, he]
    · simp [go_sem]
  have he : e = 0 := by simpa using h
  subst he
  simp only [if_true]
  refine cw_go tabOK 99 (by simp only [go_sem]; try exact rfl) (by simp [go_sem]) ?_
  refine cw_draw mixed ?_
  refine seg_start rfl ?_
  refine seg_runN tabOK 6 (by simp only [go_sem]; exact rfl) (by simp only [go_sem]; exact rfl) (by simp only [go_sem, nodeRow, doerRow]; try exact rfl) ?_ (by simp only [go_sem]; exact rfl) ?_
  · simp [nodeRow, doerRow]
  refine seg_call rfl rfl (by simp only [go_sem]; try exact rfl) (by simp [go_sem]) ⟨_, Go.Proofs.Try.func146, by kernel_rfl, rfl⟩ (by simp [go_sem]) (room_ok n a.name hsm hname) (by simp [go_sem]) (by simp only [go_sem]; exact rfl) (by simp only [go_sem]; exact rfl) ?_
  generalize hre : roomE n a.name = e2
  refine seg_run tabOK (by simp only [go_sem]; try exact rfl) (by simp [go_sem]) (by simp only [go_sem]; exact rfl) ?_
  refine seg_end (by kernel_rfl) (by simp only [go_sem]; exact rfl) ?_
  refine draw_close (by kernel_rfl) ?_
  try simp only [go_sem, List.getElem_toArray, List.getElem_cons_succ, List.getElem_cons_zero]
  refine cw_go tabOK 99 (by simp only [go_sem]; try exact rfl) (by simp [go_sem]) ?_
  refine cw_cond (by simp only [go_sem]; try exact rfl) trivial (fun h => ?_) (fun h => ?_)
  · have he : e2 ≠ 0 := by simpa using h
    refine cw_go tabOK 99 (by simp only [go_sem]; try exact rfl) (by simp [go_sem]) ?_
    refine cw_ret ⟨_, _, by simp only [go_sem]; try exact rfl, by simp [go_sem], _, .inr (.inl rfl), ?_, hold2 ?_ ?_⟩
    · simp [he]
    · simp [go_sem, doerRow, he]
    · simp [go_sem]
  have he : e2 = 0 := by simpa using h
  subst he
  simp only [if_true]
  refine cw_go tabOK 99 (by simp only [go_sem]; try exact rfl) (by simp [go_sem]) ?_
  refine cw_draw mixed ?_
  refine seg_start rfl ?_
  refine seg_runN tabOK 9 (by simp only [go_sem]; exact rfl) (by simp only [go_sem]; exact rfl) (by simp only [go_sem, doerRow]; try exact rfl) ?_ (by simp only [go_sem]; exact rfl) ?_
  · simp [doerRow]
  refine seg_call rfl rfl (by simp only [go_sem]; try exact rfl) (by simp [go_sem]) ⟨_, Go.Proofs.Try.func33, by kernel_rfl, rfl⟩ (by simp [go_sem]) (find_ok l a.fid hl) (by simp [go_sem]) (by simp only [go_sem]; exact rfl) (by simp only [go_sem]; exact rfl) ?_
  simp only [go_sem, findR]
  generalize (findN l a.fid).getD zeroN = x
  generalize isAt l a.fid = z
  refine seg_run tabOK (by simp only [go_sem]; try exact rfl) (by simp [go_sem]) (by simp only [go_sem]; exact rfl) ?_
  refine seg_new tabOK rfl (by simp only [go_sem]; try exact rfl) (by simp only [go_sem]; try exact rfl) (by simp [go_sem]) (by simp only [go_sem]; try exact rfl) (by simp only [go_sem]; exact rfl) (by simp only [go_sem]; exact rfl) ?_
  simp only [go_sem, nodeRow]
  refine seg_store tabOK rfl rfl (by simp only [go_sem]; try exact rfl) (by simp only [go_sem]; try exact rfl) (by simp only [go_sem]; try exact rfl) (by first | trivial | simp [go_sem]) (by simp only [go_sem]; exact rfl) (by simp [go_sem]) (by simp only [go_sem]; exact rfl) (by simp only [go_sem]; exact rfl) (by simp only [go_sem]; exact rfl) ?_
  refine seg_end (by kernel_rfl) (by simp only [go_sem]; exact rfl) ?_
  refine draw_step tabOK rfl (by kernel_rfl) rfl (by simp only [go_sem]; try exact rfl) (by simp [go_sem]) rfl ?_
  refine draw_close (by kernel_rfl) ?_
  try simp only [go_sem, List.getElem_toArray, List.getElem_cons_succ, List.getElem_cons_zero]
  refine cw_goR 99 (by simp only [go_sem]; try exact rfl) ?_
  refine cw_runN tabOK 1 (by simp only [go_sem]; exact rfl) (by simp only [go_sem]; exact rfl) (by simp only [go_sem]; try exact rfl) (by simp [go_sem]) ?_
  refine cw_name 44 (by simp only [go_sem]; exact rfl) (fun c44 h44 => ?_)
  simp only [go_sem]
  subst h44
  cases hz : (z || a.fid == 0) with
  | true =>
    refine cw_runN tabOK 8 (by simp only [go_sem]; exact rfl) (by simp only [go_sem]; exact rfl) (by simp only [go_sem, doerRow]; try exact rfl) ?_ ?_
    · cases z <;> simp [doerRow]
    have hb : (bif z then true else a.fid == 0) = true := by rw [← hz]; cases z <;> rfl
    simp only [go_sem, hb]
    refine cw_go tabOK 99 (by simp only [go_sem]; try exact rfl) (by simp [go_sem]) ?_
    refine cw_cond (by simp only [go_sem]; try exact rfl) trivial (fun h => ?_) (fun h => ?_)
    · refine cw_go tabOK 99 (by simp only [go_sem]; try exact rfl) (by simp [go_sem]) ?_
      refine cw_ret ⟨_, _, by simp only [go_sem]; try exact rfl, by simp [go_sem], _, .inr (.inl rfl), ?_, hold2 ?_ ?_⟩
      · simp
      · simp [go_sem, doerRow]
      · simp [go_sem]
    · cases h
  | false =>
    refine cw_runN tabOK 8 (by simp only [go_sem]; exact rfl) (by simp only [go_sem]; exact rfl) (by simp only [go_sem, doerRow]; try exact rfl) ?_ ?_
    · cases z <;> simp [doerRow]
    have hb : (bif z then true else a.fid == 0) = false := by rw [← hz]; cases z <;> rfl
    simp only [go_sem, hb]
    refine cw_go tabOK 99 (by simp only [go_sem]; try exact rfl) (by simp [go_sem]) ?_
    refine cw_cond (by simp only [go_sem]; try exact rfl) trivial (fun h => ?_) (fun h => ?_)
    · cases h
    refine cw_go tabOK 99 (by simp only [go_sem, doerRow]; try exact rfl) ?_ ?_
    · simp [doerRow]
    refine cw_cond (by simp only [go_sem]; try exact rfl) trivial (fun h => ?_) (fun h => ?_)
    · have h24 : l.length ≥ 24 := by simp at h; omega
      refine cw_go tabOK 99 (by simp only [go_sem]; try exact rfl) (by simp [go_sem]) ?_
      refine cw_ret ⟨_, _, by simp only [go_sem]; try exact rfl, by simp [go_sem], _, .inr (.inl rfl), ?_, hold2 ?_ ?_⟩
      · simp [h24]
      · simp [go_sem, doerRow, h24]
      · simp [go_sem]
    have h24 : ¬ l.length ≥ 24 := by simp at h; omega
    simp only [h24, if_false, if_true]
    refine cw_go tabOK 99 (by simp only [go_sem]; try exact rfl) (by simp [go_sem]) ?_
    refine cw_draw mixed ?_
    refine seg_start rfl ?_
    refine seg_runN tabOK 12 (by simp only [go_sem]; exact rfl) (by simp only [go_sem]; exact rfl) (by simp only [go_sem, nodeRow, doerRow]; try exact rfl) ?_ (by simp only [go_sem]; exact rfl) ?_
    · simp [nodeRow, doerRow]
    refine seg_call rfl rfl (by simp only [go_sem]; try exact rfl) (by simp [go_sem]) ⟨_, Go.Proofs.Try.func37, by kernel_rfl, rfl⟩ (by simp [go_sem]) (hee) (by simp [go_sem]) (by simp only [go_sem]; exact rfl) (by simp only [go_sem]; exact rfl) ?_
    refine seg_end (by kernel_rfl) (by simp only [go_sem]; exact rfl) ?_
    refine draw_trip rfl (by kernel_rfl) rfl (trip_callP rfl (by simp only [go_sem]; try exact rfl) (by simp [go_sem]) ⟨_, Go.Proofs.Try.func147, by kernel_rfl, rfl⟩ [15] (by simp only [go_sem, Bool.false_or, Bool.or_true, Bool.true_or, Bool.or_false, ↓reduceIte]; try exact rfl) (by simp [go_sem]) (by simp) (by simp [go_sem]) (by simp [go_sem]) (by simp [go_sem]) (hp1) (by simp only [go_sem, Bool.false_or, Bool.or_true, Bool.true_or, Bool.or_false, ↓reduceIte]; exact rfl)) rfl ?_
    refine draw_close (by kernel_rfl) ?_
    try simp only [go_sem, List.getElem_toArray, List.getElem_cons_succ, List.getElem_cons_zero]
    refine cw_go tabOK 99 (by simp only [go_sem]; try exact rfl) (by simp [go_sem]) ?_
    refine cw_draw mixed ?_
    refine seg_start rfl ?_
    refine seg_runN tabOK 12 (by simp only [go_sem]; exact rfl) (by simp only [go_sem]; exact rfl) (by simp only [go_sem, nodeRow, doerRow]; try exact rfl) ?_ (by simp only [go_sem]; exact rfl) ?_
    · simp [nodeRow, doerRow]
    refine seg_build tabOK rfl (by simp only [go_sem]; try exact rfl) (by simp only [go_sem]; try exact rfl) (by simp [go_sem]) (by simp only [go_sem, cond_true, cond_false]; exact rfl) (by simp only [go_sem]; exact rfl) (by simp only [go_sem]; exact rfl) ?_
    refine seg_end (by kernel_rfl) (by simp only [go_sem]; exact rfl) ?_
    refine draw_trip rfl (by kernel_rfl) rfl (trip_callP rfl (by simp only [go_sem]; try exact rfl) (by simp [go_sem]) ⟨_, Go.Proofs.Try.func147, by kernel_rfl, rfl⟩ [15] (by simp only [go_sem, Bool.false_or, Bool.or_true, Bool.true_or, Bool.or_false, ↓reduceIte]; try exact rfl) (by simp [go_sem]) (by simp) (by simp [go_sem]) (by simp [go_sem]) (by simp [go_sem]) (hp3) (by simp only [go_sem, Bool.false_or, Bool.or_true, Bool.true_or, Bool.or_false, ↓reduceIte]; exact rfl)) rfl ?_
    refine draw_close (by kernel_rfl) ?_
    try simp only [go_sem, List.getElem_toArray, List.getElem_cons_succ, List.getElem_cons_zero]
    refine cw_go tabOK 99 (by simp only [go_sem]; try exact rfl) (by simp [go_sem]) ?_
    refine cw_ret ⟨_, _, by simp only [go_sem]; try exact rfl, by simp [go_sem], _, .inr (.inl rfl), ?_, hold2 ?_ ?_⟩
    · simp
    · simp [go_sem]
    · simp [go_sem]

def removeE (l : List Node) (a : Act) : Int := if namedE l a = 0 then (match findN l a.fid with
  | none => 12
  | some x => if x.entries.length > 0 then 10 else 0) else namedE l a
def removeL (l : List Node) (a : Act) (v : Int) : List Node := if removeE l a = 0 then dropN (putN l { leaveN (getN l a.dir) a.name with version := v }) a.fid else l

set_option maxHeartbeats 2000000 in
theorem remove_ok (l : List Node) (a : Act) (v : Int) (hl : Small l) (hlen : l.length ≤ 99999990) (hname : a.name.length ≤ 100000000) (G Y N : Nat → Nat) : FnOK Try.prog 102 [.ptr 15 9 0 0] (dH (doerRow l a v) G Y N)
    (fun r H => r = .int .i64 (removeE l a) ∧ ∀ i b, hget (dH (doerRow (removeL l a v) a v) G Y N) i = some b → hget H i = some b) := by
  have hsm : (getN l a.dir).Small := hl.find a.dir
  have hmE : removeL l a v = if removeE l a = 0 then dropN (putN l { leaveN (getN l a.dir) a.name with version := v }) a.fid else l := rfl
  rw [hmE]
  unfold removeE
  unfold dH
  refine fn_of_cwW tabOK (Go.Proofs.Try.func102) rfl (fun C => ?_)
  simp only [Go.Proofs.Try.ntmps102, Go.Proofs.Try.results102, go_sem]
  refine cw_go tabOK 99 (by simp only [go_sem]; try exact rfl) (by simp [go_sem]) ?_
  refine cw_step rfl (trip_callP rfl (by simp only [go_sem]; try exact rfl) (by simp [go_sem]) ⟨_, Go.Proofs.Try.func148, by kernel_rfl, rfl⟩ [15] (by simp only [go_sem, Bool.false_or, Bool.or_true, Bool.true_or, Bool.or_false, ↓reduceIte]; try exact rfl) (by simp [go_sem]) (by simp) (by simp [go_sem]) (by simp [go_sem]) (by simp [go_sem]) (named_ok l a v hl hname) (by simp only [go_sem, Bool.false_or, Bool.or_true, Bool.true_or, Bool.or_false, ↓reduceIte]; exact rfl)) ?_
  have hee := leave_ok (getN l a.dir) a.name hsm
  have hes := leaveN_small hsm a.name
  have hsv : ({ leaveN (getN l a.dir) a.name with version := v } : Node).Small := ⟨hes.data, hes.entries⟩
  have hl1 := putN_small hl hsv (by omega)
  have hp1 := put_in l a v (leaveN (getN l a.dir) a.name) hl hes
  have hp2 := drop_ok (putN l { leaveN (getN l a.dir) a.name with version := v }) a.fid hl1
  generalize dropN (putN l { leaveN (getN l a.dir) a.name with version := v }) a.fid = l2 at hp2
  generalize putN l { leaveN (getN l a.dir) a.name with version := v } = l1 at hp1 hp2 hl1
  generalize leaveN (getN l a.dir) a.name = en at hee hp1
  generalize hgn : getN l a.dir = n at hsm hee
  generalize hge : namedE l a = e
  refine cw_go tabOK 99 (by simp only [go_sem, nodeRow]; try exact rfl) ?_ ?_
  · simp [nodeRow]
  refine cw_cond (by simp only [go_sem]; try exact rfl) trivial (fun h => ?_) (fun h => ?_)
  · have he : e ≠ 0 := by simpa using h
    refine cw_go tabOK 99 (by simp only [go_sem]; try exact rfl) (by simp [go_sem]) ?_
    refine cw_ret ⟨_, _, by simp only [go_sem]; try exact rfl, by simp [go_sem], _, .inr (.inl rfl), ?_, hold2 ?_ ?_⟩
    · simp [he]
    · simp [go_sem, doerRow, he]
    · simp [go_sem]
  have he : e = 0 := by simpa using h
  subst he
  simp only [if_true]
  refine cw_go tabOK 99 (by simp only [go_sem]; try exact rfl) (by simp [go_sem]) ?_
  refine cw_draw mixed ?_
  refine seg_start rfl ?_
  refine seg_runN tabOK 9 (by simp only [go_sem]; exact rfl) (by simp only [go_sem]; exact rfl) (by simp only [go_sem, doerRow]; try exact rfl) ?_ (by simp only [go_sem]; exact rfl) ?_
  · simp [doerRow]
  refine seg_call rfl rfl (by simp only [go_sem]; try exact rfl) (by simp [go_sem]) ⟨_, Go.Proofs.Try.func33, by kernel_rfl, rfl⟩ (by simp [go_sem]) (find_ok l a.fid hl) (by simp [go_sem]) (by simp only [go_sem]; exact rfl) (by simp only [go_sem]; exact rfl) ?_
  simp only [go_sem, findR]
  rw [isAt_eq]
  cases hfd : findN l a.fid with
  | none =>
    simp only [Option.getD_none, Option.isSome_none]
    refine seg_run tabOK (by simp only [go_sem]; try exact rfl) (by simp [go_sem]) (by simp only [go_sem]; exact rfl) ?_
    refine seg_new tabOK rfl (by simp only [go_sem]; try exact rfl) (by simp only [go_sem]; try exact rfl) (by simp [go_sem]) (by simp only [go_sem]; try exact rfl) (by simp only [go_sem]; exact rfl) (by simp only [go_sem]; exact rfl) ?_
    simp only [go_sem, nodeRow, zeroN]
    refine seg_store tabOK rfl rfl (by simp only [go_sem]; try exact rfl) (by simp only [go_sem]; try exact rfl) (by simp only [go_sem]; try exact rfl) (by first | trivial | simp [go_sem]) (by simp only [go_sem]; exact rfl) (by simp [go_sem]) (by simp only [go_sem]; exact rfl) (by simp only [go_sem]; exact rfl) (by simp only [go_sem]; exact rfl) ?_
    refine seg_end (by kernel_rfl) (by simp only [go_sem]; exact rfl) ?_
    refine draw_step tabOK rfl (by kernel_rfl) rfl (by simp only [go_sem]; try exact rfl) (by simp [go_sem]) rfl ?_
    refine draw_close (by kernel_rfl) ?_
    try simp only [go_sem, List.getElem_toArray, List.getElem_cons_succ, List.getElem_cons_zero]
    refine cw_go tabOK 99 (by simp only [go_sem]; try exact rfl) (by simp [go_sem]) ?_
    refine cw_cond (by simp only [go_sem]; try exact rfl) trivial (fun h => ?_) (fun h => ?_)
    · refine cw_go tabOK 99 (by simp only [go_sem]; try exact rfl) (by simp [go_sem]) ?_
      refine cw_ret ⟨_, _, by simp only [go_sem]; try exact rfl, by simp [go_sem], _, .inr (.inl rfl), ?_, hold2 ?_ ?_⟩
      · simp
      · simp [go_sem, doerRow]
      · simp [go_sem]
    · cases h
  | some x =>
    simp only [Option.getD_some, Option.isSome_some]
    refine seg_run tabOK (by simp only [go_sem]; try exact rfl) (by simp [go_sem]) (by simp only [go_sem]; exact rfl) ?_
    refine seg_new tabOK rfl (by simp only [go_sem]; try exact rfl) (by simp only [go_sem]; try exact rfl) (by simp [go_sem]) (by simp only [go_sem]; try exact rfl) (by simp only [go_sem]; exact rfl) (by simp only [go_sem]; exact rfl) ?_
    simp only [go_sem, nodeRow]
    refine seg_store tabOK rfl rfl (by simp only [go_sem]; try exact rfl) (by simp only [go_sem]; try exact rfl) (by simp only [go_sem]; try exact rfl) (by first | trivial | simp [go_sem]) (by simp only [go_sem]; exact rfl) (by simp [go_sem]) (by simp only [go_sem]; exact rfl) (by simp only [go_sem]; exact rfl) (by simp only [go_sem]; exact rfl) ?_
    refine seg_end (by kernel_rfl) (by simp only [go_sem]; exact rfl) ?_
    refine draw_step tabOK rfl (by kernel_rfl) rfl (by simp only [go_sem]; try exact rfl) (by simp [go_sem]) rfl ?_
    refine draw_close (by kernel_rfl) ?_
    try simp only [go_sem, List.getElem_toArray, List.getElem_cons_succ, List.getElem_cons_zero]
    refine cw_go tabOK 99 (by simp only [go_sem]; try exact rfl) (by simp [go_sem]) ?_
    refine cw_cond (by simp only [go_sem]; try exact rfl) trivial (fun h => ?_) (fun h => ?_)
    · cases h
    refine cw_go tabOK 99 (by simp only [go_sem]; try exact rfl) (by simp [go_sem]) ?_
    refine cw_cond (by simp only [go_sem]; try exact rfl) trivial (fun h => ?_) (fun h => ?_)
    · have h0 : x.entries.length > 0 := by have h2 := of_decide_eq_true h; omega
      refine cw_go tabOK 99 (by simp only [go_sem]; try exact rfl) (by simp [go_sem]) ?_
      refine cw_ret ⟨_, _, by simp only [go_sem]; try exact rfl, by simp [go_sem], _, .inr (.inl rfl), ?_, hold2 ?_ ?_⟩
      · simp [h0]
      · simp [go_sem, doerRow, h0]
      · simp [go_sem]
    have h0 : ¬ x.entries.length > 0 := by have h2 := of_decide_eq_false h; omega
    simp only [h0, if_false, if_true]
    refine cw_go tabOK 99 (by simp only [go_sem]; try exact rfl) (by simp [go_sem]) ?_
    refine cw_draw mixed ?_
    refine seg_start rfl ?_
    refine seg_runN tabOK 7 (by simp only [go_sem]; exact rfl) (by simp only [go_sem]; exact rfl) (by simp only [go_sem, nodeRow, doerRow]; try exact rfl) ?_ (by simp only [go_sem]; exact rfl) ?_
    · simp [nodeRow, doerRow]
    refine seg_call rfl rfl (by simp only [go_sem]; try exact rfl) (by simp [go_sem]) ⟨_, Go.Proofs.Try.func38, by kernel_rfl, rfl⟩ (by simp [go_sem]) (hee) (by simp [go_sem]) (by simp only [go_sem]; exact rfl) (by simp only [go_sem]; exact rfl) ?_
    refine seg_end (by kernel_rfl) (by simp only [go_sem]; exact rfl) ?_
    refine draw_trip rfl (by kernel_rfl) rfl (trip_callP rfl (by simp only [go_sem]; try exact rfl) (by simp [go_sem]) ⟨_, Go.Proofs.Try.func147, by kernel_rfl, rfl⟩ [15] (by simp only [go_sem, Bool.false_or, Bool.or_true, Bool.true_or, Bool.or_false, ↓reduceIte]; try exact rfl) (by simp [go_sem]) (by simp) (by simp [go_sem]) (by simp [go_sem]) (by simp [go_sem]) (hp1) (by simp only [go_sem, Bool.false_or, Bool.or_true, Bool.true_or, Bool.or_false, ↓reduceIte]; exact rfl)) rfl ?_
    refine draw_close (by kernel_rfl) ?_
    try simp only [go_sem, List.getElem_toArray, List.getElem_cons_succ, List.getElem_cons_zero]
    refine cw_go tabOK 99 (by simp only [go_sem]; try exact rfl) (by simp [go_sem]) ?_
    refine cw_draw mixed ?_
    refine seg_start rfl ?_
    refine seg_runN tabOK 10 (by simp only [go_sem]; exact rfl) (by simp only [go_sem]; exact rfl) (by simp only [go_sem, doerRow]; try exact rfl) ?_ (by simp only [go_sem]; exact rfl) ?_
    · simp [doerRow]
    refine seg_call rfl rfl (by simp only [go_sem]; try exact rfl) (by simp [go_sem]) ⟨_, Go.Proofs.Try.func35, by kernel_rfl, rfl⟩ (by simp [go_sem]) (hp2) (by simp [go_sem]) (by simp only [go_sem]; exact rfl) (by simp only [go_sem]; exact rfl) ?_
    refine seg_runN tabOK 2 (by simp only [go_sem]; exact rfl) (by simp only [go_sem]; exact rfl) (by simp only [go_sem, doerRow]; try exact rfl) ?_ (by simp only [go_sem]; exact rfl) ?_
    · simp [doerRow]
    refine seg_end (by kernel_rfl) (by simp only [go_sem]; exact rfl) ?_
    refine draw_step tabOK rfl (by kernel_rfl) rfl (by simp only [go_sem]; try exact rfl) ?_ rfl ?_
    · simp [go_sem, doerRow]
    refine draw_close (by kernel_rfl) ?_
    try simp only [go_sem, List.getElem_toArray, List.getElem_cons_succ, List.getElem_cons_zero]
    refine cw_go tabOK 99 (by simp only [go_sem]; try exact rfl) (by simp [go_sem]) ?_
    refine cw_ret ⟨_, _, by simp only [go_sem]; try exact rfl, by simp [go_sem], _, .inr (.inl rfl), ?_, hold2 ?_ ?_⟩
    · simp
    · simp [go_sem, doerRow]
    · simp [go_sem]

def storeE (l : List Node) (a : Act) : Int := match findN l a.fid with
  | none => 12
  | some n => if n.dir then 9 else if a.data.length > 20 then 4 else 0
def storeL (l : List Node) (a : Act) (v : Int) : List Node := if storeE l a = 0 then putN l { getN l a.fid with data := a.data, version := v } else l

set_option maxHeartbeats 2000000 in
theorem store_ok (l : List Node) (a : Act) (v : Int) (hl : Small l) (ha : a.data.length ≤ 100000000) (G Y N : Nat → Nat) : FnOK Try.prog 101 [.ptr 15 9 0 0] (dH (doerRow l a v) G Y N)
    (fun r H => r = .int .i64 (storeE l a) ∧ ∀ i b, hget (dH (doerRow (storeL l a v) a v) G Y N) i = some b → hget H i = some b) := by
  have hsm : (getN l a.fid).Small := hl.find a.fid
  have hmE : storeL l a v = if storeE l a = 0 then putN l { getN l a.fid with data := a.data, version := v } else l := rfl
  rw [hmE]
  have hp1 := put_in l a v { getN l a.fid with data := a.data } hl ⟨ha, hsm.entries⟩
  have hlet : ({ ({ getN l a.fid with data := a.data } : Node) with version := v } : Node) = { getN l a.fid with data := a.data, version := v } := rfl
  rw [hlet] at hp1
  generalize putN l { getN l a.fid with data := a.data, version := v } = l2 at hp1
  unfold storeE
  unfold getN at hp1
  unfold dH
  refine fn_of_cwW tabOK (Go.Proofs.Try.func101) rfl (fun C => ?_)
  simp only [Go.Proofs.Try.ntmps101, Go.Proofs.Try.results101, go_sem]
  refine cw_go tabOK 99 (by simp only [go_sem]; try exact rfl) (by simp [go_sem]) ?_
  refine cw_draw mixed ?_
  refine seg_start rfl ?_
  refine seg_runN tabOK 9 (by simp only [go_sem]; exact rfl) (by simp only [go_sem]; exact rfl) (by simp only [go_sem, doerRow]; try exact rfl) ?_ (by simp only [go_sem]; exact rfl) ?_
  · simp [doerRow]
  refine seg_call rfl rfl (by simp only [go_sem]; try exact rfl) (by simp [go_sem]) ⟨_, Go.Proofs.Try.func33, by kernel_rfl, rfl⟩ (by simp [go_sem]) (find_ok l a.fid hl) (by simp [go_sem]) (by simp only [go_sem]; exact rfl) (by simp only [go_sem]; exact rfl) ?_
  simp only [go_sem, findR]
  rw [isAt_eq]
  cases hfd : findN l a.fid with
  | none =>
    simp only [Option.getD_none, Option.isSome_none]
    refine seg_run tabOK (by simp only [go_sem]; try exact rfl) (by simp [go_sem]) (by simp only [go_sem]; exact rfl) ?_
    refine seg_new tabOK rfl (by simp only [go_sem]; try exact rfl) (by simp only [go_sem]; try exact rfl) (by simp [go_sem]) (by simp only [go_sem]; try exact rfl) (by simp only [go_sem]; exact rfl) (by simp only [go_sem]; exact rfl) ?_
    simp only [go_sem, nodeRow, zeroN]
    refine seg_store tabOK rfl rfl (by simp only [go_sem]; try exact rfl) (by simp only [go_sem]; try exact rfl) (by simp only [go_sem]; try exact rfl) (by first | trivial | simp [go_sem]) (by simp only [go_sem]; exact rfl) (by simp [go_sem]) (by simp only [go_sem]; exact rfl) (by simp only [go_sem]; exact rfl) (by simp only [go_sem]; exact rfl) ?_
    refine seg_end (by kernel_rfl) (by simp only [go_sem]; exact rfl) ?_
    refine draw_step tabOK rfl (by kernel_rfl) rfl (by simp only [go_sem]; try exact rfl) (by simp [go_sem]) rfl ?_
    refine draw_close (by kernel_rfl) ?_
    try simp only [go_sem, List.getElem_toArray, List.getElem_cons_succ, List.getElem_cons_zero]
    refine cw_go tabOK 99 (by simp only [go_sem]; try exact rfl) (by simp [go_sem]) ?_
    refine cw_cond (by simp only [go_sem]; try exact rfl) trivial (fun h => ?_) (fun h => ?_)
    · refine cw_go tabOK 99 (by simp only [go_sem]; try exact rfl) (by simp [go_sem]) ?_
      refine cw_ret ⟨_, _, by simp only [go_sem]; try exact rfl, by simp [go_sem], _, .inr (.inl rfl), ?_, hold2 ?_ ?_⟩
      · simp
      · simp [go_sem, doerRow]
      · simp [go_sem]
    · cases h
  | some x =>
    rw [hfd] at hp1
    simp only [Option.getD_some, Option.isSome_some] at hp1 ⊢
    refine seg_run tabOK (by simp only [go_sem]; try exact rfl) (by simp [go_sem]) (by simp only [go_sem]; exact rfl) ?_
    refine seg_new tabOK rfl (by simp only [go_sem]; try exact rfl) (by simp only [go_sem]; try exact rfl) (by simp [go_sem]) (by simp only [go_sem]; try exact rfl) (by simp only [go_sem]; exact rfl) (by simp only [go_sem]; exact rfl) ?_
    simp only [go_sem, nodeRow]
    refine seg_store tabOK rfl rfl (by simp only [go_sem]; try exact rfl) (by simp only [go_sem]; try exact rfl) (by simp only [go_sem]; try exact rfl) (by first | trivial | simp [go_sem]) (by simp only [go_sem]; exact rfl) (by simp [go_sem]) (by simp only [go_sem]; exact rfl) (by simp only [go_sem]; exact rfl) (by simp only [go_sem]; exact rfl) ?_
    refine seg_end (by kernel_rfl) (by simp only [go_sem]; exact rfl) ?_
    refine draw_step tabOK rfl (by kernel_rfl) rfl (by simp only [go_sem]; try exact rfl) (by simp [go_sem]) rfl ?_
    refine draw_close (by kernel_rfl) ?_
    try simp only [go_sem, List.getElem_toArray, List.getElem_cons_succ, List.getElem_cons_zero]
    refine cw_go tabOK 99 (by simp only [go_sem]; try exact rfl) (by simp [go_sem]) ?_
    refine cw_cond (by simp only [go_sem]; try exact rfl) trivial (fun h => ?_) (fun h => ?_)
    · cases h
    refine cw_go tabOK 99 (by simp only [go_sem]; try exact rfl) (by simp [go_sem]) ?_
    refine cw_cond (by simp only [go_sem]; try exact rfl) trivial (fun h => ?_) (fun h => ?_)
    · have h0 : x.dir = true := h
      refine cw_go tabOK 99 (by simp only [go_sem]; try exact rfl) (by simp [go_sem]) ?_
      refine cw_ret ⟨_, _, by simp only [go_sem]; try exact rfl, by simp [go_sem], _, .inr (.inl rfl), ?_, hold2 ?_ ?_⟩
      · simp [h0]
      · simp [go_sem, doerRow, h0]
      · simp [go_sem]
    have h0 : x.dir = false := h
    refine cw_go tabOK 99 (by simp only [go_sem, doerRow]; try exact rfl) ?_ ?_
    · simp [doerRow]
    refine cw_cond (by simp only [go_sem]; try exact rfl) trivial (fun h => ?_) (fun h => ?_)
    · have h1 : a.data.length > 20 := by simp at h; omega
      refine cw_go tabOK 99 (by simp only [go_sem]; try exact rfl) (by simp [go_sem]) ?_
      refine cw_ret ⟨_, _, by simp only [go_sem]; try exact rfl, by simp [go_sem], _, .inr (.inl rfl), ?_, hold2 ?_ ?_⟩
      · simp [h0, h1]
      · simp [go_sem, doerRow, h0, h1]
      · simp [go_sem]
    have h1 : ¬ a.data.length > 20 := by simp at h; omega
    have hs0 : (if x.dir = true then (9 : Int) else if a.data.length > 20 then 4 else 0) = 0 := by simp [h0, h1]
    simp only [hs0, if_true]
    refine cw_go tabOK 99 (by simp only [go_sem, doerRow]; try exact rfl) ?_ ?_
    · simp [doerRow]
    refine cw_step rfl (trip_callP rfl (by simp only [go_sem]; try exact rfl) (by simp [go_sem]) ⟨_, Go.Proofs.Try.func147, by kernel_rfl, rfl⟩ [15] (by simp only [go_sem, Bool.false_or, Bool.or_true, Bool.true_or, Bool.or_false, ↓reduceIte]; try exact rfl) (by simp [go_sem]) (by simp) (by simp [go_sem]) (by simp [go_sem]) (by simp [go_sem]) (hp1) (by simp only [go_sem, Bool.false_or, Bool.or_true, Bool.true_or, Bool.or_false, ↓reduceIte]; exact rfl)) ?_
    refine cw_go tabOK 99 (by simp only [go_sem]; try exact rfl) (by simp [go_sem]) ?_
    refine cw_ret ⟨_, _, by simp only [go_sem]; try exact rfl, by simp [go_sem], _, .inr (.inl rfl), ?_, hold2 ?_ ?_⟩
    · simp
    · simp [go_sem, doerRow]
    · simp [go_sem]
end La

namespace La
open Go Go.Eng Go.Proofs
set_option maxRecDepth 10000
set_option linter.unusedSimpArgs false
set_option linter.unusedVariables false

def sameT (v : Bool) : List Node → List Node → Bool
  | [], [] => true
  | x :: a, y :: b => sameN v x y && sameT v a b
  | _, _ => false

theorem sameT_iff (v : Bool) : ∀ (a b : List Node), sameT v a b = true ↔ a.length = b.length ∧ ∀ j, j < a.length → sameN v (a.getD j default) (b.getD j default) = true
  | [], [] => by simp [sameT]
  | [], _ :: _ => by simp [sameT]
  | _ :: _, [] => by simp [sameT]
  | x :: a, y :: b => by
    rw [sameT, Bool.and_eq_true, sameT_iff v a b]
    constructor
    · rintro ⟨h1, h2, h3⟩
      refine ⟨by simp [h2], fun j hj => ?_⟩
      cases j with
      | zero => simpa using h1
      | succ j => simpa using h3 j (by simpa using hj)
    · rintro ⟨h2, h3⟩
      refine ⟨by simpa using h3 0 (by simp), by simpa using h2, fun j hj => by simpa using h3 (j + 1) (by simpa using hj)⟩

theorem same_ok (a b : List Node) (v : Bool) (ha : Small a) (hb : Small b) : FnOK Try.prog 29 [.sl (a.map nodeRow), .sl (b.map nodeRow), .bool v] [] (fun r _ => r = .bool (sameT v a b)) := by
  have hla := ha.len
  have hlb := hb.len
  refine fn_of_cwW tabOK (Go.Proofs.Try.func29) rfl (fun C => ?_)
  simp only [Go.Proofs.Try.ntmps29, Go.Proofs.Try.results29, go_sem]
  refine cw_go tabOK 99 (by simp only [go_sem]; try exact rfl) (by simp [go_sem]) ?_
  refine cw_cond (by simp only [go_sem]; try exact rfl) trivial (fun h => ?_) (fun h => ?_)
  · have hne : sameT v a b = false := by
      cases e : sameT v a b with
      | false => rfl
      | true => have := ((sameT_iff v a b).1 e).1; simp [this] at h
    refine cw_go tabOK 99 (by simp only [go_sem]; try exact rfl) (by simp [go_sem]) ?_
    refine cw_ret ⟨_, _, (by simp only [go_sem]; try exact rfl), by simp [go_sem], _, .inr (.inl rfl), ?_⟩
    simp [hne]
  have hl : a.length = b.length := by simp at h; omega
  refine cw_go tabOK 99 (by simp only [go_sem]; try exact rfl) (by simp [go_sem]) ?_
  refine cw_loopS (fun i : Nat => i ≤ a.length ∧ ∀ j, j < i → sameN v (a.getD j default) (b.getD j default) = true) (fun i => a.length - i) (fun i => [(7, .any), (15, .int .i64 i), (16, .any), (17, .any), (18, .any), (19, .any), (20, .any), (21, .any), (22, .any), (23, .any), (24, .any), (25, .any), (26, .any), (27, .any), (28, .any), (29, .any)]) (fun _ => []) 0 ⟨by omega, by omega⟩ ?_ fun i hi => ?_
  · simp only [go_sem]
    exact le_sub (by simp [go_sem]) (by simp [go_sem]) (by simp [go_sem])
  obtain ⟨hi, hs⟩ := hi
  simp only [go_sem]
  refine cw_go tabOK 99 (by simp only [go_sem]; try exact rfl) (by simp [go_sem]) ?_
  refine cw_cond (by simp only [go_sem]; try exact rfl) trivial (fun h => ?_) (fun h => ?_)
  · have hlt : i < a.length := by simp at h; omega
    have hltb : i < b.length := by omega
    have hga : (a.map nodeRow).getD i [] = nodeRow (a.getD i default) := Fam.getD hlt
    have hgb : (b.map nodeRow).getD i [] = nodeRow (b.getD i default) := Fam.getD hltb
    have hsm := sameNode_ok _ _ v (ha.each _ (getD_mem hlt)) (hb.each _ (getD_mem hltb))
    have hno : sameN v (a.getD i default) (b.getD i default) = false → sameT v a b = false := fun h0 => by
      cases e : sameT v a b with
      | false => rfl
      | true => rw [((sameT_iff v a b).1 e).2 i hlt] at h0; cases h0
    have hyes : sameN v (a.getD i default) (b.getD i default) = true → ∀ j, j < i + 1 → sameN v (a.getD j default) (b.getD j default) = true := fun h0 j hj => by
      rcases Nat.lt_succ_iff_lt_or_eq.1 hj with h1 | rfl
      · exact hs j h1
      · exact h0
    clear hs
    generalize a.getD i default = x at hga hsm hno hyes
    generalize b.getD i default = y at hgb hsm hno hyes
    refine cw_go tabOK 99 (by simp only [go_sem]; try exact rfl) (by simp [go_sem]) ?_
    refine cw_draw mixed ?_
    refine seg_start rfl ?_
    refine seg_runN tabOK 9 (by simp only [go_sem]; exact rfl) (by simp only [go_sem]; exact rfl) (by simp only [go_sem, hga, hgb, nodeRow]; try exact rfl) ?_ (by simp only [go_sem]; exact rfl) ?_
    · simp [hga, hgb, nodeRow, hlt, hltb]
    refine seg_call rfl rfl (by simp only [go_sem]; try exact rfl) (by simp [go_sem]) ⟨_, Go.Proofs.Try.func34, by kernel_rfl, rfl⟩ (by simp [go_sem]) (hsm) (by simp [go_sem]) (by simp only [go_sem]; exact rfl) (by simp only [go_sem]; exact rfl) ?_
    refine seg_run tabOK (by simp only [go_sem]; try exact rfl) (by simp [go_sem]) (by simp only [go_sem]; exact rfl) ?_
    refine seg_end (by kernel_rfl) (by simp only [go_sem]; exact rfl) ?_
    refine draw_close (by kernel_rfl) ?_
    refine cw_cond (by simp only [go_sem]; try exact rfl) trivial (fun h => ?_) (fun h => ?_)
    · have h0 : sameN v x y = false := by simpa using h
      have := hno h0
      refine cw_go tabOK 99 (by simp only [go_sem]; try exact rfl) (by simp [go_sem]) ?_
      refine cw_ret ⟨_, _, (by simp only [go_sem]; try exact rfl), by simp [go_sem], _, .inr (.inl rfl), ?_⟩
      simp [this]
    · have h0 : sameN v x y = true := by simpa using h
      have hw : IntKind.i64.wrap ((i : Int) + 1) = ((i + 1 : Nat) : Int) := by rw [Eng.wrap_small (by omega) (by omega)]; rfl
      refine cw_go tabOK 99 (by simp only [go_sem, hw]; try exact rfl) (by simp [go_sem, hw]) ?_
      refine cw_back ⟨i + 1, ⟨by omega, hyes h0⟩, by omega, le_sub ?_ ?_ ?_⟩
      · simp [go_sem]
      · simp [go_sem]
      · simp [go_sem]
  · have e : i = a.length := by simp at h; omega
    subst e
    have hab : sameT v a b = true := (sameT_iff v a b).2 ⟨hl, hs⟩
    refine cw_go tabOK 99 (by simp only [go_sem]; try exact rfl) (by simp [go_sem]) ?_
    refine cw_ret ⟨_, _, (by simp only [go_sem]; try exact rfl), by simp [go_sem], _, .inr (.inl rfl), ?_⟩
    simp [hab]

theorem new_ok : FnOK Try.prog 82 [] [] (fun r _ => r = .sl [[.int .i64 0, .bool true, .nils, .nils, .int .i64 0]]) := by
  refine fn_of_cwW tabOK (Go.Proofs.Try.func82) rfl (fun C => ?_)
  simp only [Go.Proofs.Try.ntmps82, Go.Proofs.Try.results82, go_sem]
  refine cw_go tabOK 99 (by simp only [go_sem]; try exact rfl) (by simp [go_sem]) ?_
  refine cw_freeze 2 rfl (rfl) ?_
  simp only [go_sem]
  refine cw_ret ⟨_, _, (by simp only [go_sem]; try exact rfl), by simp [go_sem], _, .inr (.inl rfl), ?_⟩
  rfl

def stepB (l : List Node) (j : Nat) : Bool := j == 0 || decide ((l.getD (j - 1) default).fid < (l.getD j default).fid)
def entB (es : List Entry) (k : Nat) : Bool := k == 0 || decide ((es.getD (k - 1) default).name < (es.getD k default).name)
def nodeB (l : List Node) (j : Nat) : Bool := stepB l j && (List.range (l.getD j default).entries.length).all (entB (l.getD j default).entries)
def risesB (l : List Node) : Bool := (List.range l.length).all (nodeB l)

theorem adj_up {l : List Node} (h : ∀ j, j < l.length → stepB l j = true) : Up l := by
  refine List.pairwise_iff_getElem.2 fun i j hi hj hij => ?_
  have key : ∀ d, ∀ (h : i + d + 1 < l.length), (l.getD i default).fid < (l.getD (i + d + 1) default).fid := fun d => by
    induction d with
    | zero =>
      intro hlt
      have := h (i + 1) hlt
      simp only [stepB, Nat.add_sub_cancel, Bool.or_eq_true, beq_iff_eq, decide_eq_true_eq] at this
      rcases this with h0 | h0
      · omega
      · exact h0
    | succ d ih =>
      intro hlt
      have h1 := ih (by omega)
      have := h (i + (d + 1) + 1) hlt
      simp only [stepB, Nat.add_sub_cancel, Bool.or_eq_true, beq_iff_eq, decide_eq_true_eq] at this
      rcases this with h0 | h0
      · omega
      · exact Int.lt_trans h1 h0
  obtain ⟨d, rfl⟩ : ∃ d, j = i + d + 1 := ⟨j - i - 1, by omega⟩
  have := key d hj
  rw [List.getD_eq_getElem?_getD, List.getD_eq_getElem?_getD, List.getElem?_eq_getElem hi, List.getElem?_eq_getElem hj] at this
  exact this
theorem adj_eup {l : List Entry} (h : ∀ j, j < l.length → entB l j = true) : EUp l := by
  refine List.pairwise_iff_getElem.2 fun i j hi hj hij => ?_
  have key : ∀ d, ∀ (h : i + d + 1 < l.length), (l.getD i default).name < (l.getD (i + d + 1) default).name := fun d => by
    induction d with
    | zero =>
      intro hlt
      have := h (i + 1) hlt
      simp only [entB, Nat.add_sub_cancel, Bool.or_eq_true, beq_iff_eq, decide_eq_true_eq] at this
      rcases this with h0 | h0
      · omega
      · exact h0
    | succ d ih =>
      intro hlt
      have h1 := ih (by omega)
      have := h (i + (d + 1) + 1) hlt
      simp only [entB, Nat.add_sub_cancel, Bool.or_eq_true, beq_iff_eq, decide_eq_true_eq] at this
      rcases this with h0 | h0
      · omega
      · exact strans h1 h0
  obtain ⟨d, rfl⟩ : ∃ d, j = i + d + 1 := ⟨j - i - 1, by omega⟩
  have := key d hj
  rw [List.getD_eq_getElem?_getD, List.getD_eq_getElem?_getD, List.getElem?_eq_getElem hi, List.getElem?_eq_getElem hj] at this
  exact this
theorem risesB_iff (l : List Node) : risesB l = true ↔ Up l ∧ ∀ n, n ∈ l → EUp n.entries := by
  unfold risesB
  rw [List.all_eq_true]
  constructor
  · intro h
    refine ⟨adj_up fun j hj => ?_, fun n hn => ?_⟩
    · have := h j (List.mem_range.2 hj)
      unfold nodeB at this
      exact (Bool.and_eq_true_iff.1 this).1
    · obtain ⟨j, hj⟩ := List.getElem?_of_mem hn
      have hjl := (List.getElem?_eq_some_iff.1 hj).1
      have := h j (List.mem_range.2 hjl)
      unfold nodeB at this
      rw [getD_of hj] at this
      exact adj_eup fun k hk => List.all_eq_true.1 (Bool.and_eq_true_iff.1 this).2 k (List.mem_range.2 hk)
  · rintro ⟨h1, h2⟩ j hj
    have hjl := List.mem_range.1 hj
    unfold nodeB
    rw [Bool.and_eq_true]
    refine ⟨?_, List.all_eq_true.2 fun k hk => ?_⟩
    · unfold stepB
      cases j with
      | zero => rfl
      | succ j => simp only [Bool.or_eq_true, decide_eq_true_eq]; exact .inr (h1.lt (by omega) hjl)
    · unfold entB
      cases k with
      | zero => rfl
      | succ k => simp only [Bool.or_eq_true, decide_eq_true_eq]; exact .inr ((h2 _ (getD_mem hjl)).lt (by omega) (List.mem_range.1 hk))

theorem risesB_no {l : List Node} {j : Nat} (hj : j < l.length) (h : nodeB l j = false) : risesB l = false := by
  cases e : risesB l with
  | false => rfl
  | true =>
    unfold risesB at e
    rw [List.all_eq_true.1 e j (List.mem_range.2 hj)] at h
    cases h


set_option maxHeartbeats 1000000 in
theorem rises_ok (l : List Node) (hl : Small l) : FnOK Try.prog 27 [.sl (l.map nodeRow)] [] (fun r _ => r = .bool (risesB l)) := by
  have hlen := hl.len
  refine fn_of_cwW tabOK (Go.Proofs.Try.func27) rfl (fun C => ?_)
  simp only [Go.Proofs.Try.ntmps27, Go.Proofs.Try.results27, go_sem]
  refine cw_go tabOK 99 (by simp only [go_sem]; try exact rfl) (by simp [go_sem]) ?_
  refine cw_loopS (fun i : Nat => i ≤ l.length ∧ ∀ j, j < i → nodeB l j = true) (fun i => l.length - i) (fun i => [(3, .any), (4, .any), (5, .any), (8, .int .i64 i), (9, .any), (10, .any), (11, .any), (12, .any), (13, .any), (14, .any), (15, .any), (16, .any), (17, .any), (18, .any), (19, .any), (20, .any), (21, .any), (22, .any), (23, .any), (24, .any), (25, .any), (26, .any), (27, .any), (28, .any), (29, .any), (30, .any), (31, .any), (32, .any), (33, .any), (34, .any), (35, .any), (36, .any), (37, .any), (38, .any), (39, .any), (40, .any), (41, .any), (42, .any), (43, .any), (44, .any), (45, .any), (46, .any), (47, .any), (48, .any), (49, .any), (50, .any), (51, .any)]) (fun _ => []) 0 ⟨by omega, by omega⟩ ?_ fun i hi => ?_
  · simp only [go_sem]
    exact le_sub (by simp [go_sem]) (by simp [go_sem]) (by simp [go_sem])
  obtain ⟨hi, hs⟩ := hi
  simp only [go_sem]
  refine cw_go tabOK 99 (by simp only [go_sem]; try exact rfl) (by simp [go_sem]) ?_
  refine cw_cond (by simp only [go_sem]; try exact rfl) trivial (fun h => ?_) (fun h => ?_)
  · have hlt : i < l.length := by simp at h; omega
    have hg : (l.map nodeRow).getD i [] = nodeRow (l.getD i default) := Fam.getD hlt
    have hen := (hl.each _ (getD_mem hlt)).entries
    have hsB : i ≠ 0 → stepB l i = decide ((l.getD (i - 1) default).fid < (l.getD i default).fid) := fun h0 => by simp [stepB, h0]
    have hno : stepB l i = false → nodeB l i = false := fun h0 => by unfold nodeB; rw [h0]; rfl
    generalize hxd : l.getD i default = x at hg hen hsB
    refine cw_go tabOK 99 (by simp only [go_sem, hg, nodeRow]; try exact rfl) ?_ ?_
    · simp [hg, nodeRow, hlt]
    refine cw_freeze 4 rfl (rfl) ?_
    simp only [go_sem]
    by_cases hi0 : i = 0
    · subst hi0
      have hst : stepB l 0 = true := rfl
      refine cw_draw mixed ?_
      refine seg_start rfl ?_
      refine seg_runN tabOK 3 (by simp only [go_sem]; exact rfl) (by simp only [go_sem]; exact rfl) (by simp only [go_sem]; try exact rfl) (by simp [go_sem]) (by simp only [go_sem]; exact rfl) ?_
      refine seg_skip .any (by simp only [go_sem]; try exact rfl) (by simp only [go_sem]; exact rfl) (by simp only [go_sem]; exact rfl) ?_
      refine seg_skip .any (by simp only [go_sem]; try exact rfl) (by simp only [go_sem]; exact rfl) (by simp only [go_sem]; exact rfl) ?_
      refine seg_skip .any (by simp only [go_sem]; try exact rfl) (by simp only [go_sem]; exact rfl) (by simp only [go_sem]; exact rfl) ?_
      refine seg_skip .any (by simp only [go_sem]; try exact rfl) (by simp only [go_sem]; exact rfl) (by simp only [go_sem]; exact rfl) ?_
      refine seg_skip .any (by simp only [go_sem]; try exact rfl) (by simp only [go_sem]; exact rfl) (by simp only [go_sem]; exact rfl) ?_
      refine seg_skip .any (by simp only [go_sem]; try exact rfl) (by simp only [go_sem]; exact rfl) (by simp only [go_sem]; exact rfl) ?_
      refine seg_skip .any (by simp only [go_sem]; try exact rfl) (by simp only [go_sem]; exact rfl) (by simp only [go_sem]; exact rfl) ?_
      refine seg_skip .any (by simp only [go_sem]; try exact rfl) (by simp only [go_sem]; exact rfl) (by simp only [go_sem]; exact rfl) ?_
      refine seg_skip (.bool false) (by simp only [go_sem]; try exact rfl) (by simp only [go_sem]; exact rfl) (by simp only [go_sem]; exact rfl) ?_
      refine seg_runN tabOK 1 (by simp only [go_sem]; exact rfl) (by simp only [go_sem]; exact rfl) (by simp only [go_sem]; try exact rfl) (by simp [go_sem]) (by simp only [go_sem]; exact rfl) ?_
      refine seg_end (by kernel_rfl) (by simp only [go_sem]; exact rfl) ?_
      refine draw_close (by kernel_rfl) ?_
      refine cw_condF (by simp only [go_sem]; try exact rfl) trivial (by simp) ?_
      refine cw_go tabOK 99 (by simp only [go_sem]; try exact rfl) (by simp [go_sem]) ?_
      refine cw_loopS (fun k : Nat => k ≤ x.entries.length ∧ ∀ j, j < k → entB x.entries j = true) (fun k => x.entries.length - k) (fun k => [(5, .any), (29, .int .i64 k), (30, .any), (31, .any), (32, .any), (33, .any), (34, .any), (35, .any), (36, .any), (37, .any), (38, .any), (39, .any), (40, .any), (41, .any), (42, .any), (43, .any), (44, .any), (45, .any), (46, .any), (47, .any), (48, .any), (49, .any)]) (fun _ => []) 0 ⟨by omega, by omega⟩ ?_ fun k hk => ?_
      · simp only [go_sem]
        exact le_sub (by simp [go_sem]) (by simp [go_sem]) (by simp [go_sem])
      obtain ⟨hk, hks⟩ := hk
      simp only [go_sem]
      refine cw_go tabOK 99 (by simp only [go_sem]; try exact rfl) (by simp [go_sem]) ?_
      refine cw_cond (by simp only [go_sem]; try exact rfl) trivial (fun h => ?_) (fun h => ?_)
      · have hklt : k < x.entries.length := by simp at h; omega
        have hgk : (x.entries.map entryRow).getD k [] = entryRow (x.entries.getD k default) := Fam.getD hklt
        have hwk : IntKind.i64.wrap ((k : Int) + 1) = ((k + 1 : Nat) : Int) := by rw [Eng.wrap_small (by omega) (by omega)]; rfl
        refine cw_go tabOK 99 (by simp only [go_sem]; try exact rfl) (by simp [go_sem]) ?_
        by_cases hk0 : k = 0
        · subst hk0
          have he : entB x.entries 0 = true := rfl
          refine cw_draw mixed ?_
          refine seg_start rfl ?_
          refine seg_runN tabOK 3 (by simp only [go_sem]; exact rfl) (by simp only [go_sem]; exact rfl) (by simp only [go_sem]; try exact rfl) (by simp [go_sem]) (by simp only [go_sem]; exact rfl) ?_
          refine seg_skip .any (by simp only [go_sem]; try exact rfl) (by simp only [go_sem]; exact rfl) (by simp only [go_sem]; exact rfl) ?_
          refine seg_skip .any (by simp only [go_sem]; try exact rfl) (by simp only [go_sem]; exact rfl) (by simp only [go_sem]; exact rfl) ?_
          refine seg_skip .any (by simp only [go_sem]; try exact rfl) (by simp only [go_sem]; exact rfl) (by simp only [go_sem]; exact rfl) ?_
          refine seg_skip .any (by simp only [go_sem]; try exact rfl) (by simp only [go_sem]; exact rfl) (by simp only [go_sem]; exact rfl) ?_
          refine seg_skip .any (by simp only [go_sem]; try exact rfl) (by simp only [go_sem]; exact rfl) (by simp only [go_sem]; exact rfl) ?_
          refine seg_skip .any (by simp only [go_sem]; try exact rfl) (by simp only [go_sem]; exact rfl) (by simp only [go_sem]; exact rfl) ?_
          refine seg_skip .any (by simp only [go_sem]; try exact rfl) (by simp only [go_sem]; exact rfl) (by simp only [go_sem]; exact rfl) ?_
          refine seg_skip .any (by simp only [go_sem]; try exact rfl) (by simp only [go_sem]; exact rfl) (by simp only [go_sem]; exact rfl) ?_
          refine seg_skip .any (by simp only [go_sem]; try exact rfl) (by simp only [go_sem]; exact rfl) (by simp only [go_sem]; exact rfl) ?_
          refine seg_skip .any (by simp only [go_sem]; try exact rfl) (by simp only [go_sem]; exact rfl) (by simp only [go_sem]; exact rfl) ?_
          refine seg_skip .any (by simp only [go_sem]; try exact rfl) (by simp only [go_sem]; exact rfl) (by simp only [go_sem]; exact rfl) ?_
          refine seg_skip .any (by simp only [go_sem]; try exact rfl) (by simp only [go_sem]; exact rfl) (by simp only [go_sem]; exact rfl) ?_
          refine seg_skip .any (by simp only [go_sem]; try exact rfl) (by simp only [go_sem]; exact rfl) (by simp only [go_sem]; exact rfl) ?_
          refine seg_skip (.bool false) (by simp only [go_sem]; try exact rfl) (by simp only [go_sem]; exact rfl) (by simp only [go_sem]; exact rfl) ?_
          refine seg_runN tabOK 1 (by simp only [go_sem]; exact rfl) (by simp only [go_sem]; exact rfl) (by simp only [go_sem]; try exact rfl) (by simp [go_sem]) (by simp only [go_sem]; exact rfl) ?_
          refine seg_end (by kernel_rfl) (by simp only [go_sem]; exact rfl) ?_
          refine draw_close (by kernel_rfl) ?_
          refine cw_condF (by simp only [go_sem]; try exact rfl) trivial (by simp) ?_
          refine cw_go tabOK 99 (by simp only [go_sem, hwk]; try exact rfl) (by simp [go_sem, hwk]) ?_
          refine cw_back ⟨1, ⟨by omega, fun j hj => by rw [show j = 0 by omega]; exact he⟩, by omega, le_sub ?_ ?_ ?_⟩
          · simp [go_sem, hwk]
          · simp [go_sem]
          · simp [go_sem]
        · have hwm : IntKind.i64.wrap ((k : Int) - 1) = ((k - 1 : Nat) : Int) := by rw [Eng.wrap_small (by omega) (by omega)]; omega
          have hgm : (x.entries.map entryRow).getD (k - 1) [] = entryRow (x.entries.getD (k - 1) default) := Fam.getD (by omega)
          have heB : entB x.entries k = decide ((x.entries.getD (k - 1) default).name < (x.entries.getD k default).name) := by
            simp [entB, hk0]
          have hyes : entB x.entries k = true → ∀ j, j < k + 1 → entB x.entries j = true := fun h0 j hj => by
            rcases Nat.lt_succ_iff_lt_or_eq.1 hj with h1 | rfl
            · exact hks j h1
            · exact h0
          have hno : entB x.entries k = false → nodeB l 0 = false := fun h0 => by
            cases e : nodeB l 0 with
            | false => rfl
            | true =>
              unfold nodeB at e
              rw [hxd] at e
              rw [List.all_eq_true.1 (Bool.and_eq_true_iff.1 e).2 k (List.mem_range.2 hklt)] at h0
              cases h0
          generalize x.entries.getD k default = u at hgk heB
          generalize x.entries.getD (k - 1) default = v at hgm heB
          refine cw_draw mixed ?_
          refine seg_start rfl ?_
          refine seg_runN tabOK 2 (by simp only [go_sem]; exact rfl) (by simp only [go_sem]; exact rfl) (by simp only [go_sem]; try exact rfl) (by simp [go_sem]) (by simp only [go_sem]; exact rfl) ?_
          refine seg_name 33 (by simp only [go_sem]; exact rfl) (fun c33 h33 => ?_)
          simp only [go_sem]
          have hc : c33 = true := by rw [← h33]; simp; omega
          subst hc
          refine seg_runN tabOK 16 (by simp only [go_sem]; exact rfl) (by simp only [go_sem]; exact rfl) (by simp only [go_sem, hwm, hgk, hgm, entryRow]; try exact rfl) ?_ (by simp only [go_sem]; exact rfl) ?_
          · simp [hwm, hgk, hgm, entryRow]; omega
          refine seg_end (by kernel_rfl) (by simp only [go_sem]; exact rfl) ?_
          refine draw_close (by kernel_rfl) ?_
          have hb : (!Op.bytesLess v.name u.name) = !entB x.entries k := by rw [less_iff, heB]
          simp only [go_sem, hwm, hb]
          refine cw_cond (by simp only [go_sem]; try exact rfl) trivial (fun h => ?_) (fun h => ?_)
          · have h0 : entB x.entries k = false := by simpa using h
            have := risesB_no hlt (hno h0)
            refine cw_go tabOK 99 (by simp only [go_sem]; try exact rfl) (by simp [go_sem]) ?_
            refine cw_ret ⟨_, _, (by simp only [go_sem]; try exact rfl), by simp [go_sem], _, .inr (.inl rfl), ?_⟩
            simp [this]
          · have h0 : entB x.entries k = true := by simpa using h
            refine cw_go tabOK 99 (by simp only [go_sem, hwk]; try exact rfl) (by simp [go_sem, hwk]) ?_
            refine cw_back ⟨k + 1, ⟨by omega, hyes h0⟩, by omega, le_sub ?_ ?_ ?_⟩
            · simp [go_sem, hwk]
            · simp [go_sem]
            · simp [go_sem]
      · have e : k = x.entries.length := by simp at h; omega
        have hnB : nodeB l 0 = true := by
          unfold nodeB
          rw [hxd, hst, Bool.true_and]
          exact List.all_eq_true.2 fun j hj => hks j (by rw [e]; exact List.mem_range.1 hj)
        have hw : IntKind.i64.wrap (((0 : Nat) : Int) + 1) = ((0 + 1 : Nat) : Int) := by rw [Eng.wrap_small (by omega) (by omega)]; rfl
        refine cw_go tabOK 99 (by simp only [go_sem, hw]; try exact rfl) (by simp [go_sem, hw]) ?_
        refine cw_back ⟨0 + 1, ⟨by omega, fun j hj => ?_⟩, by omega, le_sub ?_ ?_ ?_⟩
        · rcases Nat.lt_succ_iff_lt_or_eq.1 hj with h1 | rfl
          · exact hs j h1
          · exact hnB
        · first | (simp [go_sem, hw]; done) | (simp [go_sem]; rfl)
        · simp [go_sem]
        · simp [go_sem]
    · have hwm : IntKind.i64.wrap ((i : Int) - 1) = ((i - 1 : Nat) : Int) := by rw [Eng.wrap_small (by omega) (by omega)]; omega
      have hgm : (l.map nodeRow).getD (i - 1) [] = nodeRow (l.getD (i - 1) default) := Fam.getD (by omega)
      have hsB := hsB hi0
      generalize l.getD (i - 1) default = y at hgm hsB
      refine cw_draw mixed ?_
      refine seg_start rfl ?_
      refine seg_runN tabOK 2 (by simp only [go_sem]; exact rfl) (by simp only [go_sem]; exact rfl) (by simp only [go_sem]; try exact rfl) (by simp [go_sem]) (by simp only [go_sem]; exact rfl) ?_
      refine seg_name 14 (by simp only [go_sem]; exact rfl) (fun c14 h14 => ?_)
      simp only [go_sem]
      have hc : c14 = true := by rw [← h14]; simp; omega
      subst hc
      refine seg_runN tabOK 11 (by simp only [go_sem]; exact rfl) (by simp only [go_sem]; exact rfl) (by simp only [go_sem, hwm, hgm, nodeRow]; try exact rfl) ?_ (by simp only [go_sem]; exact rfl) ?_
      · simp [hwm, hgm, nodeRow]; omega
      refine seg_end (by kernel_rfl) (by simp only [go_sem]; exact rfl) ?_
      refine draw_close (by kernel_rfl) ?_
      have hb : decide (y.fid ≥ x.fid) = !stepB l i := by
        rw [hsB, Bool.eq_iff_iff]; simp
      simp only [go_sem, hwm, hb]
      refine cw_cond (by simp only [go_sem]; try exact rfl) trivial (fun h => ?_) (fun h => ?_)
      · have h0 : stepB l i = false := by simpa using h
        have := risesB_no hlt (hno h0)
        refine cw_go tabOK 99 (by simp only [go_sem]; try exact rfl) (by simp [go_sem]) ?_
        refine cw_ret ⟨_, _, (by simp only [go_sem]; try exact rfl), by simp [go_sem], _, .inr (.inl rfl), ?_⟩
        simp [this]
      · have hst : stepB l i = true := by simpa using h
        clear h14
        refine cw_go tabOK 99 (by simp only [go_sem]; try exact rfl) (by simp [go_sem]) ?_
        refine cw_loopS (fun k : Nat => k ≤ x.entries.length ∧ ∀ j, j < k → entB x.entries j = true) (fun k => x.entries.length - k) (fun k => [(5, .any), (29, .int .i64 k), (30, .any), (31, .any), (32, .any), (33, .any), (34, .any), (35, .any), (36, .any), (37, .any), (38, .any), (39, .any), (40, .any), (41, .any), (42, .any), (43, .any), (44, .any), (45, .any), (46, .any), (47, .any), (48, .any), (49, .any)]) (fun _ => []) 0 ⟨by omega, by omega⟩ ?_ fun k hk => ?_
        · simp only [go_sem]
          exact le_sub (by simp [go_sem]) (by simp [go_sem]) (by simp [go_sem])
        obtain ⟨hk, hks⟩ := hk
        simp only [go_sem]
        refine cw_go tabOK 99 (by simp only [go_sem]; try exact rfl) (by simp [go_sem]) ?_
        refine cw_cond (by simp only [go_sem]; try exact rfl) trivial (fun h => ?_) (fun h => ?_)
        · have hklt : k < x.entries.length := by simp at h; omega
          have hgk : (x.entries.map entryRow).getD k [] = entryRow (x.entries.getD k default) := Fam.getD hklt
          have hwk : IntKind.i64.wrap ((k : Int) + 1) = ((k + 1 : Nat) : Int) := by rw [Eng.wrap_small (by omega) (by omega)]; rfl
          refine cw_go tabOK 99 (by simp only [go_sem]; try exact rfl) (by simp [go_sem]) ?_
          by_cases hk0 : k = 0
          · subst hk0
            have he : entB x.entries 0 = true := rfl
            refine cw_draw mixed ?_
            refine seg_start rfl ?_
            refine seg_runN tabOK 3 (by simp only [go_sem]; exact rfl) (by simp only [go_sem]; exact rfl) (by simp only [go_sem]; try exact rfl) (by simp [go_sem]) (by simp only [go_sem]; exact rfl) ?_
            refine seg_skip .any (by simp only [go_sem]; try exact rfl) (by simp only [go_sem]; exact rfl) (by simp only [go_sem]; exact rfl) ?_
            refine seg_skip .any (by simp only [go_sem]; try exact rfl) (by simp only [go_sem]; exact rfl) (by simp only [go_sem]; exact rfl) ?_
            refine seg_skip .any (by simp only [go_sem]; try exact rfl) (by simp only [go_sem]; exact rfl) (by simp only [go_sem]; exact rfl) ?_
            refine seg_skip .any (by simp only [go_sem]; try exact rfl) (by simp only [go_sem]; exact rfl) (by simp only [go_sem]; exact rfl) ?_
            refine seg_skip .any (by simp only [go_sem]; try exact rfl) (by simp only [go_sem]; exact rfl) (by simp only [go_sem]; exact rfl) ?_
            refine seg_skip .any (by simp only [go_sem]; try exact rfl) (by simp only [go_sem]; exact rfl) (by simp only [go_sem]; exact rfl) ?_
            refine seg_skip .any (by simp only [go_sem]; try exact rfl) (by simp only [go_sem]; exact rfl) (by simp only [go_sem]; exact rfl) ?_
            refine seg_skip .any (by simp only [go_sem]; try exact rfl) (by simp only [go_sem]; exact rfl) (by simp only [go_sem]; exact rfl) ?_
            refine seg_skip .any (by simp only [go_sem]; try exact rfl) (by simp only [go_sem]; exact rfl) (by simp only [go_sem]; exact rfl) ?_
            refine seg_skip .any (by simp only [go_sem]; try exact rfl) (by simp only [go_sem]; exact rfl) (by simp only [go_sem]; exact rfl) ?_
            refine seg_skip .any (by simp only [go_sem]; try exact rfl) (by simp only [go_sem]; exact rfl) (by simp only [go_sem]; exact rfl) ?_
            refine seg_skip .any (by simp only [go_sem]; try exact rfl) (by simp only [go_sem]; exact rfl) (by simp only [go_sem]; exact rfl) ?_
            refine seg_skip .any (by simp only [go_sem]; try exact rfl) (by simp only [go_sem]; exact rfl) (by simp only [go_sem]; exact rfl) ?_
            refine seg_skip (.bool false) (by simp only [go_sem]; try exact rfl) (by simp only [go_sem]; exact rfl) (by simp only [go_sem]; exact rfl) ?_
            refine seg_runN tabOK 1 (by simp only [go_sem]; exact rfl) (by simp only [go_sem]; exact rfl) (by simp only [go_sem]; try exact rfl) (by simp [go_sem]) (by simp only [go_sem]; exact rfl) ?_
            refine seg_end (by kernel_rfl) (by simp only [go_sem]; exact rfl) ?_
            refine draw_close (by kernel_rfl) ?_
            refine cw_condF (by simp only [go_sem]; try exact rfl) trivial (by simp) ?_
            refine cw_go tabOK 99 (by simp only [go_sem, hwk]; try exact rfl) (by simp [go_sem, hwk]) ?_
            refine cw_back ⟨1, ⟨by omega, fun j hj => by rw [show j = 0 by omega]; exact he⟩, by omega, le_sub ?_ ?_ ?_⟩
            · simp [go_sem, hwk]
            · simp [go_sem]
            · simp [go_sem]
          · have hwm : IntKind.i64.wrap ((k : Int) - 1) = ((k - 1 : Nat) : Int) := by rw [Eng.wrap_small (by omega) (by omega)]; omega
            have hgm : (x.entries.map entryRow).getD (k - 1) [] = entryRow (x.entries.getD (k - 1) default) := Fam.getD (by omega)
            have heB : entB x.entries k = decide ((x.entries.getD (k - 1) default).name < (x.entries.getD k default).name) := by
              simp [entB, hk0]
            have hyes : entB x.entries k = true → ∀ j, j < k + 1 → entB x.entries j = true := fun h0 j hj => by
              rcases Nat.lt_succ_iff_lt_or_eq.1 hj with h1 | rfl
              · exact hks j h1
              · exact h0
            have hno : entB x.entries k = false → nodeB l i = false := fun h0 => by
              cases e : nodeB l i with
              | false => rfl
              | true =>
                unfold nodeB at e
                rw [hxd] at e
                rw [List.all_eq_true.1 (Bool.and_eq_true_iff.1 e).2 k (List.mem_range.2 hklt)] at h0
                cases h0
            generalize x.entries.getD k default = u at hgk heB
            generalize x.entries.getD (k - 1) default = v at hgm heB
            refine cw_draw mixed ?_
            refine seg_start rfl ?_
            refine seg_runN tabOK 2 (by simp only [go_sem]; exact rfl) (by simp only [go_sem]; exact rfl) (by simp only [go_sem]; try exact rfl) (by simp [go_sem]) (by simp only [go_sem]; exact rfl) ?_
            refine seg_name 33 (by simp only [go_sem]; exact rfl) (fun c33 h33 => ?_)
            simp only [go_sem]
            have hc : c33 = true := by rw [← h33]; simp; omega
            subst hc
            refine seg_runN tabOK 16 (by simp only [go_sem]; exact rfl) (by simp only [go_sem]; exact rfl) (by simp only [go_sem, hwm, hgk, hgm, entryRow]; try exact rfl) ?_ (by simp only [go_sem]; exact rfl) ?_
            · simp [hwm, hgk, hgm, entryRow]; omega
            refine seg_end (by kernel_rfl) (by simp only [go_sem]; exact rfl) ?_
            refine draw_close (by kernel_rfl) ?_
            have hb : (!Op.bytesLess v.name u.name) = !entB x.entries k := by rw [less_iff, heB]
            simp only [go_sem, hwm, hb]
            refine cw_cond (by simp only [go_sem]; try exact rfl) trivial (fun h => ?_) (fun h => ?_)
            · have h0 : entB x.entries k = false := by simpa using h
              have := risesB_no hlt (hno h0)
              refine cw_go tabOK 99 (by simp only [go_sem]; try exact rfl) (by simp [go_sem]) ?_
              refine cw_ret ⟨_, _, (by simp only [go_sem]; try exact rfl), by simp [go_sem], _, .inr (.inl rfl), ?_⟩
              simp [this]
            · have h0 : entB x.entries k = true := by simpa using h
              refine cw_go tabOK 99 (by simp only [go_sem, hwk]; try exact rfl) (by simp [go_sem, hwk]) ?_
              refine cw_back ⟨k + 1, ⟨by omega, hyes h0⟩, by omega, le_sub ?_ ?_ ?_⟩
              · simp [go_sem, hwk]
              · simp [go_sem]
              · simp [go_sem]
        · have e : k = x.entries.length := by simp at h; omega
          have hnB : nodeB l i = true := by
            unfold nodeB
            rw [hxd, hst, Bool.true_and]
            exact List.all_eq_true.2 fun j hj => hks j (by rw [e]; exact List.mem_range.1 hj)
          have hw : IntKind.i64.wrap (((i : Nat) : Int) + 1) = ((i + 1 : Nat) : Int) := by rw [Eng.wrap_small (by omega) (by omega)]; rfl
          refine cw_go tabOK 99 (by simp only [go_sem, hw]; try exact rfl) (by simp [go_sem, hw]) ?_
          refine cw_back ⟨i + 1, ⟨by omega, fun j hj => ?_⟩, by omega, le_sub ?_ ?_ ?_⟩
          · rcases Nat.lt_succ_iff_lt_or_eq.1 hj with h1 | rfl
            · exact hs j h1
            · exact hnB
          · first | (simp [go_sem, hw]; done) | (simp [go_sem]; rfl)
          · simp [go_sem]
          · simp [go_sem]
  · have e : i = l.length := by simp at h; omega
    subst e
    have : risesB l = true := List.all_eq_true.2 fun j hj => hs j (List.mem_range.1 hj)
    refine cw_go tabOK 99 (by simp only [go_sem]; try exact rfl) (by simp [go_sem]) ?_
    refine cw_ret ⟨_, _, (by simp only [go_sem]; try exact rfl), by simp [go_sem], _, .inr (.inl rfl), ?_⟩
    simp [this]
end La

namespace La
open Go Go.Eng Go.Proofs
set_option maxRecDepth 10000
set_option linter.unusedSimpArgs false
set_option linter.unusedVariables false

def walkN (l : List Node) : Int → List (List UInt8) → Int × Int
  | k, [] => (k, 0)
  | k, s :: r => match findN l k with
    | none => (0, 12)
    | some n => if n.dir then (match entryN n s with
      | none => (0, 6)
      | some j => walkN l j r) else (0, 8)

set_option maxHeartbeats 1000000 in
theorem walk_ok (l : List Node) (q : List (List UInt8)) (hl : Small l) (hq : q.length ≤ 100000000) : FnOK Try.prog 83 [.sl (l.map nodeRow), .sl (q.map strRow)] [] (fun r _ => r = .tup [.int .i64 (walkN l 0 q).1, .int .i64 (walkN l 0 q).2]) := by
  refine fn_of_cwW tabOK (Go.Proofs.Try.func83) rfl (fun C => ?_)
  simp only [Go.Proofs.Try.ntmps83, Go.Proofs.Try.results83, go_sem]
  refine cw_go tabOK 99 (by simp only [go_sem]; try exact rfl) (by simp [go_sem]) ?_
  refine cw_loopS (fun s : Nat × Int => s.1 ≤ q.length ∧ walkN l s.2 (q.drop s.1) = walkN l 0 q) (fun s => q.length - s.1) (fun s => [(6, .int .i64 s.2), (8, .any), (9, .any), (10, .any), (13, .int .i64 s.1), (14, .any), (15, .any), (16, .any), (17, .any), (18, .any), (19, .any), (20, .any), (21, .any), (22, .any), (23, .any), (24, .any), (25, .any), (26, .any), (27, .any), (28, .any), (29, .any), (30, .any), (31, .any), (32, .any), (33, .any), (34, .any), (35, .any), (36, .any)]) (fun _ => []) (0, 0) ⟨by simp, rfl⟩ ?_ fun s hs => ?_
  · simp only [go_sem]
    exact le_sub (by simp [go_sem]) (by simp [go_sem]) (by simp [go_sem])
  obtain ⟨i, k⟩ := s
  obtain ⟨hi, hw⟩ := hs
  simp only at hi hw
  simp only [go_sem]
  refine cw_go tabOK 99 (by simp only [go_sem]; try exact rfl) (by simp [go_sem]) ?_
  refine cw_cond (by simp only [go_sem]; try exact rfl) trivial (fun h => ?_) (fun h => ?_)
  · have hlt : i < q.length := by simp at h; omega
    have hg : (q.map strRow).getD i [] = [.str (q.getD i default)] := Fam.getD hlt
    have hd : q.drop i = q.getD i default :: q.drop (i + 1) := drop_getD hlt
    have hwi : IntKind.i64.wrap ((i : Int) + 1) = ((i + 1 : Nat) : Int) := by rw [Eng.wrap_small (by omega) (by omega)]; rfl
    generalize q.getD i default = x at hg hd
    rw [hd] at hw
    simp only [walkN] at hw
    refine cw_go tabOK 99 (by simp only [go_sem, hg]; try exact rfl) ?_ ?_
    · simp [hg, hlt]
    refine cw_call rfl rfl (by simp only [go_sem]; try exact rfl) (by simp [go_sem]) ⟨_, Go.Proofs.Try.func33, by kernel_rfl, rfl⟩ (by simp [go_sem]) (find_ok l k hl) (by simp [go_sem]) (by simp only [go_sem]; exact rfl) ?_
    have hsm := hl.find k
    simp only [go_sem, findR]
    rw [isAt_eq]
    generalize hfd : findN l k = o at hw hsm
    cases o with
    | none =>
      simp only [Option.getD_none, Option.isSome_none] at hw ⊢
      refine cw_go tabOK 99 (by simp only [go_sem, nodeRow, zeroN]; try exact rfl) ?_ ?_
      · simp [nodeRow]
      refine cw_cond (by simp only [go_sem]; try exact rfl) trivial (fun h => ?_) (fun h => ?_)
      · refine cw_go tabOK 99 (by simp only [go_sem]; try exact rfl) (by simp [go_sem]) ?_
        refine cw_ret ⟨_, _, (by simp only [go_sem]; try exact rfl), by simp [go_sem], _, .inr (.inl rfl), ?_⟩
        simp [← hw]
      · cases h
    | some n =>
      simp only [Option.getD_some, Option.isSome_some] at hw hsm ⊢
      refine cw_go tabOK 99 (by simp only [go_sem, nodeRow]; try exact rfl) ?_ ?_
      · simp [nodeRow]
      refine cw_cond (by simp only [go_sem]; try exact rfl) trivial (fun h => ?_) (fun h => ?_)
      · cases h
      refine cw_go tabOK 99 (by simp only [go_sem, nodeRow]; try exact rfl) ?_ ?_
      · simp [nodeRow]
      refine cw_cond (by simp only [go_sem]; try exact rfl) trivial (fun h => ?_) (fun h => ?_)
      · have hdir : n.dir = false := by simpa using h
        rw [hdir] at hw
        refine cw_go tabOK 99 (by simp only [go_sem]; try exact rfl) (by simp [go_sem]) ?_
        refine cw_ret ⟨_, _, (by simp only [go_sem]; try exact rfl), by simp [go_sem], _, .inr (.inl rfl), ?_⟩
        simp [← hw]
      have hdir : n.dir = true := by simpa using h
      rw [if_pos hdir] at hw
      refine cw_go tabOK 99 (by simp only [go_sem, nodeRow]; try exact rfl) ?_ ?_
      · simp [nodeRow]
      refine cw_call rfl rfl (by simp only [go_sem]; try exact rfl) (by simp [go_sem]) ⟨_, Go.Proofs.Try.func36, by kernel_rfl, rfl⟩ (by simp [go_sem]) (entry_ok n x hsm) (by simp [go_sem]) (by simp only [go_sem]; exact rfl) ?_
      cases he : entryN n x with
      | none =>
        rw [he] at hw
        simp only at hw
        simp only [go_sem, optInt]
        refine cw_go tabOK 99 (by simp only [go_sem]; try exact rfl) (by simp [go_sem]) ?_
        refine cw_cond (by simp only [go_sem]; try exact rfl) trivial (fun h => ?_) (fun h => ?_)
        · refine cw_go tabOK 99 (by simp only [go_sem]; try exact rfl) (by simp [go_sem]) ?_
          refine cw_ret ⟨_, _, (by simp only [go_sem]; try exact rfl), by simp [go_sem], _, .inr (.inl rfl), ?_⟩
          simp [← hw]
        · cases h
      | some j =>
        rw [he] at hw
        simp only at hw
        simp only [go_sem, optInt]
        refine cw_go tabOK 99 (by simp only [go_sem]; try exact rfl) (by simp [go_sem]) ?_
        refine cw_cond (by simp only [go_sem]; try exact rfl) trivial (fun h => ?_) (fun h => ?_)
        · cases h
        refine cw_go tabOK 99 (by simp only [go_sem, hwi]; try exact rfl) (by simp [go_sem, hwi]) ?_
        refine cw_back ⟨(i + 1, j), ⟨by omega, hw⟩, by simp only; omega, le_sub ?_ ?_ ?_⟩
        · simp [go_sem, hwi]
        · simp [go_sem]
        · simp [go_sem]
  · have e : i = q.length := by simp at h; omega
    rw [e, List.drop_length] at hw
    simp only [walkN] at hw
    refine cw_go tabOK 99 (by simp only [go_sem]; try exact rfl) (by simp [go_sem]) ?_
    refine cw_ret ⟨_, _, (by simp only [go_sem]; try exact rfl), by simp [go_sem], _, .inr (.inl rfl), ?_⟩
    simp [← hw]
end La

namespace La
open Go Go.Eng Go.Proofs
set_option maxRecDepth 10000
set_option linter.unusedSimpArgs false
set_option linter.unusedVariables false

/-- whether 'fid' is 'k', or in it; none: the search is too deep -/
def withinF (l : List Node) (fid : Int) : Nat → Int → Option Bool
  | 0, _ => none
  | f + 1, k => if fid = k then some true else match findN l k with
    | none => some false
    | some n => if n.entries.all (fun e => decide (e.fid = k) || (withinF l fid f e.fid).isSome) then some (n.entries.any fun e => !(decide (e.fid = k)) && (withinF l fid f e.fid).getD false) else none

set_option maxHeartbeats 1000000 in
theorem withinIs_ok (l : List Node) (fid k : Int) (e : Entry) (b : Bool) (h : e.fid ≠ k → FnOK Try.prog 84 [.sl (l.map nodeRow), .int .i64 fid, .int .i64 e.fid] [] (fun r _ => r = .bool b)) :
    FnOK Try.prog 130 [.agg (entryRow e), .rp [.int .i64 k] 0, .rp [.sl (l.map nodeRow)] 0, .rp [.int .i64 fid] 0] [] (fun r _ => r = .bool (!(decide (e.fid = k)) && b)) := by
  unfold entryRow
  refine fn_of_cwW tabOK (Go.Proofs.Try.func130) rfl (fun C => ?_)
  simp only [Go.Proofs.Try.ntmps130, Go.Proofs.Try.results130, go_sem]
  refine cw_goR 99 (by simp only [go_sem]; try exact rfl) ?_
  refine cw_runN tabOK 2 (by simp only [go_sem]; exact rfl) (by simp only [go_sem]; exact rfl) (by simp only [go_sem]; try exact rfl) (by simp [go_sem]) ?_
  refine cw_goR 99 (by simp only [go_sem]; try exact rfl) ?_
  refine cw_freeze 4 rfl (rfl) ?_
  simp only [go_sem]
  refine cw_runN tabOK 4 (by simp only [go_sem]; exact rfl) (by simp only [go_sem]; exact rfl) (by simp only [go_sem]; try exact rfl) (by simp [go_sem]) ?_
  refine cw_name 9 (by simp only [go_sem]; exact rfl) (fun c9 h9 => ?_)
  simp only [go_sem]
  cases c9 with
  | true =>
    have hne : e.fid ≠ k := by simpa using h9
    refine cw_go tabOK 99 (by simp only [go_sem]; try exact rfl) (by simp [go_sem]) ?_
    refine cw_callC rfl (by simp only [go_sem]; try exact rfl) (by simp only [go_sem]; try exact rfl) (by simp [go_sem]) ⟨_, Go.Proofs.Try.func84, by kernel_rfl, rfl⟩ (by simp [go_sem]) (fun hb => (h hne)) (by simp [go_sem]) (by simp only [go_sem]; exact rfl) ?_
    refine cw_go tabOK 99 (by simp only [go_sem]; try exact rfl) (by simp [go_sem]) ?_
    refine cw_ret ⟨_, _, (by simp only [go_sem]; try exact rfl), by simp [go_sem], _, .inr (.inl rfl), ?_⟩
    simp [hne]
  | false =>
    have hne : e.fid = k := by simpa using h9
    refine cw_go tabOK 99 (by simp only [go_sem]; try exact rfl) (by simp [go_sem]) ?_
    refine cw_pass (.bool false) rfl ?_
    simp only [go_sem]
    refine cw_go tabOK 99 (by simp only [go_sem]; try exact rfl) (by simp [go_sem]) ?_
    refine cw_ret ⟨_, _, (by simp only [go_sem]; try exact rfl), by simp [go_sem], _, .inr (.inl rfl), ?_⟩
    simp [hne]

set_option maxHeartbeats 1000000 in
theorem within_step (l : List Node) (hl : Small l) (fid : Int) (f : Nat) (ih : ∀ (k : Int) (b : Bool), withinF l fid f k = some b → FnOK Try.prog 84 [.sl (l.map nodeRow), .int .i64 fid, .int .i64 k] [] (fun r _ => r = .bool b)) (k : Int) (b : Bool) (hb : withinF l fid (f + 1) k = some b) :
    FnOK Try.prog 84 [.sl (l.map nodeRow), .int .i64 fid, .int .i64 k] [] (fun r _ => r = .bool b) := by
  unfold withinF at hb
  refine fn_of_cwW tabOK (Go.Proofs.Try.func84) rfl (fun C => ?_)
  simp only [Go.Proofs.Try.ntmps84, Go.Proofs.Try.results84, go_sem]
  refine cw_go tabOK 99 (by simp only [go_sem]; try exact rfl) (by simp [go_sem]) ?_
  refine cw_cond (by simp only [go_sem]; try exact rfl) trivial (fun h => ?_) (fun h => ?_)
  · have e : fid = k := by simpa using h
    rw [if_pos e] at hb
    refine cw_go tabOK 99 (by simp only [go_sem]; try exact rfl) (by simp [go_sem]) ?_
    refine cw_ret ⟨_, _, (by simp only [go_sem]; try exact rfl), by simp [go_sem], _, .inr (.inl rfl), ?_⟩
    simpa using hb
  have e : ¬ fid = k := by simpa using h
  rw [if_neg e] at hb
  refine cw_freeze 3 rfl (rfl) ?_
  refine cw_freeze 4 rfl (rfl) ?_
  refine cw_freeze 5 rfl (rfl) ?_
  simp only [go_sem]
  refine cw_go tabOK 99 (by simp only [go_sem]; try exact rfl) (by simp [go_sem]) ?_
  refine cw_call rfl rfl (by simp only [go_sem]; try exact rfl) (by simp [go_sem]) ⟨_, Go.Proofs.Try.func33, by kernel_rfl, rfl⟩ (by simp [go_sem]) (find_ok l k hl) (by simp [go_sem]) (by simp only [go_sem]; exact rfl) ?_
  have hsm := hl.find k
  simp only [go_sem, findR]
  rw [isAt_eq]
  generalize hfd : findN l k = o at hb hsm
  cases o with
  | none =>
    simp only [Option.getD_none, Option.isSome_none] at hb ⊢
    refine cw_go tabOK 99 (by simp only [go_sem, nodeRow, zeroN]; try exact rfl) ?_ ?_
    · simp [nodeRow]
    refine cw_cond (by simp only [go_sem]; try exact rfl) trivial (fun h => ?_) (fun h => ?_)
    · refine cw_go tabOK 99 (by simp only [go_sem]; try exact rfl) (by simp [go_sem]) ?_
      refine cw_ret ⟨_, _, (by simp only [go_sem]; try exact rfl), by simp [go_sem], _, .inr (.inl rfl), ?_⟩
      simpa using hb
    · cases h
  | some n =>
    simp only [Option.getD_some, Option.isSome_some] at hb hsm ⊢
    split at hb
    · rename_i hall
      injection hb with hb
      have hcl := entry_containsFunc n.entries hsm.entries (f := 130) (caps := [.rp [.int .i64 k] 0, .rp [.sl (l.map nodeRow)] 0, .rp [.int .i64 fid] 0]) (p := fun e => !(decide (e.fid = k)) && (withinF l fid f e.fid).getD false) ⟨_, Go.Proofs.Try.func130, by kernel_rfl, rfl⟩ rfl (fun x hx => withinIs_ok l fid k x ((withinF l fid f x.fid).getD false) (fun hne => by
        have h1 := List.all_eq_true.1 hall x hx
        simp only [hne, decide_false, Bool.false_or] at h1
        cases h2 : withinF l fid f x.fid with
        | none => rw [h2] at h1; cases h1
        | some c => exact ih x.fid c h2))
      refine cw_go tabOK 99 (by simp only [go_sem, nodeRow]; try exact rfl) ?_ ?_
      · simp [nodeRow]
      refine cw_cond (by simp only [go_sem]; try exact rfl) trivial (fun h => ?_) (fun h => ?_)
      · cases h
      refine cw_go tabOK 99 (by simp only [go_sem, nodeRow]; try exact rfl) ?_ ?_
      · simp [nodeRow]
      refine cw_call rfl rfl (by simp only [go_sem]; try exact rfl) (by simp [go_sem]) ⟨_, Go.Proofs.Try.func129, by kernel_rfl, rfl⟩ (by simp [go_sem]) (hcl) (by simp [go_sem]) (by simp only [go_sem]; exact rfl) ?_
      refine cw_go tabOK 99 (by simp only [go_sem]; try exact rfl) (by simp [go_sem]) ?_
      refine cw_ret ⟨_, _, (by simp only [go_sem]; try exact rfl), by simp [go_sem], _, .inr (.inl rfl), ?_⟩
      simpa using hb
    · cases hb

theorem within_ok (l : List Node) (hl : Small l) (fid : Int) : ∀ (f : Nat) (k : Int) (b : Bool), withinF l fid f k = some b → FnOK Try.prog 84 [.sl (l.map nodeRow), .int .i64 fid, .int .i64 k] [] (fun r _ => r = .bool b)
  | 0, _, _, h => by cases h
  | f + 1, k, b, h => within_step l hl fid f (within_ok l hl fid f) k b h

set_option maxHeartbeats 1000000 in
theorem sameIs_ok (a b : Node) (ha : a.Small) (hb : b.Small) : FnOK Try.prog 132 [.agg (nodeRow a), .agg (nodeRow b)] [] (fun r _ => r = .bool (sameN false a b)) := by
  have hla := ha.entries
  have hlb := hb.entries
  unfold nodeRow
  refine fn_of_cwW tabOK (Go.Proofs.Try.func132) rfl (fun C => ?_)
  simp only [Go.Proofs.Try.ntmps132, Go.Proofs.Try.results132, go_sem]
  refine cw_goR 99 (by simp only [go_sem]; try exact rfl) ?_
  refine cw_runN tabOK 3 (by simp only [go_sem]; exact rfl) (by simp only [go_sem]; exact rfl) (by simp only [go_sem]; try exact rfl) (by simp [go_sem]) ?_
  refine cw_goR 99 (by simp only [go_sem]; try exact rfl) ?_
  refine cw_freeze 2 rfl (rfl) ?_
  refine cw_freeze 3 rfl (rfl) ?_
  simp only [go_sem]
  refine cw_runN tabOK 5 (by simp only [go_sem]; exact rfl) (by simp only [go_sem]; exact rfl) (by simp only [go_sem]; try exact rfl) (by simp [go_sem]) ?_
  refine cw_name 9 (by simp only [go_sem]; exact rfl) (fun c9 h9 => ?_)
  simp only [go_sem]
  refine cw_runN tabOK 7 (by simp only [go_sem]; exact rfl) (by simp only [go_sem]; exact rfl) (by simp only [go_sem]; try exact rfl) (by simp [go_sem]) ?_
  refine cw_name 16 (by simp only [go_sem]; exact rfl) (fun c16 h16 => ?_)
  simp only [go_sem]
  refine cw_runN tabOK 5 (by simp only [go_sem]; exact rfl) (by simp only [go_sem]; exact rfl) (by simp only [go_sem]; try exact rfl) (by simp [go_sem]) ?_
  refine cw_callC rfl (by simp only [go_sem]; try exact rfl) (by simp only [go_sem]; try exact rfl) (by simp [go_sem]) ⟨_, Go.Proofs.Try.func133, by kernel_rfl, rfl⟩ (by simp [go_sem]) (fun hb => (bytesEqual_ok a.data b.data)) (by simp [go_sem]) (by simp only [go_sem]; exact rfl) ?_
  refine cw_runN tabOK 1 (by simp only [go_sem]; exact rfl) (by simp only [go_sem]; exact rfl) (by simp only [go_sem]; try exact rfl) (by simp [go_sem]) ?_
  refine cw_name 23 (by simp only [go_sem]; exact rfl) (fun c23 h23 => ?_)
  simp only [go_sem]
  refine cw_runN tabOK 5 (by simp only [go_sem]; exact rfl) (by simp only [go_sem]; exact rfl) (by simp only [go_sem]; try exact rfl) (by simp [go_sem]) ?_
  refine cw_callC rfl (by simp only [go_sem]; try exact rfl) (by simp only [go_sem]; try exact rfl) (by simp [go_sem]) ⟨_, Go.Proofs.Try.func134, by kernel_rfl, rfl⟩ (by simp [go_sem]) (fun hb => (entriesEqual_ok a.entries b.entries hla hlb)) (by simp [go_sem]) (by simp only [go_sem]; exact rfl) ?_
  refine cw_go tabOK 99 (by simp only [go_sem]; try exact rfl) (by simp [go_sem]) ?_
  refine cw_ret ⟨_, _, (by simp only [go_sem]; try exact rfl), by simp [go_sem], _, .inr (.inl rfl), ?_⟩
  subst h23 h16 h9
  unfold sameN
  cases (a.fid == b.fid) <;> cases (a.dir == b.dir) <;> cases (a.data == b.data) <;> cases decide (a.entries = b.entries) <;> rfl
end La

namespace La
open Go Go.Eng Go.Proofs
set_option maxRecDepth 10000
set_option linter.unusedSimpArgs false
set_option linter.unusedVariables false

open Classical in
/-- whether 'fid' is in 'k', where that ends -/
noncomputable def withinB (l : List Node) (fid k : Int) : Bool := decide (∃ f, withinF l fid f k = some true)
def toN (l : List Node) (a : Act) : Node := if a.to = a.dir then leaveN (getN l a.dir) a.name else getN l a.to
noncomputable def renameE (l : List Node) (a : Act) : Int := if namedE l a = 0 then (if dirE l a.to = 0 then (if roomE (toN l a) a.toName = 0 then (if isAt l a.fid = true then (if withinB l a.to a.fid = true then 11 else 0) else 12) else roomE (toN l a) a.toName) else dirE l a.to) else namedE l a
noncomputable def renameL (l : List Node) (a : Act) (v : Int) : List Node := if renameE l a = 0 then putN (if a.to = a.dir then l else putN l { leaveN (getN l a.dir) a.name with version := v }) { enterN (toN l a) a.toName a.fid with version := v } else l

noncomputable def applyE (l : List Node) (a : Act) : Int := if a.kind = 1 then makeE l a else if a.kind = 2 then makeE l a else if a.kind = 3 then storeE l a else if a.kind = 4 then removeE l a else if a.kind = 5 then renameE l a else 1
noncomputable def applyL (l : List Node) (a : Act) (v : Int) : List Node := if a.kind = 1 then makeL l a v else if a.kind = 2 then makeL l a v else if a.kind = 3 then storeL l a v else if a.kind = 4 then removeL l a v else if a.kind = 5 then renameL l a v else l
noncomputable def applyR (l : List Node) (a : Act) (v : Int) : AV := if applyE l a = 0 then .tup [.sl ((applyL l a v).map nodeRow), .int .i64 0] else .tup [.sl [], .int .i64 (applyE l a)]

structure FitA (l : List Node) (a : Act) : Prop where
  small : Small l
  len : l.length ≤ 99999990
  ent : ∀ n, n ∈ l → n.entries.length ≤ 99999990
  name : a.name.length ≤ 100000000
  toName : a.toName.length ≤ 100000000
  data : a.data.length ≤ 100000000


set_option maxHeartbeats 2000000 in
theorem apply_raw (l : List Node) (a : Act) (v : Int) (hf : FitA l a)
    (hren : a.kind = 5 → ∀ (G Y N : Nat → Nat), FnOK Try.prog 103 [.ptr 15 9 0 0] (dH (doerRow l a v) G Y N) (fun r H => r = .int .i64 (renameE l a) ∧ ∀ i b, hget (dH (doerRow (renameL l a v) a v) G Y N) i = some b → hget H i = some b)) :
    FnOK Try.prog 40 [.sl (l.map nodeRow), .agg (actRow a), .int .i64 v] [] (fun r _ => r = if applyE l a = 0 then .tup [.sl ((applyL l a v).map nodeRow), .int .i64 0] else .tup [.nils, .int .i64 (applyE l a)]) := by
  have hl := hf.small
  have c1 := make_ok l a v hl hf.len hf.ent hf.name
  have c3 := store_ok l a v hl hf.data
  have c4 := remove_ok l a v hl hf.len hf.name
  generalize hE : applyE l a = e
  generalize hL : applyL l a v = L
  refine fn_of_cwW tabOK (Go.Proofs.Try.func40) rfl (fun C => ?_)
  simp only [Go.Proofs.Try.ntmps40, Go.Proofs.Try.results40, go_sem]
  refine cw_go tabOK 99 (by simp only [go_sem, actRow]; try exact rfl) ?_ ?_
  · simp
  refine cw_freeze 4 rfl (rfl) ?_
  simp only [go_sem]
  refine cw_draw mixed ?_
  refine seg_start rfl ?_
  refine seg_run tabOK (by simp only [go_sem]; try exact rfl) (by simp [go_sem]) (by simp only [go_sem]; exact rfl) ?_
  refine seg_call rfl rfl (by simp only [go_sem]; try exact rfl) (by simp [go_sem]) ⟨_, Go.Proofs.Try.func86, by kernel_rfl, rfl⟩ (by simp [go_sem]) (own_ok l hl) (by simp [go_sem]) (by simp only [go_sem]; exact rfl) (by simp only [go_sem]; exact rfl) ?_
  refine seg_runN tabOK 2 (by simp only [go_sem]; exact rfl) (by simp only [go_sem]; exact rfl) (by simp only [go_sem, actRow]; try exact rfl) (by simp [go_sem, actRow]) (by simp only [go_sem]; exact rfl) ?_
  refine seg_build tabOK rfl (by simp only [go_sem]; try exact rfl) (by simp only [go_sem]; try exact rfl) (by simp [go_sem]) (by simp only [go_sem, cond_true, cond_false]; exact rfl) (by simp only [go_sem]; exact rfl) (by simp only [go_sem]; exact rfl) ?_
  refine seg_new tabOK rfl (by simp only [go_sem]; try exact rfl) (by simp only [go_sem]; try exact rfl) (by simp [go_sem]) (by simp only [go_sem]; try exact rfl) (by simp only [go_sem]; exact rfl) (by simp only [go_sem]; exact rfl) ?_
  refine seg_end (by kernel_rfl) (by simp only [go_sem]; exact rfl) ?_
  refine draw_step tabOK rfl (by kernel_rfl) rfl (by simp only [go_sem]; try exact rfl) (by simp [go_sem]) rfl ?_
  refine draw_close (by kernel_rfl) ?_
  try simp only [go_sem, List.getElem_toArray, List.getElem_cons_succ, List.getElem_cons_zero]
  refine cw_go tabOK 99 (by simp only [go_sem]; try exact rfl) (by simp [go_sem]) ?_
  refine cw_cond (by simp only [go_sem]; try exact rfl) trivial (fun h => ?_) (fun h => ?_)
  · have hk : a.kind = 1 := by simpa using h
    have q1 : makeE l a = e := by rw [← hE]; simp [applyE, hk]
    have q2 : makeL l a v = L := by rw [← hL]; simp [applyL, hk]
    rw [q1, q2] at c1
    refine cw_go tabOK 99 (by simp only [go_sem]; try exact rfl) (by simp [go_sem]) ?_
    refine cw_condT (by simp only [go_sem]; try exact rfl) trivial (by simp [hk]) ?_
    refine cw_go tabOK 99 (by simp only [go_sem]; try exact rfl) (by simp [go_sem]) ?_
    refine cw_step rfl (trip_callP rfl (by simp only [go_sem]; try exact rfl) (by simp [go_sem]) ⟨_, Go.Proofs.Try.func100, by kernel_rfl, rfl⟩ [15] (by simp only [go_sem, Bool.false_or, Bool.or_true, Bool.true_or, Bool.or_false, ↓reduceIte]; try exact rfl) (by simp [go_sem]) (by simp) (by simp [go_sem]) (by simp [go_sem]) (by simp [go_sem]) (c1) (by simp only [go_sem, Bool.false_or, Bool.or_true, Bool.true_or, Bool.or_false, ↓reduceIte]; exact rfl)) ?_
    refine cw_go tabOK 99 (by simp only [go_sem]; try exact rfl) (by simp [go_sem]) ?_
    refine cw_cond (by simp only [go_sem]; try exact rfl) trivial (fun h => ?_) (fun h => ?_)
    · have he : e ≠ 0 := by simpa using h
      refine cw_go tabOK 99 (by simp only [go_sem]; try exact rfl) (by simp [go_sem]) ?_
      refine cw_ret ⟨_, _, by simp only [go_sem]; try exact rfl, by simp [go_sem], _, .inr (.inl rfl), ?_⟩
      simp [he]
    · have he : e = 0 := by simpa using h
      refine cw_go tabOK 99 (by simp only [go_sem, doerRow]; try exact rfl) ?_ ?_
      · simp [doerRow]
      refine cw_ret ⟨_, _, by simp only [go_sem]; try exact rfl, by simp [go_sem], _, .inr (.inl rfl), ?_⟩
      simp [he]
  have hk1 : ¬ a.kind = 1 := by simpa using h
  refine cw_go tabOK 99 (by simp only [go_sem]; try exact rfl) (by simp [go_sem]) ?_
  by_cases hk2 : a.kind = 2
  · have hk : a.kind = 2 := hk2
    have q1 : makeE l a = e := by rw [← hE]; simp [applyE, hk]
    have q2 : makeL l a v = L := by rw [← hL]; simp [applyL, hk]
    rw [q1, q2] at c1
    refine cw_condT (by simp only [go_sem]; try exact rfl) trivial (by simp [hk]) ?_
    refine cw_go tabOK 99 (by simp only [go_sem]; try exact rfl) (by simp [go_sem]) ?_
    refine cw_step rfl (trip_callP rfl (by simp only [go_sem]; try exact rfl) (by simp [go_sem]) ⟨_, Go.Proofs.Try.func100, by kernel_rfl, rfl⟩ [15] (by simp only [go_sem, Bool.false_or, Bool.or_true, Bool.true_or, Bool.or_false, ↓reduceIte]; try exact rfl) (by simp [go_sem]) (by simp) (by simp [go_sem]) (by simp [go_sem]) (by simp [go_sem]) (c1) (by simp only [go_sem, Bool.false_or, Bool.or_true, Bool.true_or, Bool.or_false, ↓reduceIte]; exact rfl)) ?_
    refine cw_go tabOK 99 (by simp only [go_sem]; try exact rfl) (by simp [go_sem]) ?_
    refine cw_cond (by simp only [go_sem]; try exact rfl) trivial (fun h => ?_) (fun h => ?_)
    · have he : e ≠ 0 := by simpa using h
      refine cw_go tabOK 99 (by simp only [go_sem]; try exact rfl) (by simp [go_sem]) ?_
      refine cw_ret ⟨_, _, by simp only [go_sem]; try exact rfl, by simp [go_sem], _, .inr (.inl rfl), ?_⟩
      simp [he]
    · have he : e = 0 := by simpa using h
      refine cw_go tabOK 99 (by simp only [go_sem, doerRow]; try exact rfl) ?_ ?_
      · simp [doerRow]
      refine cw_ret ⟨_, _, by simp only [go_sem]; try exact rfl, by simp [go_sem], _, .inr (.inl rfl), ?_⟩
      simp [he]
  refine cw_condF (by simp only [go_sem]; try exact rfl) trivial (by simpa using hk2) ?_
  refine cw_go tabOK 99 (by simp only [go_sem]; try exact rfl) (by simp [go_sem]) ?_
  refine cw_cond (by simp only [go_sem]; try exact rfl) trivial (fun h => ?_) (fun h => ?_)
  · have hk : a.kind = 3 := by simpa using h
    have q1 : storeE l a = e := by rw [← hE]; simp [applyE, hk]
    have q2 : storeL l a v = L := by rw [← hL]; simp [applyL, hk]
    rw [q1, q2] at c3
    refine cw_go tabOK 99 (by simp only [go_sem]; try exact rfl) (by simp [go_sem]) ?_
    refine cw_step rfl (trip_callP rfl (by simp only [go_sem]; try exact rfl) (by simp [go_sem]) ⟨_, Go.Proofs.Try.func101, by kernel_rfl, rfl⟩ [15] (by simp only [go_sem, Bool.false_or, Bool.or_true, Bool.true_or, Bool.or_false, ↓reduceIte]; try exact rfl) (by simp [go_sem]) (by simp) (by simp [go_sem]) (by simp [go_sem]) (by simp [go_sem]) (c3) (by simp only [go_sem, Bool.false_or, Bool.or_true, Bool.true_or, Bool.or_false, ↓reduceIte]; exact rfl)) ?_
    refine cw_go tabOK 99 (by simp only [go_sem]; try exact rfl) (by simp [go_sem]) ?_
    refine cw_cond (by simp only [go_sem]; try exact rfl) trivial (fun h => ?_) (fun h => ?_)
    · have he : e ≠ 0 := by simpa using h
      refine cw_go tabOK 99 (by simp only [go_sem]; try exact rfl) (by simp [go_sem]) ?_
      refine cw_ret ⟨_, _, by simp only [go_sem]; try exact rfl, by simp [go_sem], _, .inr (.inl rfl), ?_⟩
      simp [he]
    · have he : e = 0 := by simpa using h
      refine cw_go tabOK 99 (by simp only [go_sem, doerRow]; try exact rfl) ?_ ?_
      · simp [doerRow]
      refine cw_ret ⟨_, _, by simp only [go_sem]; try exact rfl, by simp [go_sem], _, .inr (.inl rfl), ?_⟩
      simp [he]
  have hk3 : ¬ a.kind = 3 := by simpa using h
  refine cw_go tabOK 99 (by simp only [go_sem]; try exact rfl) (by simp [go_sem]) ?_
  refine cw_cond (by simp only [go_sem]; try exact rfl) trivial (fun h => ?_) (fun h => ?_)
  · have hk : a.kind = 4 := by simpa using h
    have q1 : removeE l a = e := by rw [← hE]; simp [applyE, hk]
    have q2 : removeL l a v = L := by rw [← hL]; simp [applyL, hk]
    rw [q1, q2] at c4
    refine cw_go tabOK 99 (by simp only [go_sem]; try exact rfl) (by simp [go_sem]) ?_
    refine cw_step rfl (trip_callP rfl (by simp only [go_sem]; try exact rfl) (by simp [go_sem]) ⟨_, Go.Proofs.Try.func102, by kernel_rfl, rfl⟩ [15] (by simp only [go_sem, Bool.false_or, Bool.or_true, Bool.true_or, Bool.or_false, ↓reduceIte]; try exact rfl) (by simp [go_sem]) (by simp) (by simp [go_sem]) (by simp [go_sem]) (by simp [go_sem]) (c4) (by simp only [go_sem, Bool.false_or, Bool.or_true, Bool.true_or, Bool.or_false, ↓reduceIte]; exact rfl)) ?_
    refine cw_go tabOK 99 (by simp only [go_sem]; try exact rfl) (by simp [go_sem]) ?_
    refine cw_cond (by simp only [go_sem]; try exact rfl) trivial (fun h => ?_) (fun h => ?_)
    · have he : e ≠ 0 := by simpa using h
      refine cw_go tabOK 99 (by simp only [go_sem]; try exact rfl) (by simp [go_sem]) ?_
      refine cw_ret ⟨_, _, by simp only [go_sem]; try exact rfl, by simp [go_sem], _, .inr (.inl rfl), ?_⟩
      simp [he]
    · have he : e = 0 := by simpa using h
      refine cw_go tabOK 99 (by simp only [go_sem, doerRow]; try exact rfl) ?_ ?_
      · simp [doerRow]
      refine cw_ret ⟨_, _, by simp only [go_sem]; try exact rfl, by simp [go_sem], _, .inr (.inl rfl), ?_⟩
      simp [he]
  have hk4 : ¬ a.kind = 4 := by simpa using h
  refine cw_go tabOK 99 (by simp only [go_sem]; try exact rfl) (by simp [go_sem]) ?_
  refine cw_cond (by simp only [go_sem]; try exact rfl) trivial (fun h => ?_) (fun h => ?_)
  · have hk : a.kind = 5 := by simpa using h
    have c5 := hren hk
    have q1 : renameE l a = e := by rw [← hE]; simp [applyE, hk]
    have q2 : renameL l a v = L := by rw [← hL]; simp [applyL, hk]
    rw [q1, q2] at c5
    refine cw_go tabOK 99 (by simp only [go_sem]; try exact rfl) (by simp [go_sem]) ?_
    refine cw_step rfl (trip_callP rfl (by simp only [go_sem]; try exact rfl) (by simp [go_sem]) ⟨_, Go.Proofs.Try.func103, by kernel_rfl, rfl⟩ [15] (by simp only [go_sem, Bool.false_or, Bool.or_true, Bool.true_or, Bool.or_false, ↓reduceIte]; try exact rfl) (by simp [go_sem]) (by simp) (by simp [go_sem]) (by simp [go_sem]) (by simp [go_sem]) (c5) (by simp only [go_sem, Bool.false_or, Bool.or_true, Bool.true_or, Bool.or_false, ↓reduceIte]; exact rfl)) ?_
    refine cw_go tabOK 99 (by simp only [go_sem]; try exact rfl) (by simp [go_sem]) ?_
    refine cw_cond (by simp only [go_sem]; try exact rfl) trivial (fun h => ?_) (fun h => ?_)
    · have he : e ≠ 0 := by simpa using h
      refine cw_go tabOK 99 (by simp only [go_sem]; try exact rfl) (by simp [go_sem]) ?_
      refine cw_ret ⟨_, _, by simp only [go_sem]; try exact rfl, by simp [go_sem], _, .inr (.inl rfl), ?_⟩
      simp [he]
    · have he : e = 0 := by simpa using h
      refine cw_go tabOK 99 (by simp only [go_sem, doerRow]; try exact rfl) ?_ ?_
      · simp [doerRow]
      refine cw_ret ⟨_, _, by simp only [go_sem]; try exact rfl, by simp [go_sem], _, .inr (.inl rfl), ?_⟩
      simp [he]
  have hk5 : ¬ a.kind = 5 := by simpa using h
  have q1 : e = 1 := by rw [← hE]; simp [applyE, hk1, hk2, hk3, hk4, hk5]
  subst q1
  refine cw_go tabOK 99 (by simp only [go_sem]; try exact rfl) (by simp [go_sem]) ?_
  refine cw_condT (by simp only [go_sem]; try exact rfl) trivial (by simp) ?_
  refine cw_go tabOK 99 (by simp only [go_sem]; try exact rfl) (by simp [go_sem]) ?_
  refine cw_ret ⟨_, _, (by simp only [go_sem]; try exact rfl), by simp [go_sem], _, .inr (.inl rfl), ?_⟩
  simp

theorem apply_ok (l : List Node) (a : Act) (v : Int) (hf : FitA l a)
    (hren : a.kind = 5 → ∀ (G Y N : Nat → Nat), FnOK Try.prog 103 [.ptr 15 9 0 0] (dH (doerRow l a v) G Y N) (fun r H => r = .int .i64 (renameE l a) ∧ ∀ i b, hget (dH (doerRow (renameL l a v) a v) G Y N) i = some b → hget H i = some b)) :
    FnOK Try.prog 40 [.sl (l.map nodeRow), .agg (actRow a), .int .i64 v] [] (fun r _ => r = applyR l a v) := by
  refine FnOK.nrmR (apply_raw l a v hf hren) ?_
  unfold applyR
  split
  · have h1 : nrmR ((applyL l a v).map nodeRow) = (applyL l a v).map nodeRow := by
      rw [nrmR_map, List.map_map]
      exact List.map_congr_left fun n _ => nrm_nodeRow n
    simp only [nrm, nrmL, h1]
  · rfl
end La

namespace La
open Go Go.Eng Go.Proofs
set_option maxRecDepth 10000
set_option linter.unusedSimpArgs false
set_option linter.unusedVariables false

theorem withinF_step (l : List Node) (fid : Int) : ∀ (f : Nat) (k : Int) (b : Bool), withinF l fid f k = some b → withinF l fid (f + 1) k = some b
  | 0, _, _, h => by cases h
  | f + 1, k, b, h => by
    rw [withinF] at h ⊢
    by_cases hk : fid = k
    · rw [if_pos hk] at h ⊢; exact h
    · rw [if_neg hk] at h ⊢
      cases e : findN l k with
      | none => rw [e] at h; exact h
      | some n =>
        rw [e] at h
        simp only at h ⊢
        split at h
        · rename_i hall
          injection h with h
          have key : ∀ x, x ∈ n.entries → decide (x.fid = k) = false → withinF l fid (f + 1) x.fid = withinF l fid f x.fid := fun x hx hne => by
            have h1 := List.all_eq_true.1 hall x hx
            rw [hne, Bool.false_or] at h1
            cases h2 : withinF l fid f x.fid with
            | none => rw [h2] at h1; cases h1
            | some c => exact withinF_step l fid f x.fid c h2
          rw [if_pos (List.all_eq_true.2 fun x hx => by
            cases hne : decide (x.fid = k) with
            | true => rfl
            | false => rw [key x hx hne, ← hne]; exact List.all_eq_true.1 hall x hx), ← h]
          congr 1
          rw [Bool.eq_iff_iff, List.any_eq_true, List.any_eq_true]
          constructor
          · rintro ⟨x, hx, h3⟩
            refine ⟨x, hx, ?_⟩
            cases hne : decide (x.fid = k) with
            | true => rw [hne] at h3; exact h3
            | false => rw [key x hx hne, hne] at h3; exact h3
          · rintro ⟨x, hx, h3⟩
            refine ⟨x, hx, ?_⟩
            cases hne : decide (x.fid = k) with
            | true => rw [hne] at h3; exact h3
            | false => rw [hne] at h3; rw [key x hx hne]; exact h3
        · cases h
theorem withinF_le {l : List Node} {fid k : Int} {b : Bool} {f g : Nat} (hfg : f ≤ g) (h : withinF l fid f k = some b) : withinF l fid g k = some b := by
  obtain ⟨d, rfl⟩ := Nat.exists_eq_add_of_le hfg
  clear hfg
  induction d with
  | zero => exact h
  | succ d ih => exact withinF_step l fid _ k b ih
open Classical in
theorem withinB_of {l : List Node} {fid k : Int} {b : Bool} {f : Nat} (h : withinF l fid f k = some b) : withinB l fid k = b := by
  unfold withinB
  cases b with
  | true => exact decide_eq_true ⟨f, h⟩
  | false =>
    refine decide_eq_false ?_
    rintro ⟨g, hg⟩
    rcases Nat.le_total f g with hle | hle
    · rw [withinF_le hle h] at hg; cases hg
    · rw [withinF_le hle hg] at h; cases h

theorem getN_small {l : List Node} (hl : Small l) (k : Int) : (getN l k).Small := hl.find k

set_option maxHeartbeats 4000000 in
theorem rename_ok (l : List Node) (a : Act) (v : Int) (hf : FitA l a) (f : Nat) (hw : withinF l a.to f a.fid = some (withinB l a.to a.fid)) (G Y N : Nat → Nat) : FnOK Try.prog 103 [.ptr 15 9 0 0] (dH (doerRow l a v) G Y N)
    (fun r H => r = .int .i64 (renameE l a) ∧ ∀ i b, hget (dH (doerRow (renameL l a v) a v) G Y N) i = some b → hget H i = some b) := by
  have hl := hf.small
  have hlen := hf.len
  have hmE : renameL l a v = if renameE l a = 0 then putN (if a.to = a.dir then l else putN l { leaveN (getN l a.dir) a.name with version := v }) { enterN (toN l a) a.toName a.fid with version := v } else l := rfl
  rw [hmE]
  unfold renameE
  have hwi := within_ok l hl a.to f a.fid _ hw
  generalize withinB l a.to a.fid = wb at hwi
  have hsn := getN_small hl a.dir
  have hst := getN_small hl a.to
  have hent : ∀ k, (getN l k).entries.length ≤ 99999990 := fun k => by
    unfold getN
    cases e : findN l k with
    | none => simp [zeroN]
    | some n => exact hf.ent n (findN_mem e)
  have hlv := leave_ok (getN l a.dir) a.name hsn
  have hls := leaveN_small hsn a.name
  have hto : (toN l a).Small := by unfold toN; split; exact hls; exact hst
  have htoe : (toN l a).entries.length ≤ 99999990 := by
    unfold toN
    split
    · have h1 := List.length_filter_le (fun e : Entry => !(e.name == a.name)) (getN l a.dir).entries
      have h2 := hent a.dir
      have h3 : (leaveN (getN l a.dir) a.name).entries.length ≤ (getN l a.dir).entries.length := h1
      omega
    · exact hent a.to
  have hroom := room_ok (toN l a) a.toName hto hf.toName
  have hent2 := enter_ok (toN l a) a.toName a.fid hto
  have hens := enterN_small hto a.toName a.fid (by omega)
  have hp1 := put_in l a v (leaveN (getN l a.dir) a.name) hl hls
  have hl1 : Small (if a.to = a.dir then l else putN l { leaveN (getN l a.dir) a.name with version := v }) := by
    split
    · exact hl
    · exact putN_small hl ⟨hls.data, hls.entries⟩ (by omega)
  have hp2 := put_in (if a.to = a.dir then l else putN l { leaveN (getN l a.dir) a.name with version := v }) a v (enterN (toN l a) a.toName a.fid) hl1 hens
  have hT : toN l a = if a.to = a.dir then leaveN (getN l a.dir) a.name else getN l a.to := rfl
  unfold dH
  refine fn_of_cwW tabOK (Go.Proofs.Try.func103) rfl (fun C => ?_)
  simp only [Go.Proofs.Try.ntmps103, Go.Proofs.Try.results103, go_sem]
  refine cw_go tabOK 99 (by simp only [go_sem]; try exact rfl) (by simp [go_sem]) ?_
  refine cw_step rfl (trip_callP rfl (by simp only [go_sem]; try exact rfl) (by simp [go_sem]) ⟨_, Go.Proofs.Try.func148, by kernel_rfl, rfl⟩ [15] (by simp only [go_sem, Bool.false_or, Bool.or_true, Bool.true_or, Bool.or_false, ↓reduceIte]; try exact rfl) (by simp [go_sem]) (by simp) (by simp [go_sem]) (by simp [go_sem]) (by simp [go_sem]) (named_ok l a v hl hf.name) (by simp only [go_sem, Bool.false_or, Bool.or_true, Bool.true_or, Bool.or_false, ↓reduceIte]; exact rfl)) ?_
  generalize putN (if a.to = a.dir then l else putN l { leaveN (getN l a.dir) a.name with version := v }) { enterN (toN l a) a.toName a.fid with version := v } = l2 at hp2
  generalize enterN (toN l a) a.toName a.fid = en at hent2 hp2
  generalize toN l a = T at *
  generalize leaveN (getN l a.dir) a.name = lv at *
  generalize getN l a.dir = n at *
  generalize hge : namedE l a = e
  refine cw_go tabOK 99 (by simp only [go_sem, nodeRow]; try exact rfl) ?_ ?_
  · simp [nodeRow]
  refine cw_cond (by simp only [go_sem]; try exact rfl) trivial (fun h => ?_) (fun h => ?_)
  · have he : e ≠ 0 := by simpa using h
    refine cw_go tabOK 99 (by simp only [go_sem]; try exact rfl) (by simp [go_sem]) ?_
    refine cw_ret ⟨_, _, by simp only [go_sem]; try exact rfl, by simp [go_sem], _, .inr (.inl rfl), ?_, hold2 ?_ ?_⟩
    · simp [he]
    · simp [go_sem, doerRow, he]
    · simp [go_sem]
  have he : e = 0 := by simpa using h
  subst he
  simp only [if_true]
  refine cw_go tabOK 99 (by simp only [go_sem, doerRow]; try exact rfl) ?_ ?_
  · simp [doerRow]
  refine cw_step rfl (trip_callP rfl (by simp only [go_sem]; try exact rfl) (by simp [go_sem]) ⟨_, Go.Proofs.Try.func145, by kernel_rfl, rfl⟩ [15] (by simp only [go_sem, Bool.false_or, Bool.or_true, Bool.true_or, Bool.or_false, ↓reduceIte]; try exact rfl) (by simp [go_sem]) (by simp) (by simp [go_sem]) (by simp [go_sem]) (by simp [go_sem]) (dir_ok l a v a.to hl) (by simp only [go_sem, Bool.false_or, Bool.or_true, Bool.true_or, Bool.or_false, ↓reduceIte]; exact rfl)) ?_
  generalize getN l a.to = m at *
  generalize hgd : dirE l a.to = e
  refine cw_go tabOK 99 (by simp only [go_sem, nodeRow]; try exact rfl) ?_ ?_
  · simp [nodeRow]
  refine cw_cond (by simp only [go_sem]; try exact rfl) trivial (fun h => ?_) (fun h => ?_)
  · have he : e ≠ 0 := by simpa using h
    refine cw_go tabOK 99 (by simp only [go_sem]; try exact rfl) (by simp [go_sem]) ?_
    refine cw_ret ⟨_, _, by simp only [go_sem]; try exact rfl, by simp [go_sem], _, .inr (.inl rfl), ?_, hold2 ?_ ?_⟩
    · simp [he]
    · simp [go_sem, doerRow, he]
    · simp [go_sem]
  have he : e = 0 := by simpa using h
  subst he
  simp only [if_true]
  refine cw_go tabOK 99 (by simp only [go_sem]; try exact rfl) (by simp [go_sem]) ?_
  refine cw_draw mixed ?_
  refine seg_start rfl ?_
  refine seg_runN tabOK 11 (by simp only [go_sem]; exact rfl) (by simp only [go_sem]; exact rfl) (by simp only [go_sem, doerRow]; try exact rfl) ?_ (by simp only [go_sem]; exact rfl) ?_
  · simp [doerRow]
  refine seg_end (by kernel_rfl) (by simp only [go_sem]; exact rfl) ?_
  refine draw_close (by kernel_rfl) ?_
  try simp only [go_sem, List.getElem_toArray, List.getElem_cons_succ, List.getElem_cons_zero]
  refine cw_cond (by simp only [go_sem]; try exact rfl) trivial (fun h => ?_) (fun h => ?_)
  · have htd : a.to = a.dir := by simpa using h
    simp only [htd, if_true] at hT hp2
    subst hT
    refine cw_go tabOK 99 (by simp only [go_sem]; try exact rfl) (by simp [go_sem]) ?_
    refine cw_draw mixed ?_
    refine seg_start rfl ?_
    refine seg_runN tabOK 6 (by simp only [go_sem]; exact rfl) (by simp only [go_sem]; exact rfl) (by simp only [go_sem, doerRow, nodeRow]; try exact rfl) ?_ (by simp only [go_sem]; exact rfl) ?_
    · simp [doerRow, nodeRow]
    refine seg_call rfl rfl (by simp only [go_sem]; try exact rfl) (by simp [go_sem]) ⟨_, Go.Proofs.Try.func38, by kernel_rfl, rfl⟩ (by simp [go_sem]) (hlv) (by simp [go_sem]) (by simp only [go_sem]; exact rfl) (by simp only [go_sem]; exact rfl) ?_
    refine seg_end (by kernel_rfl) (by simp only [go_sem]; exact rfl) ?_
    refine draw_step tabOK rfl (by kernel_rfl) rfl (by simp only [go_sem]; try exact rfl) ?_ rfl ?_
    · simp [go_sem, nodeRow]
    refine draw_close (by kernel_rfl) ?_
    try simp only [go_sem, List.getElem_toArray, List.getElem_cons_succ, List.getElem_cons_zero]
    refine cw_go tabOK 99 (by simp only [go_sem]; try exact rfl) (by simp [go_sem]) ?_
    refine cw_draw mixed ?_
    refine seg_start rfl ?_
    refine seg_runN tabOK 6 (by simp only [go_sem]; exact rfl) (by simp only [go_sem]; exact rfl) (by simp only [go_sem, doerRow, nodeRow]; try exact rfl) ?_ (by simp only [go_sem]; exact rfl) ?_
    · simp [doerRow, nodeRow]
    refine seg_call rfl rfl (by simp only [go_sem]; try exact rfl) (by simp [go_sem]) ⟨_, Go.Proofs.Try.func146, by kernel_rfl, rfl⟩ (by simp [go_sem]) (hroom) (by simp [go_sem]) (by simp only [go_sem]; exact rfl) (by simp only [go_sem]; exact rfl) ?_
    refine seg_end (by kernel_rfl) (by simp only [go_sem]; exact rfl) ?_
    refine draw_step tabOK rfl (by kernel_rfl) rfl (by simp only [go_sem]; try exact rfl) (by simp [go_sem]) rfl ?_
    refine draw_close (by kernel_rfl) ?_
    try simp only [go_sem, List.getElem_toArray, List.getElem_cons_succ, List.getElem_cons_zero]
    generalize hgr : roomE T a.toName = e
    refine cw_go tabOK 99 (by simp only [go_sem]; try exact rfl) (by simp [go_sem]) ?_
    refine cw_cond (by simp only [go_sem]; try exact rfl) trivial (fun h => ?_) (fun h => ?_)
    · have he : e ≠ 0 := by simpa using h
      refine cw_go tabOK 99 (by simp only [go_sem]; try exact rfl) (by simp [go_sem]) ?_
      refine cw_ret ⟨_, _, by simp only [go_sem]; try exact rfl, by simp [go_sem], _, .inr (.inl rfl), ?_, hold2 ?_ ?_⟩
      · simp [he]
      · simp [go_sem, doerRow, he]
      · simp [go_sem]
    have he : e = 0 := by simpa using h
    subst he
    simp only [if_true]
    refine cw_go tabOK 99 (by simp only [go_sem]; try exact rfl) (by simp [go_sem]) ?_
    refine cw_draw mixed ?_
    refine seg_start rfl ?_
    refine seg_runN tabOK 9 (by simp only [go_sem]; exact rfl) (by simp only [go_sem]; exact rfl) (by simp only [go_sem, doerRow]; try exact rfl) ?_ (by simp only [go_sem]; exact rfl) ?_
    · simp [doerRow]
    refine seg_call rfl rfl (by simp only [go_sem]; try exact rfl) (by simp [go_sem]) ⟨_, Go.Proofs.Try.func33, by kernel_rfl, rfl⟩ (by simp [go_sem]) (find_ok l a.fid hl) (by simp [go_sem]) (by simp only [go_sem]; exact rfl) (by simp only [go_sem]; exact rfl) ?_
    simp only [go_sem, findR]
    generalize hgx : (findN l a.fid).getD zeroN = x
    generalize hga : isAt l a.fid = ia
    refine seg_run tabOK (by simp only [go_sem]; try exact rfl) (by simp [go_sem]) (by simp only [go_sem]; exact rfl) ?_
    refine seg_new tabOK rfl (by simp only [go_sem]; try exact rfl) (by simp only [go_sem]; try exact rfl) (by simp [go_sem]) (by simp only [go_sem]; try exact rfl) (by simp only [go_sem]; exact rfl) (by simp only [go_sem]; exact rfl) ?_
    simp only [go_sem, nodeRow]
    refine seg_store tabOK rfl rfl (by simp only [go_sem]; try exact rfl) (by simp only [go_sem]; try exact rfl) (by simp only [go_sem]; try exact rfl) (by first | trivial | simp [go_sem]) (by simp only [go_sem]; exact rfl) (by simp [go_sem]) (by simp only [go_sem]; exact rfl) (by simp only [go_sem]; exact rfl) (by simp only [go_sem]; exact rfl) ?_
    refine seg_end (by kernel_rfl) (by simp only [go_sem]; exact rfl) ?_
    refine draw_step tabOK rfl (by kernel_rfl) rfl (by simp only [go_sem]; try exact rfl) (by simp [go_sem]) rfl ?_
    refine draw_close (by kernel_rfl) ?_
    try simp only [go_sem, List.getElem_toArray, List.getElem_cons_succ, List.getElem_cons_zero]
    refine cw_go tabOK 99 (by simp only [go_sem]; try exact rfl) (by simp [go_sem]) ?_
    refine cw_cond (by simp only [go_sem]; try exact rfl) trivial (fun h => ?_) (fun h => ?_)
    · have h0 : ia = false := by simpa using h
      subst h0
      refine cw_go tabOK 99 (by simp only [go_sem]; try exact rfl) (by simp [go_sem]) ?_
      refine cw_ret ⟨_, _, by simp only [go_sem]; try exact rfl, by simp [go_sem], _, .inr (.inl rfl), ?_, hold2 ?_ ?_⟩
      · simp
      · simp [go_sem, doerRow]
      · simp [go_sem]
    have h0 : ia = true := by simpa using h
    subst h0
    simp only [if_true]
    refine cw_go tabOK 99 (by simp only [go_sem]; try exact rfl) (by simp [go_sem]) ?_
    refine cw_draw mixed ?_
    refine seg_start rfl ?_
    refine seg_runN tabOK 14 (by simp only [go_sem]; exact rfl) (by simp only [go_sem]; exact rfl) (by simp only [go_sem, doerRow]; try exact rfl) ?_ (by simp only [go_sem]; exact rfl) ?_
    · simp [doerRow]
    refine seg_call rfl rfl (by simp only [go_sem]; try exact rfl) (by simp [go_sem]) ⟨_, Go.Proofs.Try.func84, by kernel_rfl, rfl⟩ (by simp [go_sem]) (hwi) (by simp [go_sem]) (by simp only [go_sem]; exact rfl) (by simp only [go_sem]; exact rfl) ?_
    refine seg_end (by kernel_rfl) (by simp only [go_sem]; exact rfl) ?_
    refine draw_close (by kernel_rfl) ?_
    try simp only [go_sem, List.getElem_toArray, List.getElem_cons_succ, List.getElem_cons_zero]
    refine cw_cond (by simp only [go_sem]; try exact rfl) trivial (fun h => ?_) (fun h => ?_)
    · have h0 : wb = true := by simpa using h
      subst h0
      refine cw_go tabOK 99 (by simp only [go_sem]; try exact rfl) (by simp [go_sem]) ?_
      refine cw_ret ⟨_, _, by simp only [go_sem]; try exact rfl, by simp [go_sem], _, .inr (.inl rfl), ?_, hold2 ?_ ?_⟩
      · simp
      · simp [go_sem, doerRow]
      · simp [go_sem]
    have h0 : wb = false := by simpa using h
    subst h0
    simp only [Bool.false_eq_true, if_false, if_true]
    refine cw_go tabOK 99 (by simp only [go_sem]; try exact rfl) (by simp [go_sem]) ?_
    refine cw_draw mixed ?_
    refine seg_start rfl ?_
    refine seg_runN tabOK 11 (by simp only [go_sem]; exact rfl) (by simp only [go_sem]; exact rfl) (by simp only [go_sem, doerRow]; try exact rfl) ?_ (by simp only [go_sem]; exact rfl) ?_
    · simp [doerRow]
    refine seg_end (by kernel_rfl) (by simp only [go_sem]; exact rfl) ?_
    refine draw_close (by kernel_rfl) ?_
    try simp only [go_sem, List.getElem_toArray, List.getElem_cons_succ, List.getElem_cons_zero]
    refine cw_condF (by simp only [go_sem]; try exact rfl) trivial (by simp [htd]) ?_
    refine cw_go tabOK 99 (by simp only [go_sem]; try exact rfl) (by simp [go_sem]) ?_
    refine cw_draw mixed ?_
    refine seg_start rfl ?_
    refine seg_runN tabOK 12 (by simp only [go_sem]; exact rfl) (by simp only [go_sem]; exact rfl) (by simp only [go_sem, doerRow, nodeRow]; try exact rfl) ?_ (by simp only [go_sem]; exact rfl) ?_
    · simp [doerRow, nodeRow]
    refine seg_call rfl rfl (by simp only [go_sem]; try exact rfl) (by simp [go_sem]) ⟨_, Go.Proofs.Try.func37, by kernel_rfl, rfl⟩ (by simp [go_sem]) (hent2) (by simp [go_sem]) (by simp only [go_sem]; exact rfl) (by simp only [go_sem]; exact rfl) ?_
    refine seg_end (by kernel_rfl) (by simp only [go_sem]; exact rfl) ?_
    refine draw_trip rfl (by kernel_rfl) rfl (trip_callP rfl (by simp only [go_sem]; try exact rfl) (by simp [go_sem]) ⟨_, Go.Proofs.Try.func147, by kernel_rfl, rfl⟩ [15] (by simp only [go_sem, Bool.false_or, Bool.or_true, Bool.true_or, Bool.or_false, ↓reduceIte]; try exact rfl) (by simp [go_sem]) (by simp) (by simp [go_sem]) (by simp [go_sem]) (by simp [go_sem]) (hp2) (by simp only [go_sem, Bool.false_or, Bool.or_true, Bool.true_or, Bool.or_false, ↓reduceIte]; exact rfl)) rfl ?_
    refine draw_close (by kernel_rfl) ?_
    try simp only [go_sem, List.getElem_toArray, List.getElem_cons_succ, List.getElem_cons_zero]
    refine cw_go tabOK 99 (by simp only [go_sem]; try exact rfl) (by simp [go_sem]) ?_
    refine cw_ret ⟨_, _, by simp only [go_sem]; try exact rfl, by simp [go_sem], _, .inr (.inl rfl), ?_, hold2 ?_ ?_⟩
    · simp
    · simp [go_sem, doerRow]
    · simp [go_sem]
  · have htd : ¬ a.to = a.dir := by simpa using h
    simp only [htd, if_false] at hT hp2
    subst hT
    generalize putN l { lv with version := v } = l1 at *
    refine cw_go tabOK 99 (by simp only [go_sem]; try exact rfl) (by simp [go_sem]) ?_
    refine cw_draw mixed ?_
    refine seg_start rfl ?_
    refine seg_runN tabOK 6 (by simp only [go_sem]; exact rfl) (by simp only [go_sem]; exact rfl) (by simp only [go_sem, doerRow, nodeRow]; try exact rfl) ?_ (by simp only [go_sem]; exact rfl) ?_
    · simp [doerRow, nodeRow]
    refine seg_call rfl rfl (by simp only [go_sem]; try exact rfl) (by simp [go_sem]) ⟨_, Go.Proofs.Try.func146, by kernel_rfl, rfl⟩ (by simp [go_sem]) (hroom) (by simp [go_sem]) (by simp only [go_sem]; exact rfl) (by simp only [go_sem]; exact rfl) ?_
    refine seg_end (by kernel_rfl) (by simp only [go_sem]; exact rfl) ?_
    refine draw_step tabOK rfl (by kernel_rfl) rfl (by simp only [go_sem]; try exact rfl) (by simp [go_sem]) rfl ?_
    refine draw_close (by kernel_rfl) ?_
    try simp only [go_sem, List.getElem_toArray, List.getElem_cons_succ, List.getElem_cons_zero]
    generalize hgr : roomE T a.toName = e
    refine cw_go tabOK 99 (by simp only [go_sem]; try exact rfl) (by simp [go_sem]) ?_
    refine cw_cond (by simp only [go_sem]; try exact rfl) trivial (fun h => ?_) (fun h => ?_)
    · have he : e ≠ 0 := by simpa using h
      refine cw_go tabOK 99 (by simp only [go_sem]; try exact rfl) (by simp [go_sem]) ?_
      refine cw_ret ⟨_, _, by simp only [go_sem]; try exact rfl, by simp [go_sem], _, .inr (.inl rfl), ?_, hold2 ?_ ?_⟩
      · simp [he]
      · simp [go_sem, doerRow, he]
      · simp [go_sem]
    have he : e = 0 := by simpa using h
    subst he
    simp only [if_true]
    refine cw_go tabOK 99 (by simp only [go_sem]; try exact rfl) (by simp [go_sem]) ?_
    refine cw_draw mixed ?_
    refine seg_start rfl ?_
    refine seg_runN tabOK 9 (by simp only [go_sem]; exact rfl) (by simp only [go_sem]; exact rfl) (by simp only [go_sem, doerRow]; try exact rfl) ?_ (by simp only [go_sem]; exact rfl) ?_
    · simp [doerRow]
    refine seg_call rfl rfl (by simp only [go_sem]; try exact rfl) (by simp [go_sem]) ⟨_, Go.Proofs.Try.func33, by kernel_rfl, rfl⟩ (by simp [go_sem]) (find_ok l a.fid hl) (by simp [go_sem]) (by simp only [go_sem]; exact rfl) (by simp only [go_sem]; exact rfl) ?_
    simp only [go_sem, findR]
    generalize hgx : (findN l a.fid).getD zeroN = x
    generalize hga : isAt l a.fid = ia
    refine seg_run tabOK (by simp only [go_sem]; try exact rfl) (by simp [go_sem]) (by simp only [go_sem]; exact rfl) ?_
    refine seg_new tabOK rfl (by simp only [go_sem]; try exact rfl) (by simp only [go_sem]; try exact rfl) (by simp [go_sem]) (by simp only [go_sem]; try exact rfl) (by simp only [go_sem]; exact rfl) (by simp only [go_sem]; exact rfl) ?_
    simp only [go_sem, nodeRow]
    refine seg_store tabOK rfl rfl (by simp only [go_sem]; try exact rfl) (by simp only [go_sem]; try exact rfl) (by simp only [go_sem]; try exact rfl) (by first | trivial | simp [go_sem]) (by simp only [go_sem]; exact rfl) (by simp [go_sem]) (by simp only [go_sem]; exact rfl) (by simp only [go_sem]; exact rfl) (by simp only [go_sem]; exact rfl) ?_
    refine seg_end (by kernel_rfl) (by simp only [go_sem]; exact rfl) ?_
    refine draw_step tabOK rfl (by kernel_rfl) rfl (by simp only [go_sem]; try exact rfl) (by simp [go_sem]) rfl ?_
    refine draw_close (by kernel_rfl) ?_
    try simp only [go_sem, List.getElem_toArray, List.getElem_cons_succ, List.getElem_cons_zero]
    refine cw_go tabOK 99 (by simp only [go_sem]; try exact rfl) (by simp [go_sem]) ?_
    refine cw_cond (by simp only [go_sem]; try exact rfl) trivial (fun h => ?_) (fun h => ?_)
    · have h0 : ia = false := by simpa using h
      subst h0
      refine cw_go tabOK 99 (by simp only [go_sem]; try exact rfl) (by simp [go_sem]) ?_
      refine cw_ret ⟨_, _, by simp only [go_sem]; try exact rfl, by simp [go_sem], _, .inr (.inl rfl), ?_, hold2 ?_ ?_⟩
      · simp
      · simp [go_sem, doerRow]
      · simp [go_sem]
    have h0 : ia = true := by simpa using h
    subst h0
    simp only [if_true]
    refine cw_go tabOK 99 (by simp only [go_sem]; try exact rfl) (by simp [go_sem]) ?_
    refine cw_draw mixed ?_
    refine seg_start rfl ?_
    refine seg_runN tabOK 14 (by simp only [go_sem]; exact rfl) (by simp only [go_sem]; exact rfl) (by simp only [go_sem, doerRow]; try exact rfl) ?_ (by simp only [go_sem]; exact rfl) ?_
    · simp [doerRow]
    refine seg_call rfl rfl (by simp only [go_sem]; try exact rfl) (by simp [go_sem]) ⟨_, Go.Proofs.Try.func84, by kernel_rfl, rfl⟩ (by simp [go_sem]) (hwi) (by simp [go_sem]) (by simp only [go_sem]; exact rfl) (by simp only [go_sem]; exact rfl) ?_
    refine seg_end (by kernel_rfl) (by simp only [go_sem]; exact rfl) ?_
    refine draw_close (by kernel_rfl) ?_
    try simp only [go_sem, List.getElem_toArray, List.getElem_cons_succ, List.getElem_cons_zero]
    refine cw_cond (by simp only [go_sem]; try exact rfl) trivial (fun h => ?_) (fun h => ?_)
    · have h0 : wb = true := by simpa using h
      subst h0
      refine cw_go tabOK 99 (by simp only [go_sem]; try exact rfl) (by simp [go_sem]) ?_
      refine cw_ret ⟨_, _, by simp only [go_sem]; try exact rfl, by simp [go_sem], _, .inr (.inl rfl), ?_, hold2 ?_ ?_⟩
      · simp
      · simp [go_sem, doerRow]
      · simp [go_sem]
    have h0 : wb = false := by simpa using h
    subst h0
    simp only [Bool.false_eq_true, if_false, if_true]
    refine cw_go tabOK 99 (by simp only [go_sem]; try exact rfl) (by simp [go_sem]) ?_
    refine cw_draw mixed ?_
    refine seg_start rfl ?_
    refine seg_runN tabOK 11 (by simp only [go_sem]; exact rfl) (by simp only [go_sem]; exact rfl) (by simp only [go_sem, doerRow]; try exact rfl) ?_ (by simp only [go_sem]; exact rfl) ?_
    · simp [doerRow]
    refine seg_end (by kernel_rfl) (by simp only [go_sem]; exact rfl) ?_
    refine draw_close (by kernel_rfl) ?_
    try simp only [go_sem, List.getElem_toArray, List.getElem_cons_succ, List.getElem_cons_zero]
    refine cw_condT (by simp only [go_sem]; try exact rfl) trivial (by simp [htd]) ?_
    refine cw_go tabOK 99 (by simp only [go_sem]; try exact rfl) (by simp [go_sem]) ?_
    refine cw_draw mixed ?_
    refine seg_start rfl ?_
    refine seg_runN tabOK 7 (by simp only [go_sem]; exact rfl) (by simp only [go_sem]; exact rfl) (by simp only [go_sem, doerRow, nodeRow]; try exact rfl) ?_ (by simp only [go_sem]; exact rfl) ?_
    · simp [doerRow, nodeRow]
    refine seg_call rfl rfl (by simp only [go_sem]; try exact rfl) (by simp [go_sem]) ⟨_, Go.Proofs.Try.func38, by kernel_rfl, rfl⟩ (by simp [go_sem]) (hlv) (by simp [go_sem]) (by simp only [go_sem]; exact rfl) (by simp only [go_sem]; exact rfl) ?_
    refine seg_end (by kernel_rfl) (by simp only [go_sem]; exact rfl) ?_
    refine draw_trip rfl (by kernel_rfl) rfl (trip_callP rfl (by simp only [go_sem]; try exact rfl) (by simp [go_sem]) ⟨_, Go.Proofs.Try.func147, by kernel_rfl, rfl⟩ [15] (by simp only [go_sem, Bool.false_or, Bool.or_true, Bool.true_or, Bool.or_false, ↓reduceIte]; try exact rfl) (by simp [go_sem]) (by simp) (by simp [go_sem]) (by simp [go_sem]) (by simp [go_sem]) (hp1) (by simp only [go_sem, Bool.false_or, Bool.or_true, Bool.true_or, Bool.or_false, ↓reduceIte]; exact rfl)) rfl ?_
    refine draw_close (by kernel_rfl) ?_
    try simp only [go_sem, List.getElem_toArray, List.getElem_cons_succ, List.getElem_cons_zero]
    refine cw_go tabOK 99 (by simp only [go_sem]; try exact rfl) (by simp [go_sem]) ?_
    refine cw_draw mixed ?_
    refine seg_start rfl ?_
    refine seg_runN tabOK 12 (by simp only [go_sem]; exact rfl) (by simp only [go_sem]; exact rfl) (by simp only [go_sem, doerRow, nodeRow]; try exact rfl) ?_ (by simp only [go_sem]; exact rfl) ?_
    · simp [doerRow, nodeRow]
    refine seg_call rfl rfl (by simp only [go_sem]; try exact rfl) (by simp [go_sem]) ⟨_, Go.Proofs.Try.func37, by kernel_rfl, rfl⟩ (by simp [go_sem]) (hent2) (by simp [go_sem]) (by simp only [go_sem]; exact rfl) (by simp only [go_sem]; exact rfl) ?_
    refine seg_end (by kernel_rfl) (by simp only [go_sem]; exact rfl) ?_
    refine draw_trip rfl (by kernel_rfl) rfl (trip_callP rfl (by simp only [go_sem]; try exact rfl) (by simp [go_sem]) ⟨_, Go.Proofs.Try.func147, by kernel_rfl, rfl⟩ [15] (by simp only [go_sem, Bool.false_or, Bool.or_true, Bool.true_or, Bool.or_false, ↓reduceIte]; try exact rfl) (by simp [go_sem]) (by simp) (by simp [go_sem]) (by simp [go_sem]) (by simp [go_sem]) (hp2) (by simp only [go_sem, Bool.false_or, Bool.or_true, Bool.true_or, Bool.or_false, ↓reduceIte]; exact rfl)) rfl ?_
    refine draw_close (by kernel_rfl) ?_
    try simp only [go_sem, List.getElem_toArray, List.getElem_cons_succ, List.getElem_cons_zero]
    refine cw_go tabOK 99 (by simp only [go_sem]; try exact rfl) (by simp [go_sem]) ?_
    refine cw_ret ⟨_, _, by simp only [go_sem]; try exact rfl, by simp [go_sem], _, .inr (.inl rfl), ?_, hold2 ?_ ?_⟩
    · simp
    · simp [go_sem, doerRow]
    · simp [go_sem]
end La

namespace La
open Go
set_option linter.unusedVariables false

theorem sameN_fid {v : Bool} {x y : Node} (h : sameN v x y = true) : x.fid = y.fid := by
  unfold sameN at h
  simp only [Bool.and_eq_true, beq_iff_eq] at h
  exact h.1.1.1.1

theorem Up.head {x : Node} {a : List Node} (h : Up (x :: a)) : (∀ z, z ∈ a → x.fid < z.fid) ∧ Up a := List.pairwise_cons.1 h

theorem sameT_of (v : Bool) : ∀ (a b : List Node), Up a → Up b → (∀ x, x ∈ a → ∃ y, y ∈ b ∧ sameN v x y = true) → (∀ y, y ∈ b → ∃ x, x ∈ a ∧ sameN v x y = true) → sameT v a b = true
  | [], [], _, _, _, _ => rfl
  | [], y :: b, _, _, _, h => by
    obtain ⟨x, hx, _⟩ := h y (by simp)
    simp at hx
  | x :: a, [], _, _, h, _ => by
    obtain ⟨y, hy, _⟩ := h x (by simp)
    simp at hy
  | x :: a, y :: b, ha, hb, h1, h2 => by
    obtain ⟨a1, a2⟩ := ha.head
    obtain ⟨b1, b2⟩ := hb.head
    obtain ⟨y', hy', hxy⟩ := h1 x (by simp)
    obtain ⟨x', hx', hxy'⟩ := h2 y (by simp)
    have e1 := sameN_fid hxy
    have e2 := sameN_fid hxy'
    have l1 : x.fid ≤ x'.fid := by
      rcases List.mem_cons.1 hx' with rfl | h
      · omega
      · have := a1 x' h; omega
    have l2 : y.fid ≤ y'.fid := by
      rcases List.mem_cons.1 hy' with rfl | h
      · omega
      · have := b1 y' h; omega
    have exy : x.fid = y.fid := by omega
    have hyy : y' = y := by
      rcases List.mem_cons.1 hy' with h | h
      · exact h
      · have := b1 y' h; omega
    subst hyy
    rw [sameT, hxy, Bool.true_and]
    refine sameT_of v a b a2 b2 (fun z hz => ?_) (fun z hz => ?_)
    · obtain ⟨w, hw, hzw⟩ := h1 z (by simp [hz])
      refine ⟨w, ?_, hzw⟩
      have := a1 z hz
      have e := sameN_fid hzw
      rcases List.mem_cons.1 hw with rfl | h
      · omega
      · exact h
    · obtain ⟨w, hw, hzw⟩ := h2 z (by simp [hz])
      refine ⟨w, ?_, hzw⟩
      have := b1 z hz
      have e := sameN_fid hzw
      rcases List.mem_cons.1 hw with rfl | h
      · omega
      · exact h

theorem findN_put {l : List Node} (h : Up l) (n : Node) (k : Int) : findN (putN l n) k = if k = n.fid then some n else findN l k := by
  by_cases e : k = n.fid
  · subst e; rw [if_pos rfl]; exact puts_found h n
  · rw [if_neg e]; exact (puts_other h n e).symm
theorem findN_drop {l : List Node} (h : Up l) (f k : Int) : findN (dropN l f) k = if k = f then none else findN l k := by
  obtain ⟨h1, h2⟩ := dropN_up h f
  by_cases e : k = f
  · subst e
    rw [if_pos rfl]
    exact (findN_none h1).2 fun x hx => ((h2 x).1 hx).2
  · rw [if_neg e]
    cases e1 : findN l k with
    | none =>
      rw [findN_none h1]
      exact fun x hx => (findN_none h).1 e1 x ((h2 x).1 hx).1
    | some x =>
      obtain ⟨k1, k2⟩ := (findN_some h).1 e1
      exact (findN_some h1).2 ⟨(h2 x).2 ⟨k1, by rw [k2]; exact e⟩, k2⟩

/-- two trees that are found the same are the same -/
theorem sameT_find (v : Bool) {a b : List Node} (ha : Up a) (hb : Up b) (h : ∀ k, match findN a k, findN b k with
    | none, none => True
    | some x, some y => sameN v x y = true
    | _, _ => False) : sameT v a b = true := by
  refine sameT_of v a b ha hb (fun x hx => ?_) (fun y hy => ?_)
  · have h1 := (findN_some ha).2 ⟨hx, rfl⟩
    have h2 := h x.fid
    rw [h1] at h2
    cases e : findN b x.fid with
    | none => rw [e] at h2; exact h2.elim
    | some y => rw [e] at h2; exact ⟨y, ((findN_some hb).1 e).1, h2⟩
  · have h1 := (findN_some hb).2 ⟨hy, rfl⟩
    have h2 := h y.fid
    rw [h1] at h2
    cases e : findN a y.fid with
    | none => rw [e] at h2; exact h2.elim
    | some x => rw [e] at h2; exact ⟨x, ((findN_some ha).1 e).1, h2⟩

theorem back_plain {l : List Node} {a : Act} (hk : a.kind = 1 ∨ a.kind = 2) (hr : risesB l = true) (he : makeE l a = 0) :
    removeE (makeL l a 7) { a with kind := 4 } = 0 ∧ sameT false (removeL (makeL l a 7) { a with kind := 4 } 8) l = true := by
  obtain ⟨hup, hent⟩ := (risesB_iff l).1 hr
  have hmL : makeL l a 7 = putN (putN l { enterN (getN l a.dir) a.name a.fid with version := 7 }) (madeN a 7) := by
    unfold makeL; rw [if_pos he]
  rw [hmL]
  unfold makeE at he
  have hd : dirE l a.dir = 0 := by
    by_cases h : dirE l a.dir = 0
    · exact h
    · rw [if_neg h] at he; exact absurd he h
  rw [if_pos hd] at he
  have hro : roomE (getN l a.dir) a.name = 0 := by
    by_cases h : roomE (getN l a.dir) a.name = 0
    · exact h
    · rw [if_neg h] at he; exact absurd he h
  rw [if_pos hro] at he
  have hat : isAt l a.fid = false := by
    cases h : isAt l a.fid with
    | false => rfl
    | true => rw [h] at he; simp at he
  obtain ⟨n, hn, hnd⟩ : ∃ n, findN l a.dir = some n ∧ n.dir = true := by
    unfold dirE at hd
    cases e : findN l a.dir with
    | none => rw [e] at hd; simp at hd
    | some n =>
      rw [e] at hd
      cases e2 : n.dir with
      | true => exact ⟨n, rfl, e2⟩
      | false => simp [e2] at hd
  have hg : getN l a.dir = n := by unfold getN; rw [hn]; rfl
  rw [hg] at hro ⊢
  have hE : isE n.entries a.name = false := by
    unfold roomE at hro
    cases h : isE n.entries a.name with
    | false => rfl
    | true =>
      rw [h] at hro
      split at hro <;> simp at hro
  have hnf : findN l a.fid = none := findN_no hat
  obtain ⟨hnm, hnfid⟩ := (findN_some hup).1 hn
  have hneq : a.dir ≠ a.fid := by
    intro e
    rw [e, hnf] at hn
    cases hn
  have hEn := hent n hnm
  obtain ⟨n1, hn1⟩ : ∃ n1 : Node, n1 = { enterN n a.name a.fid with version := 7 } := ⟨_, rfl⟩
  rw [← hn1]
  have n1f : n1.fid = a.dir := by rw [hn1]; exact hnfid
  have n1d : n1.dir = true := by rw [hn1]; exact hnd
  have up1 := (putN_up hup n1).1
  have up2 := (putN_up up1 (madeN a 7)).1
  have hmf : (madeN a 7).fid = a.fid := rfl
  have f2 : ∀ k, findN (putN (putN l n1) (madeN a 7)) k = if k = a.fid then some (madeN a 7) else if k = a.dir then some n1 else findN l k := fun k => by
    rw [findN_put up1, hmf, findN_put hup, n1f]
  generalize putN (putN l n1) (madeN a 7) = x at f2 up2
  have fdir : findN x a.dir = some n1 := by rw [f2, if_neg hneq, if_pos rfl]
  have ffid : findN x a.fid = some (madeN a 7) := by rw [f2, if_pos rfl]
  have hg2 : getN x a.dir = n1 := by unfold getN; rw [fdir]; rfl
  have hnamed : namedE x { a with kind := 4 } = 0 := by
    have hlead := enters_leads hEn hE a.fid
    have hent1 : entryN n1 a.name = some a.fid := by rw [hn1]; exact hlead
    unfold namedE dirE
    simp only [fdir, n1d, if_true, hg2, hent1]
  have hrem : removeE x { a with kind := 4 } = 0 := by
    unfold removeE
    rw [if_pos hnamed]
    show (match findN x a.fid with
      | none => (12 : Int)
      | some x => if x.entries.length > 0 then 10 else 0) = 0
    rw [ffid]; rfl
  refine ⟨hrem, ?_⟩
  unfold removeL
  rw [if_pos hrem]
  show sameT false (dropN (putN x { leaveN (getN x a.dir) a.name with version := 8 }) a.fid) l = true
  rw [hg2]
  have hlv : ({ leaveN n1 a.name with version := 8 } : Node) = { n with version := 8 } := by
    have := enters_leaves hEn hE a.fid
    rw [hn1]
    show ({ leaveN { enterN n a.name a.fid with version := 7 } a.name with version := 8 } : Node) = _
    have e1 : (leaveN { enterN n a.name a.fid with version := 7 } a.name).entries = n.entries := by
      have := congrArg Node.entries this
      exact this
    have e2 : ({ leaveN { enterN n a.name a.fid with version := 7 } a.name with version := 8 } : Node) = ⟨n.fid, n.dir, n.data, (leaveN { enterN n a.name a.fid with version := 7 } a.name).entries, 8⟩ := rfl
    rw [e2, e1]
  rw [hlv]
  have up3 := (putN_up up2 { n with version := 8 }).1
  have up4 := (dropN_up up3 a.fid).1
  refine sameT_find false up4 hup fun k => ?_
  have hn8 : ({ n with version := 8 } : Node).fid = a.dir := hnfid
  rw [findN_drop up3, findN_put up2, hn8, f2]
  by_cases k1 : k = a.fid
  · subst k1
    rw [if_pos rfl, hnf]; trivial
  · rw [if_neg k1]
    by_cases k2 : k = a.dir
    · subst k2
      rw [if_pos rfl, hn]
      show sameN false _ _ = true
      unfold sameN; simp [hnfid]
    · rw [if_neg k2, if_neg k1, if_neg k2]
      cases findN l k with
      | none => trivial
      | some z => exact sameN_self false z
end La

namespace La
open Go Go.Eng

def Falls (r : Int → Nat) (l : List Node) : Prop := ∀ n, n ∈ l → ∀ e, e ∈ n.entries → r e.fid < r n.fid
inductive Reach (l : List Node) : Int → Int → Prop
  | refl (k : Int) : Reach l k k
  | head (n : Node) (e : Entry) (t : Int) (hn : n ∈ l) (he : e ∈ n.entries) (h : Reach l e.fid t) : Reach l n.fid t

theorem Reach.tail {l : List Node} {k : Int} {n : Node} (hn : n ∈ l) {e : Entry} (he : e ∈ n.entries) (h : Reach l k n.fid) : Reach l k e.fid := by
  generalize ht : n.fid = t at h
  induction h with
  | refl k => subst ht; exact .head n e _ hn he (.refl _)
  | head m d t hm hd h ih => exact .head m d _ hm hd (ih ht)
theorem Reach.rank {l : List Node} {r : Int → Nat} (hr : Falls r l) {k t : Int} (h : Reach l k t) : r t ≤ r k := by
  induction h with
  | refl k => exact Nat.le_refl _
  | head m d t hm hd h ih => have := hr m hm d hd; omega

theorem within_ends {l : List Node} (hu : Up l) {r : Int → Nat} (hr : Falls r l) (t : Int) : ∀ (f : Nat) (k : Int), r k < f → ∃ b, withinF l t f k = some b
  | 0, k, h => by omega
  | f + 1, k, h => by
    rw [withinF]
    split
    · exact ⟨_, rfl⟩
    · cases e : findN l k with
      | none => exact ⟨_, rfl⟩
      | some n =>
        obtain ⟨hn, hk⟩ := (findN_some hu).1 e
        simp only
        rw [if_pos (List.all_eq_true.2 fun x hx => by
          have h1 := hr n hn x hx
          obtain ⟨b, hb⟩ := within_ends hu hr t f x.fid (by rw [hk] at h1; omega)
          rw [hb, Option.isSome_some, Bool.or_true])]
        exact ⟨_, rfl⟩
theorem within_reach {l : List Node} (hu : Up l) {r : Int → Nat} (hr : Falls r l) {k t : Int} (h : Reach l k t) : ∀ (f : Nat) (b : Bool), withinF l t f k = some b → b = true := by
  induction h with
  | refl k =>
    intro f b hb
    cases f with
    | zero => cases hb
    | succ f => rw [withinF, if_pos rfl] at hb; injection hb with hb; exact hb.symm
  | head n e t hn he h ih =>
    intro f b hb
    cases f with
    | zero => cases hb
    | succ f =>
      rw [withinF] at hb
      split at hb
      · injection hb with hb; exact hb.symm
      · rw [(findN_some hu).2 ⟨hn, rfl⟩] at hb
        simp only at hb
        split at hb
        · rename_i hall
          injection hb with hb
          rw [← hb, List.any_eq_true]
          have hne : decide (e.fid = n.fid) = false := decide_eq_false fun h0 => by have := hr n hn e he; rw [h0] at this; omega
          have h1 := List.all_eq_true.1 hall e he
          rw [hne, Bool.false_or] at h1
          refine ⟨e, he, ?_⟩
          cases h2 : withinF l t f e.fid with
          | none => rw [h2] at h1; cases h1
          | some c => rw [hne, ih f c h2]; rfl
        · cases hb

theorem enterE_mem {l : List Entry} {s : List UInt8} {f : Int} {x : Entry} (h : x ∈ enterE l s f) : x = ⟨s, f⟩ ∨ x ∈ l := by
  unfold enterE at h
  split at h
  · rcases List.mem_or_eq_of_mem_set h with h | h
    · exact .inr h
    · exact .inl h
  · rcases List.mem_append.1 h with h | h
    · exact .inr (List.mem_of_mem_take h)
    · rcases List.mem_cons.1 h with h | h
      · exact .inl h
      · exact .inr (List.mem_of_mem_drop h)
theorem leaveE_mem {l : List Entry} {s : List UInt8} {x : Entry} (h : x ∈ leaveE l s) : x ∈ l := (List.mem_filter.1 h).1
theorem pmem {l : List Node} {n x : Node} (h : x ∈ putN l n) : x = n ∨ x ∈ l := by
  unfold putN at h
  split at h
  · rcases List.mem_or_eq_of_mem_set h with h | h
    · exact .inr h
    · exact .inl h
  · rcases List.mem_append.1 h with h | h
    · exact .inr (List.mem_of_mem_take h)
    · rcases List.mem_cons.1 h with h | h
      · exact .inl h
      · exact .inr (List.mem_of_mem_drop h)

/-- what a server's tree is -/
structure Good (l : List Node) : Prop where
  up : Up l
  falls : ∃ r, Falls r l
  len : l.length ≤ 24
  data : ∀ n, n ∈ l → n.data.length ≤ 20
  ent : ∀ n, n ∈ l → n.entries.length ≤ 6

theorem Good.ends {l : List Node} (h : Good l) (t k : Int) : ∃ f, withinF l t f k = some (withinB l t k) := by
  obtain ⟨r, hr⟩ := h.falls
  obtain ⟨b, hb⟩ := within_ends h.up hr t (r k + 1) k (by omega)
  exact ⟨_, by rw [withinB_of hb]; exact hb⟩

theorem dirE_zero {l : List Node} {k : Int} (h : dirE l k = 0) : ∃ n, findN l k = some n ∧ getN l k = n ∧ n.dir = true := by
  unfold dirE at h
  unfold getN
  cases e : findN l k with
  | none => rw [e] at h; cases h
  | some n =>
    rw [e] at h
    simp only at h
    cases hd : n.dir with
    | false => rw [hd] at h; cases h
    | true => exact ⟨n, rfl, rfl, hd⟩
theorem putN_at {l : List Node} {n : Node} (h : isAt l n.fid = true) : (putN l n).length = l.length := by
  unfold putN; rw [if_pos h, List.length_set]
theorem isAt_of {l : List Node} {k : Int} {n : Node} (h : findN l k = some n) : isAt l k = true := by rw [isAt_eq, h]; rfl
theorem enterE_len (l : List Entry) (s : List UInt8) (f : Int) : (enterE l s f).length ≤ l.length + 1 := by
  unfold enterE
  split
  · simp
  · have := eplace_le l s
    simp; omega
theorem leaveE_len (l : List Entry) (s : List UInt8) : (leaveE l s).length ≤ l.length := List.length_filter_le _ _
theorem roomE_zero {n : Node} {s : List UInt8} (h : roomE n s = 0) : n.entries.length ≤ 5 := by
  unfold roomE at h
  split at h
  · split at h
    · cases h
    · split at h
      · cases h
      · omega
  · cases h
end La

namespace La
open Go Go.Eng Go.Proofs

theorem good_make {l : List Node} (h : Good l) (a : Act) (v : Int) (he : makeE l a = 0) : Good (makeL l a v) := by
  have hL : makeL l a v = putN (putN l { enterN (getN l a.dir) a.name a.fid with version := v }) (madeN a v) := by unfold makeL; rw [if_pos he]
  rw [hL]
  unfold makeE at he
  split at he
  · rename_i hd
    obtain ⟨n, hf, hg, _⟩ := dirE_zero hd
    rw [hg] at he ⊢
    obtain ⟨hn, hnk⟩ := (findN_some h.up).1 hf
    split at he
    · rename_i hro
      have h5 := roomE_zero hro
      split at he
      · cases he
      · rename_i hnew
        have hno : isAt l a.fid = false := by
          cases e : isAt l a.fid with
          | false => rfl
          | true => rw [e] at hnew; exact absurd rfl hnew
        have hnoN : ∀ x, x ∈ l → x.fid ≠ a.fid := (findN_none h.up).1 (by
          cases e : findN l a.fid with
          | none => rfl
          | some m => rw [isAt_of e] at hno; cases hno)
        split at he
        · cases he
        · rename_i h24
          obtain ⟨r, hr⟩ := h.falls
          have hfid : ({ enterN n a.name a.fid with version := v } : Node).fid = n.fid := rfl
          have hu1 := putN_up h.up { enterN n a.name a.fid with version := v }
          refine ⟨(putN_up hu1.1 (madeN a v)).1, ⟨fun x => if x = a.fid then 0 else r x + 1, fun x hx e hx2 => ?_⟩, ?_, fun x hx => ?_, fun x hx => ?_⟩
          · rcases pmem hx with rfl | hx
            · simp [madeN] at hx2
            · rcases pmem hx with rfl | hx
              · have hnf : n.fid ≠ a.fid := hnoN n hn
                have hx3 : e ∈ enterE n.entries a.name a.fid := hx2
                show (if e.fid = a.fid then 0 else r e.fid + 1) < (if n.fid = a.fid then 0 else r n.fid + 1)
                rw [if_neg hnf]
                rcases enterE_mem hx3 with rfl | hx3
                · simp
                · have := hr n hn e hx3
                  split <;> omega
              · have hnf : x.fid ≠ a.fid := hnoN x hx
                have := hr x hx e hx2
                simp only
                rw [if_neg hnf]
                split <;> omega
          · have h1 := putN_length (putN l { enterN n a.name a.fid with version := v }) (madeN a v)
            have h2 : (putN l { enterN n a.name a.fid with version := v }).length = l.length := putN_at (by rw [hfid, hnk]; exact isAt_of hf)
            omega
          · rcases pmem hx with rfl | hx
            · simp [madeN]
            · rcases pmem hx with rfl | hx
              · exact h.data n hn
              · exact h.data x hx
          · rcases pmem hx with rfl | hx
            · simp [madeN]
            · rcases pmem hx with rfl | hx
              · have := enterE_len n.entries a.name a.fid
                show (enterE n.entries a.name a.fid).length ≤ 6
                omega
              · exact h.ent x hx
    · rename_i hro; exact absurd he hro
  · rename_i hd; exact absurd he hd

theorem good_store {l : List Node} (h : Good l) (a : Act) (v : Int) (he : storeE l a = 0) : Good (storeL l a v) := by
  have hL : storeL l a v = putN l { getN l a.fid with data := a.data, version := v } := by unfold storeL; rw [if_pos he]
  rw [hL]
  unfold storeE at he
  cases hf : findN l a.fid with
  | none => rw [hf] at he; cases he
  | some n =>
    rw [hf] at he
    simp only at he
    obtain ⟨hn, hnk⟩ := (findN_some h.up).1 hf
    have hg : getN l a.fid = n := by unfold getN; rw [hf]; rfl
    rw [hg]
    split at he
    · cases he
    · split at he
      · cases he
      · rename_i h20
        obtain ⟨r, hr⟩ := h.falls
        refine ⟨(putN_up h.up _).1, ⟨r, fun x hx e hx2 => ?_⟩, ?_, fun x hx => ?_, fun x hx => ?_⟩
        · rcases pmem hx with rfl | hx
          · exact hr n hn e hx2
          · exact hr x hx e hx2
        · rw [putN_at (by show isAt l n.fid = true; rw [hnk]; exact isAt_of hf)]; exact h.len
        · rcases pmem hx with rfl | hx
          · show a.data.length ≤ 20; omega
          · exact h.data x hx
        · rcases pmem hx with rfl | hx
          · exact h.ent n hn
          · exact h.ent x hx

/-- what is named is in its directory -/
theorem namedE_zero {l : List Node} {a : Act} (h : namedE l a = 0) : ∃ n, findN l a.dir = some n ∧ getN l a.dir = n := by
  unfold namedE at h
  split at h
  · rename_i hd
    obtain ⟨n, h1, h2, _⟩ := dirE_zero hd
    exact ⟨n, h1, h2⟩
  · rename_i hd; exact absurd h hd

theorem good_leave {l : List Node} (h : Good l) {n : Node} (hn : n ∈ l) (hf : findN l n.fid = some n) (s : List UInt8) (v : Int) {r : Int → Nat} (hr : Falls r l) :
    Good (putN l { leaveN n s with version := v }) ∧ Falls r (putN l { leaveN n s with version := v }) := by
  have hr2 : Falls r (putN l { leaveN n s with version := v }) := fun x hx e hx2 => by
    rcases pmem hx with rfl | hx
    · exact hr n hn e (leaveE_mem hx2)
    · exact hr x hx e hx2
  refine ⟨⟨(putN_up h.up _).1, ⟨r, hr2⟩, ?_, fun x hx => ?_, fun x hx => ?_⟩, hr2⟩
  · rw [putN_at (by show isAt l n.fid = true; exact isAt_of hf)]; exact h.len
  · rcases pmem hx with rfl | hx
    · exact h.data n hn
    · exact h.data x hx
  · rcases pmem hx with rfl | hx
    · have := leaveE_len n.entries s
      have := h.ent n hn
      show (leaveE n.entries s).length ≤ 6
      omega
    · exact h.ent x hx

theorem good_remove {l : List Node} (h : Good l) (a : Act) (v : Int) (he : removeE l a = 0) : Good (removeL l a v) := by
  have hL : removeL l a v = dropN (putN l { leaveN (getN l a.dir) a.name with version := v }) a.fid := by unfold removeL; rw [if_pos he]
  rw [hL]
  unfold removeE at he
  split at he
  · rename_i hnm
    obtain ⟨n, hf, hg⟩ := namedE_zero hnm
    rw [hg]
    obtain ⟨hn, hnk⟩ := (findN_some h.up).1 hf
    obtain ⟨r, hr⟩ := h.falls
    obtain ⟨h1, hr1⟩ := good_leave h hn (by rw [hnk]; exact hf) a.name v hr
    have hsub : ∀ x, x ∈ dropN (putN l { leaveN n a.name with version := v }) a.fid → x ∈ putN l { leaveN n a.name with version := v } := fun x hx => (List.mem_filter.1 hx).1
    refine ⟨(dropN_up h1.up a.fid).1, ⟨r, fun x hx e hx2 => hr1 x (hsub x hx) e hx2⟩, ?_, fun x hx => h1.data x (hsub x hx), fun x hx => h1.ent x (hsub x hx)⟩
    have := List.length_filter_le (fun n : Node => !(n.fid == a.fid)) (putN l { leaveN n a.name with version := v })
    have := h1.len
    unfold dropN
    omega
  · rename_i hnm; exact absurd he hnm

open Classical in
theorem good_rename {l : List Node} (h : Good l) (a : Act) (v : Int) (he : renameE l a = 0) : Good (renameL l a v) := by
  have hL : renameL l a v = putN (if a.to = a.dir then l else putN l { leaveN (getN l a.dir) a.name with version := v }) { enterN (toN l a) a.toName a.fid with version := v } := by unfold renameL; rw [if_pos he]
  rw [hL]
  unfold renameE at he
  split at he
  · rename_i hnm
    obtain ⟨n, hf, hg⟩ := namedE_zero hnm
    obtain ⟨hn, hnk⟩ := (findN_some h.up).1 hf
    split at he
    · rename_i hdt
      obtain ⟨t, htf, htg, _⟩ := dirE_zero hdt
      obtain ⟨htm, htk⟩ := (findN_some h.up).1 htf
      split at he
      · rename_i hro
        have h5 := roomE_zero hro
        split at he
        · split at he
          · cases he
          · rename_i hwb
            obtain ⟨f, hw⟩ := h.ends a.to a.fid
            obtain ⟨r, hr⟩ := h.falls
            have hnr : ¬ Reach l a.fid a.to := fun hR => by
              have := within_reach h.up hr hR f _ hw
              exact hwb this
            -- the node that gets the entry: that directory, some entries less
            have hTf : (toN l a).fid = a.to := by
              unfold toN
              split
              · rename_i htd; show (getN l a.dir).fid = a.to; rw [hg, hnk, htd]
              · rw [htg, htk]
            have hTe : ∀ e, e ∈ (toN l a).entries → e ∈ t.entries := fun e hx => by
              unfold toN at hx
              split at hx
              · rename_i htd
                have h1 := leaveE_mem hx
                rw [hg] at h1
                rw [htd, hf] at htf
                injection htf with htf
                rwa [← htf]
              · rwa [htg] at hx
            have hTd : (toN l a).data.length ≤ 20 := by
              unfold toN
              split
              · show (getN l a.dir).data.length ≤ 20; rw [hg]; exact h.data n hn
              · rw [htg]; exact h.data t htm
            have key : ∀ l1 : List Node, Up l1 → (∀ x, x ∈ l1 → x.data.length ≤ 20 ∧ x.entries.length ≤ 6) → l1.length ≤ 24 → isAt l1 a.to = true →
                (∀ x, x ∈ l1 → ∃ y, y ∈ l ∧ y.fid = x.fid ∧ ∀ e, e ∈ x.entries → e ∈ y.entries) → Good (putN l1 { enterN (toN l a) a.toName a.fid with version := v }) := fun l1 hu1 hs1 hl1 ha1 hsub => by
              let q : Int → Nat := fun x => if Reach l a.fid x then r x else r x + (r a.fid + 1)
              have hq : ∀ y, y ∈ l → ∀ e, e ∈ y.entries → q e.fid < q y.fid := fun y hy e hx => by
                have h1 := hr y hy e hx
                show (if Reach l a.fid e.fid then r e.fid else r e.fid + (r a.fid + 1)) < (if Reach l a.fid y.fid then r y.fid else r y.fid + (r a.fid + 1))
                by_cases hR : Reach l a.fid y.fid
                · rw [if_pos hR, if_pos (hR.tail hy hx)]; exact h1
                · rw [if_neg hR]
                  split <;> omega
              refine ⟨(putN_up hu1 _).1, ⟨q, fun x hx e hx2 => ?_⟩, ?_, fun x hx => ?_, fun x hx => ?_⟩
              · rcases pmem hx with rfl | hx
                · have hx3 : e ∈ enterE (toN l a).entries a.toName a.fid := hx2
                  show q e.fid < q (toN l a).fid
                  rw [hTf]
                  rcases enterE_mem hx3 with rfl | hx3
                  · show (if Reach l a.fid a.fid then r a.fid else r a.fid + (r a.fid + 1)) < (if Reach l a.fid a.to then r a.to else r a.to + (r a.fid + 1))
                    rw [if_pos (.refl _), if_neg hnr]; omega
                  · have := hq t htm e (hTe e hx3)
                    rwa [htk] at this
                · obtain ⟨y, hy, hyf, hye⟩ := hsub x hx
                  have := hq y hy e (hye e hx2)
                  rwa [hyf] at this
              · rw [putN_at (by show isAt l1 (toN l a).fid = true; rw [hTf]; exact ha1)]; exact hl1
              · rcases pmem hx with rfl | hx
                · exact hTd
                · exact (hs1 x hx).1
              · rcases pmem hx with rfl | hx
                · have := enterE_len (toN l a).entries a.toName a.fid
                  show (enterE (toN l a).entries a.toName a.fid).length ≤ 6
                  omega
                · exact (hs1 x hx).2
            split
            · exact key l h.up (fun x hx => ⟨h.data x hx, h.ent x hx⟩) h.len (isAt_of htf) (fun x hx => ⟨x, hx, rfl, fun _ h => h⟩)
            · rename_i htd
              rw [hg]
              obtain ⟨h1, _⟩ := good_leave h hn (by rw [hnk]; exact hf) a.name v hr
              refine key _ h1.up (fun x hx => ⟨h1.data x hx, h1.ent x hx⟩) h1.len ?_ (fun x hx => ?_)
              · have : findN (putN l { leaveN n a.name with version := v }) a.to = some t := by
                  rw [findN_put h.up, if_neg (fun e => htd (e.trans (show n.fid = a.dir from hnk)))]; exact htf
                exact isAt_of this
              · rcases pmem hx with rfl | hx
                · exact ⟨n, hn, rfl, fun e hx2 => leaveE_mem hx2⟩
                · exact ⟨x, hx, rfl, fun _ h => h⟩
        · cases he
      · rename_i hro; exact absurd he hro
    · rename_i hdt; exact absurd he hdt
  · rename_i hnm; exact absurd he hnm

theorem good_apply {l : List Node} (h : Good l) (a : Act) (v : Int) (he : applyE l a = 0) : Good (applyL l a v) := by
  unfold applyE at he
  unfold applyL
  split at he
  · rename_i h1; rw [if_pos h1]; exact good_make h a v he
  · rename_i h1
    rw [if_neg h1]
    split at he
    · rename_i h2; rw [if_pos h2]; exact good_make h a v he
    · rename_i h2
      rw [if_neg h2]
      split at he
      · rename_i h3; rw [if_pos h3]; exact good_store h a v he
      · rename_i h3
        rw [if_neg h3]
        split at he
        · rename_i h4; rw [if_pos h4]; exact good_remove h a v he
        · rename_i h4
          rw [if_neg h4]
          split at he
          · rename_i h5; rw [if_pos h5]; exact good_rename h a v he
          · cases he
theorem good_root : Good [⟨0, true, [], [], 0⟩] := ⟨by unfold Up; simp, ⟨fun _ => 0, fun n hn e he => by rw [List.mem_singleton.1 hn] at he; simp at he⟩, by simp, fun n hn => by rw [List.mem_singleton.1 hn]; simp, fun n hn => by rw [List.mem_singleton.1 hn]; simp⟩

theorem Good.small {l : List Node} (h : Good l) : Small l := ⟨by have := h.len; omega, fun n hn => ⟨by have := h.data n hn; omega, by have := h.ent n hn; omega⟩⟩
theorem Good.fit {l : List Node} (h : Good l) {a : Act} (h1 : a.name.length ≤ 100000000) (h2 : a.toName.length ≤ 100000000) (h3 : a.data.length ≤ 100000000) : FitA l a :=
  ⟨h.small, by have := h.len; omega, fun n hn => by have := h.ent n hn; omega, h1, h2, h3⟩
/-- names and bytes of an act are not large -/
structure ActFit (a : Act) : Prop where
  name : a.name.length ≤ 100000000
  toName : a.toName.length ≤ 100000000
  data : a.data.length ≤ 100000000
theorem apply_good {l : List Node} (h : Good l) (a : Act) (v : Int) (ha : ActFit a) : FnOK Try.prog 40 [.sl (l.map nodeRow), .agg (actRow a), .int .i64 v] [] (fun r _ => r = applyR l a v) := by
  obtain ⟨f, hf⟩ := h.ends a.to a.fid
  exact apply_ok l a v (h.fit ha.name ha.toName ha.data) (fun _ => rename_ok l a v (h.fit ha.name ha.toName ha.data) f hf)
end La

namespace La
open Go Go.Eng Go.Proofs
set_option maxRecDepth 10000
set_option linter.unusedSimpArgs false
set_option linter.unusedVariables false

set_option maxHeartbeats 1000000 in
theorem equalFunc_ok (a b : List Node) (ha : Small a) (hb : Small b) : FnOK Try.prog 131 [.sl (a.map nodeRow), .sl (b.map nodeRow), .fn 132 []] [] (fun r _ => r = .bool (sameT false a b)) := by
  have hla := ha.len
  have hlb := hb.len
  refine fn_of_cwW tabOK (Go.Proofs.Try.func131) rfl (fun C => ?_)
  simp only [Go.Proofs.Try.ntmps131, Go.Proofs.Try.results131, go_sem]
  refine cw_go tabOK 99 (by simp only [go_sem]; try exact rfl) (by simp [go_sem]) ?_
  refine cw_cond (by simp only [go_sem]; try exact rfl) trivial (fun h => ?_) (fun h => ?_)
  · have hne : sameT false a b = false := by
      cases e : sameT false a b with
      | false => rfl
      | true => have := ((sameT_iff false a b).1 e).1; simp [this] at h
    refine cw_go tabOK 99 (by simp only [go_sem]; try exact rfl) (by simp [go_sem]) ?_
    refine cw_ret ⟨_, _, (by simp only [go_sem]; try exact rfl), by simp [go_sem], _, .inr (.inl rfl), ?_⟩
    simp [hne]
  have hl : a.length = b.length := by simp at h; omega
  refine cw_go tabOK 99 (by simp only [go_sem]; try exact rfl) (by simp [go_sem]) ?_
  refine cw_loopS (fun i : Nat => i ≤ a.length ∧ ∀ j, j < i → sameN false (a.getD j default) (b.getD j default) = true) (fun i => a.length - i) (fun i => [(7, .any), (8, .any), (9, .any), (17, .int .i64 i), (18, .any), (19, .any), (20, .any), (21, .any), (22, .any), (23, .any), (24, .any), (25, .any), (26, .any), (27, .any), (28, .any), (29, .any), (30, .any), (31, .any)]) (fun _ => []) 0 ⟨by omega, by omega⟩ ?_ fun i hi => ?_
  · simp only [go_sem]
    exact le_sub (by simp [go_sem]) (by simp [go_sem]) (by simp [go_sem])
  obtain ⟨hi, hs⟩ := hi
  simp only [go_sem]
  refine cw_go tabOK 99 (by simp only [go_sem]; try exact rfl) (by simp [go_sem]) ?_
  refine cw_cond (by simp only [go_sem]; try exact rfl) trivial (fun h => ?_) (fun h => ?_)
  · have hlt : i < a.length := by simp at h; omega
    have hltb : i < b.length := by omega
    have hga : (a.map nodeRow).getD i [] = nodeRow (a.getD i default) := Fam.getD hlt
    have hgb : (b.map nodeRow).getD i [] = nodeRow (b.getD i default) := Fam.getD hltb
    have hsm := sameIs_ok _ _ (ha.each _ (getD_mem hlt)) (hb.each _ (getD_mem hltb))
    have hno : sameN false (a.getD i default) (b.getD i default) = false → sameT false a b = false := fun h0 => by
      cases e : sameT false a b with
      | false => rfl
      | true => rw [((sameT_iff false a b).1 e).2 i hlt] at h0; cases h0
    have hyes : sameN false (a.getD i default) (b.getD i default) = true → ∀ j, j < i + 1 → sameN false (a.getD j default) (b.getD j default) = true := fun h0 j hj => by
      rcases Nat.lt_succ_iff_lt_or_eq.1 hj with h1 | rfl
      · exact hs j h1
      · exact h0
    clear hs
    generalize a.getD i default = x at hga hsm hno hyes
    generalize b.getD i default = y at hgb hsm hno hyes
    refine cw_go tabOK 99 (by simp only [go_sem, hga, hgb, nodeRow]; try exact rfl) ?_ ?_
    · simp [hga, hgb, nodeRow, hlt, hltb]
    refine cw_call rfl rfl (by simp only [go_sem]; try exact rfl) (by simp [go_sem]) ⟨_, Go.Proofs.Try.func132, by kernel_rfl, rfl⟩ (by simp [go_sem]) (hsm) (by simp [go_sem]) (by simp only [go_sem]; exact rfl) ?_
    refine cw_go tabOK 99 (by simp only [go_sem]; try exact rfl) (by simp [go_sem]) ?_
    refine cw_cond (by simp only [go_sem]; try exact rfl) trivial (fun h => ?_) (fun h => ?_)
    · have h0 : sameN false x y = false := by simpa using h
      have := hno h0
      refine cw_go tabOK 99 (by simp only [go_sem]; try exact rfl) (by simp [go_sem]) ?_
      refine cw_ret ⟨_, _, (by simp only [go_sem]; try exact rfl), by simp [go_sem], _, .inr (.inl rfl), ?_⟩
      simp [this]
    · have h0 : sameN false x y = true := by simpa using h
      have hw : IntKind.i64.wrap ((i : Int) + 1) = ((i + 1 : Nat) : Int) := by rw [Eng.wrap_small (by omega) (by omega)]; rfl
      refine cw_go tabOK 99 (by simp only [go_sem, hw]; try exact rfl) (by simp [go_sem, hw]) ?_
      refine cw_back ⟨i + 1, ⟨by omega, hyes h0⟩, by omega, le_sub ?_ ?_ ?_⟩
      · simp [go_sem]
      · simp [go_sem]
      · simp [go_sem]
  · have e : i = a.length := by simp at h; omega
    subst e
    have hab : sameT false a b = true := (sameT_iff false a b).2 ⟨hl, hs⟩
    refine cw_go tabOK 99 (by simp only [go_sem]; try exact rfl) (by simp [go_sem]) ?_
    refine cw_ret ⟨_, _, (by simp only [go_sem]; try exact rfl), by simp [go_sem], _, .inr (.inl rfl), ?_⟩
    simp [hab]

theorem treeSame_ok (a b : List Node) (ha : Small a) (hb : Small b) : FnOK Try.prog 85 [.sl (a.map nodeRow), .sl (b.map nodeRow)] [] (fun r _ => r = .bool (sameT false a b)) := by
  refine fn_of_cwW tabOK (Go.Proofs.Try.func85) rfl (fun C => ?_)
  simp only [Go.Proofs.Try.ntmps85, Go.Proofs.Try.results85, go_sem]
  refine cw_go tabOK 99 (by simp only [go_sem]; try exact rfl) (by simp [go_sem]) ?_
  refine cw_call rfl rfl (by simp only [go_sem]; try exact rfl) (by simp [go_sem]) ⟨_, Go.Proofs.Try.func131, by kernel_rfl, rfl⟩ (by simp [go_sem]) (equalFunc_ok a b ha hb) (by simp [go_sem]) (by simp only [go_sem]; exact rfl) ?_
  refine cw_go tabOK 99 (by simp only [go_sem]; try exact rfl) (by simp [go_sem]) ?_
  refine cw_ret ⟨_, _, (by simp only [go_sem]; try exact rfl), by simp [go_sem], _, .inr (.inl rfl), ?_⟩
  rfl
end La

namespace La
open Go Go.Eng Go.Proofs
set_option maxRecDepth 10000
set_option linter.unusedSimpArgs false
set_option linter.unusedVariables false

def rootN : Node := ⟨0, true, [], [], 0⟩
def a2N : Node := ⟨3, false, [120], [], 0⟩
def a2R : Node := ⟨0, true, [], [⟨[97], 3⟩], 0⟩
theorem node_small (n : Node) (h1 : n.data.length ≤ 1000) (h2 : n.entries.length ≤ 1000) : n.Small := ⟨by omega, by omega⟩
theorem smallC_of (l : List Node) (h : l.length ≤ 1000) (h2 : ∀ n, n ∈ l → n.data.length ≤ 1000 ∧ n.entries.length ≤ 1000) : Small l := ⟨by omega, fun n hn => node_small n (h2 n hn).1 (h2 n hn).2⟩
theorem a2s0 : Small [rootN] := smallC_of _ (by decide) (by decide)
theorem a2s1 : Small [rootN, a2N] := smallC_of _ (by decide) (by decide)
theorem a2s2 : Small [a2R, a2N] := smallC_of _ (by decide) (by decide)
theorem a2p1 : FnOK Try.prog 32 [.sl ([rootN].map nodeRow), .agg (nodeRow a2N)] [] (fun r _ => r = .sl ([rootN, a2N].map nodeRow)) := put_ok [rootN] a2N a2s0 (a2s1.each _ (by simp))
theorem a2p2 : FnOK Try.prog 37 [.agg (nodeRow rootN), .str [97], .int .i64 3] [] (fun r _ => r = .agg (nodeRow a2R)) := enter_ok rootN [97] 3 (a2s0.each _ (by simp))
theorem a2p3 : FnOK Try.prog 32 [.sl ([rootN, a2N].map nodeRow), .agg (nodeRow a2R)] [] (fun r _ => r = .sl ([a2R, a2N].map nodeRow)) := put_ok [rootN, a2N] a2R a2s1 (a2s2.each _ (by simp))
theorem a2p4 : FnOK Try.prog 33 [.sl ([a2R, a2N].map nodeRow), .int .i64 3] [] (fun r _ => r = .tup [.agg (nodeRow a2N), .bool true]) := find_ok [a2R, a2N] 3 a2s2
theorem a2p5 : FnOK Try.prog 83 [.sl ([a2R, a2N].map nodeRow), .sl ([[97]].map strRow)] [] (fun r _ => r = .tup [.int .i64 3, .int .i64 0]) := walk_ok [a2R, a2N] [[97]] a2s2 (by decide)
theorem a2p6 : FnOK Try.prog 36 [.agg (nodeRow a2R), .str [97]] [] (fun r _ => r = .tup [.int .i64 3, .bool true]) := entry_ok a2R [97] (a2s2.each _ (by simp))
theorem a2p7 : FnOK Try.prog 84 [.sl ([a2R, a2N].map nodeRow), .int .i64 3, .int .i64 0] [] (fun r _ => r = .bool true) := within_ok [a2R, a2N] a2s2 3 2 0 true (by decide)
theorem a2p8 : FnOK Try.prog 84 [.sl ([a2R, a2N].map nodeRow), .int .i64 0, .int .i64 3] [] (fun r _ => r = .bool false) := within_ok [a2R, a2N] a2s2 0 2 3 false (by decide)
theorem a2p9 : FnOK Try.prog 35 [.sl ([a2R, a2N].map nodeRow), .int .i64 3] [] (fun r _ => r = .sl ([a2R].map nodeRow)) := drop_ok [a2R, a2N] 3 a2s2
theorem a2p10 : FnOK Try.prog 38 [.agg (nodeRow a2R), .str [97]] [] (fun r _ => r = .agg (nodeRow rootN)) := leave_ok a2R [97] (a2s2.each _ (by simp))
theorem a2p11 : FnOK Try.prog 86 [.sl ([a2R, a2N].map nodeRow)] [] (fun r _ => r = .sl ([a2R, a2N].map nodeRow)) := own_ok [a2R, a2N] a2s2
theorem a2p12 : FnOK Try.prog 85 [.sl ([a2R, a2N].map nodeRow), .sl ([a2R, a2N].map nodeRow)] [] (fun r _ => r = .bool true) := treeSame_ok [a2R, a2N] [a2R, a2N] a2s2 a2s2

set_option maxHeartbeats 2000000 in
theorem alive2 : FnOK Try.prog 31 [] [] (fun r _ => r = .bool true) := by
  refine fn_of_cwW tabOK (Go.Proofs.Try.func31) rfl (fun C => ?_)
  simp only [Go.Proofs.Try.ntmps31, Go.Proofs.Try.results31, go_sem]
  refine cw_go tabOK 99 (by simp only [go_sem]; try exact rfl) (by simp [go_sem]) ?_
  refine cw_call rfl rfl (by simp only [go_sem]; try exact rfl) (by simp [go_sem]) ⟨_, Go.Proofs.Try.func82, by kernel_rfl, rfl⟩ (by simp [go_sem]) (new_ok) (by simp [go_sem]) (by simp only [go_sem]; exact rfl) ?_
  refine cw_go tabOK 99 (by simp only [go_sem]; try exact rfl) (by simp [go_sem]) ?_
  refine cw_step rfl (trip_bytes tabOK rfl rfl rfl (id := 9) (n := 1) (by simp only [go_sem]; try exact rfl) (by simp only [go_sem]; exact rfl) (by decide) rfl rfl) ?_
  simp only [go_sem]
  refine cw_go tabOK 99 (by simp only [go_sem]; try exact rfl) (by simp [go_sem]) ?_
  refine cw_call rfl rfl (by simp only [go_sem]; try exact rfl) (by simp [go_sem]) ⟨_, Go.Proofs.Try.func32, by kernel_rfl, rfl⟩ (by simp [go_sem]) (by exact FnOK.nrm rfl (a2p1)) (by simp [go_sem]) (by simp only [go_sem]; exact rfl) ?_
  refine cw_go tabOK 99 (by simp only [go_sem]; try exact rfl) (by simp [go_sem]) ?_
  refine cw_condF (by simp only [go_sem]; try exact rfl) trivial (by rfl) ?_
  refine cw_go tabOK 99 (by simp only [go_sem, nodeRow, rootN, a2N]; try exact rfl) ?_ ?_
  · simp [nodeRow]
  refine cw_call rfl rfl (by simp only [go_sem]; try exact rfl) (by simp [go_sem]) ⟨_, Go.Proofs.Try.func37, by kernel_rfl, rfl⟩ (by simp [go_sem]) (a2p2) (by simp [go_sem]) (by simp only [go_sem]; exact rfl) ?_
  refine cw_go tabOK 99 (by simp only [go_sem]; try exact rfl) (by simp [go_sem]) ?_
  refine cw_call rfl rfl (by simp only [go_sem]; try exact rfl) (by simp [go_sem]) ⟨_, Go.Proofs.Try.func32, by kernel_rfl, rfl⟩ (by simp [go_sem]) (a2p3) (by simp [go_sem]) (by simp only [go_sem]; exact rfl) ?_
  refine cw_go tabOK 99 (by simp only [go_sem]; try exact rfl) (by simp [go_sem]) ?_
  refine cw_call rfl rfl (by simp only [go_sem]; try exact rfl) (by simp [go_sem]) ⟨_, Go.Proofs.Try.func33, by kernel_rfl, rfl⟩ (by simp [go_sem]) (a2p4) (by simp [go_sem]) (by simp only [go_sem]; exact rfl) ?_
  refine cw_go tabOK 99 (by simp only [go_sem, nodeRow, a2N]; try exact rfl) ?_ ?_
  · simp [nodeRow]
  refine cw_freeze 29 rfl (rfl) ?_
  simp only [go_sem]
  refine cw_call rfl rfl (by simp only [go_sem]; try exact rfl) (by simp [go_sem]) ⟨_, Go.Proofs.Try.func83, by kernel_rfl, rfl⟩ (by simp [go_sem]) (a2p5) (by simp [go_sem]) (by simp only [go_sem]; exact rfl) ?_
  refine cw_go tabOK 99 (by simp only [go_sem, nodeRow, a2R]; try exact rfl) ?_ ?_
  · simp [nodeRow]
  refine cw_call rfl rfl (by simp only [go_sem]; try exact rfl) (by simp [go_sem]) ⟨_, Go.Proofs.Try.func36, by kernel_rfl, rfl⟩ (by simp [go_sem]) (a2p6) (by simp [go_sem]) (by simp only [go_sem]; exact rfl) ?_
  refine cw_go tabOK 99 (by simp only [go_sem, nodeRow, a2N]; try exact rfl) ?_ ?_
  · simp [nodeRow]
  refine cw_callC rfl (by simp only [go_sem]; try exact rfl) (by simp only [go_sem]; try exact rfl) (by simp [go_sem]) ⟨_, Go.Proofs.Try.func84, by kernel_rfl, rfl⟩ (by simp [go_sem]) (fun hb => (a2p7)) (by simp [go_sem]) (by simp only [go_sem]; exact rfl) ?_
  refine cw_go tabOK 99 (by simp only [go_sem]; try exact rfl) (by simp [go_sem]) ?_
  refine cw_callC rfl (by simp only [go_sem]; try exact rfl) (by simp only [go_sem]; try exact rfl) (by simp [go_sem]) ⟨_, Go.Proofs.Try.func84, by kernel_rfl, rfl⟩ (by simp [go_sem]) (fun hb => (a2p8)) (by simp [go_sem]) (by simp only [go_sem]; exact rfl) ?_
  refine cw_go tabOK 99 (by simp only [go_sem]; try exact rfl) (by simp [go_sem]) ?_
  refine cw_callC rfl (by simp only [go_sem]; try exact rfl) (by simp only [go_sem]; try exact rfl) (by simp [go_sem]) ⟨_, Go.Proofs.Try.func35, by kernel_rfl, rfl⟩ (by simp [go_sem]) (fun hb => (a2p9)) (by simp [go_sem]) (by simp only [go_sem]; exact rfl) ?_
  refine cw_go tabOK 99 (by simp only [go_sem, nodeRow, a2R]; try exact rfl) ?_ ?_
  · simp [go_sem, nodeRow]
  refine cw_callC rfl (by simp only [go_sem]; try exact rfl) (by simp only [go_sem]; try exact rfl) (by simp [go_sem]) ⟨_, Go.Proofs.Try.func38, by kernel_rfl, rfl⟩ (by simp [go_sem]) (fun hb => (a2p10)) (by simp [go_sem]) (by simp only [go_sem]; exact rfl) ?_
  refine cw_go tabOK 99 (by simp only [go_sem, nodeRow, rootN]; try exact rfl) ?_ ?_
  · simp [go_sem, nodeRow]
  refine cw_callC rfl (by simp only [go_sem]; try exact rfl) (by simp only [go_sem]; try exact rfl) (by simp [go_sem]) ⟨_, Go.Proofs.Try.func86, by kernel_rfl, rfl⟩ (by simp [go_sem]) (fun hb => (a2p11)) (by simp [go_sem]) (by simp only [go_sem]; exact rfl) ?_
  refine cw_go tabOK 99 (by simp only [go_sem]; try exact rfl) (by simp [go_sem]) ?_
  refine cw_callC rfl (by simp only [go_sem]; try exact rfl) (by simp only [go_sem]; try exact rfl) (by simp [go_sem]) ⟨_, Go.Proofs.Try.func85, by kernel_rfl, rfl⟩ (by simp [go_sem]) (fun hb => (a2p12)) (by simp [go_sem]) (by simp only [go_sem]; exact rfl) ?_
  refine cw_go tabOK 99 (by simp only [go_sem]; try exact rfl) (by simp [go_sem]) ?_
  refine cw_ret ⟨_, _, (by simp only [go_sem]; try exact rfl), by simp [go_sem], _, .inr (.inl rfl), ?_⟩
  rfl
end La

namespace La

def fids (a : Act) : List Int := if a.kind = 3 then [a.fid] else if a.kind = 5 then [a.fid, a.dir, a.to] else [a.fid, a.dir]
def Rec.names (r : Rec) (fid : Int) : Bool := (fids r.act).contains fid
def isMade (fid : Int) (r : Rec) : Bool := r.act.fid == fid && (r.act.kind == 1 || r.act.kind == 2)
def touches (a : Act) (dir : Int) (name : List UInt8) : Bool :=
  if a.kind = 1 ∨ a.kind = 2 ∨ a.kind = 4 then a.dir == dir && a.name == name
  else if a.kind = 5 then (a.dir == dir && a.name == name) || (a.to == dir && a.toName == name) else false
/-- a record behind the making one bars that both go -/
def bars (fid dir : Int) (name : List UInt8) (x : Rec) : Bool := (x.act.kind != 3 && x.names fid) || touches x.act dir name
def cancels (l : List Rec) (r : Rec) : Bool :=
  match l.findIdx? (isMade r.act.fid) with
  | none => false
  | some k => r.act.kind == 4 && (l.getD k default).act.dir == r.act.dir && (l.getD k default).act.name == r.act.name && !((l.drop (k + 1)).any (bars r.act.fid (l.getD k default).act.dir (l.getD k default).act.name))
def stored (r x : Rec) : Bool := x.act.kind == 3 && x.act.fid == r.act.fid
def unstored (l : List Rec) (r : Rec) : List Rec := if r.act.kind = 3 then l.filter fun x => !(stored r x) else l
/-- none: there is no room -/
def addLog (l : List Rec) (r : Rec) : Option (List Rec) :=
  if cancels l r then some (l.filter fun x => !(x.names r.act.fid))
  else if (unstored l r).length ≥ 20 then none else some (unstored l r ++ [r])

theorem unstored_sub (l : List Rec) (r : Rec) : (unstored l r).Sublist l := by
  unfold unstored
  split
  · exact List.filter_sublist
  · exact List.Sublist.refl _

/-! ### What the document's answer does: one pass, with a state -/

def addStep (r : Rec) (s : Int) (x : Rec) : Int :=
  if s = 0 then (if isMade r.act.fid x then (if x.act.dir = r.act.dir ∧ x.act.name = r.act.name then 1 else 2) else 0)
  else if s = 1 then (if bars r.act.fid r.act.dir r.act.name x then 2 else 1) else s

theorem addStep_two (r : Rec) : ∀ l : List Rec, l.foldl (addStep r) 2 = 2
  | [] => rfl
  | x :: l => by simp only [List.foldl_cons]; rw [show addStep r 2 x = 2 from by simp [addStep]]; exact addStep_two r l

theorem addStep_one (r : Rec) : ∀ l : List Rec, l.foldl (addStep r) 1 = if l.any (bars r.act.fid r.act.dir r.act.name) then 2 else 1
  | [] => rfl
  | x :: l => by
    simp only [List.foldl_cons, List.any_cons]
    by_cases h : bars r.act.fid r.act.dir r.act.name x = true
    · rw [show addStep r 1 x = 2 from by simp [addStep, h], addStep_two]; simp [h]
    · rw [show addStep r 1 x = 1 from by simp [addStep, h], addStep_one]; simp [h]

/-- the state at the end tells whether both go -/
theorem addStep_cancels (r : Rec) (hk : r.act.kind = 4) : ∀ l : List Rec, (l.foldl (addStep r) 0 == 1) = cancels l r
  | [] => rfl
  | x :: l => by
    have ih := addStep_cancels r hk l
    simp only [List.foldl_cons]
    unfold cancels at ih ⊢
    rw [List.findIdx?_cons]
    by_cases h : isMade r.act.fid x = true
    · simp only [h, if_true]
      by_cases h2 : x.act.dir = r.act.dir ∧ x.act.name = r.act.name
      · rw [show addStep r 0 x = 1 from by simp [addStep, h, h2], addStep_one]
        simp only [List.getD_cons_zero, h2.1, h2.2, hk, List.drop_succ_cons, List.drop_zero, Nat.zero_add]
        cases (l.any (bars r.act.fid r.act.dir r.act.name)) <;> simp
      · rw [show addStep r 0 x = 2 from by simp only [addStep, h, if_true, if_neg h2], addStep_two]
        simp only [List.getD_cons_zero]
        by_cases h3 : x.act.dir = r.act.dir
        · have h4 : ¬ x.act.name = r.act.name := fun e => h2 ⟨h3, e⟩
          simp [h4]
        · simp [h3]
    · rw [show addStep r 0 x = 0 from by simp [addStep, h], ih]
      simp only [h, if_false, Bool.false_eq_true]
      cases e : l.findIdx? (isMade r.act.fid) with
      | none => simp
      | some k => simp

/-- what the law LogsOrder asks -/
theorem addLog_order {l x : List Rec} {r : Rec} (h : addLog l r = some x) : (if x.getLast? = some r then x.dropLast else x).Sublist l := by
  unfold addLog at h
  split at h
  · simp only [Option.some.injEq] at h
    subst h
    split
    · exact (List.dropLast_sublist _).trans List.filter_sublist
    · exact List.filter_sublist
  · split at h
    · cases h
    · simp only [Option.some.injEq] at h
      subst h
      rw [if_pos (by simp), List.dropLast_concat]
      exact unstored_sub l r

theorem addLog_none {l : List Rec} {r : Rec} (h : addLog l r = none) : 20 ≤ l.length := by
  unfold addLog at h
  split at h
  · cases h
  · split at h
    · rename_i h2
      have := (unstored_sub l r).length_le
      omega
    · cases h

theorem addLog_short {l x : List Rec} {r : Rec} (h : addLog l r = some x) : x.length ≤ l.length + 1 := by
  unfold addLog at h
  split at h
  · simp only [Option.some.injEq] at h; subst h; have := List.length_filter_le (fun x => !(x.names r.act.fid)) l; omega
  · split at h
    · cases h
    · simp only [Option.some.injEq] at h; subst h
      have := (unstored_sub l r).length_le
      simp; omega
end La

namespace La
open Go Go.Eng Go.Proofs
set_option maxRecDepth 10000
set_option linter.unusedSimpArgs false

def Act.Small (a : Act) : Prop := a.data.length ≤ 100000000
structure SmallL (l : List Rec) : Prop where
  len : l.length ≤ 100000000
  each : ∀ r, r ∈ l → r.act.Small

theorem acts_own (a : Act) (ha : a.Small) : FnOK Try.prog 72 [.agg (actRow a)] [] (fun r _ => r = .agg (actRow a)) := by
  unfold actRow
  refine fn_of_cwW tabOK (Go.Proofs.Try.func72) rfl (fun C => ?_)
  simp only [Go.Proofs.Try.ntmps72, Go.Proofs.Try.results72, go_sem]
  refine cw_go tabOK 99 (by simp only [go_sem]; try exact rfl) (by simp [go_sem]) ?_
  refine cw_call rfl rfl (by simp only [go_sem]; try exact rfl) (by simp [go_sem]) ⟨_, Go.Proofs.Try.func128, by kernel_rfl, rfl⟩ (by simp [go_sem]) (clone_bytes _ ha) (by simp [go_sem]) (by simp only [go_sem]; exact rfl) ?_
  refine cw_go tabOK 99 (by simp only [go_sem]; try exact rfl) (by simp [go_sem]) ?_
  refine cw_ret ⟨_, _, (by simp only [go_sem]; try exact rfl), by simp [go_sem], _, .inr (.inl rfl), ?_⟩
  rfl

theorem logs_ownH (l : List Rec) (hl : SmallL l) : FnOK Try.prog 19 [.sl (l.map recRow)] [] (fun r H => r = .osl 19 9 0 (l.map recRow).length ∧ ∀ i b, hget [(19, .cells 27 9 (l.map recRow))] i = some b → hget H i = some b) := by
  have hlen := hl.len
  refine fn_of_cwW tabOK (Go.Proofs.Try.func19) rfl (fun C => ?_)
  simp only [Go.Proofs.Try.ntmps19, Go.Proofs.Try.results19, go_sem]
  refine cw_go tabOK 99 (by simp only [go_sem]; try exact rfl) (by simp [go_sem]) ?_
  refine cw_loopS (fun i : Nat => i ≤ l.length) (fun i => l.length - i) (fun i => [(3, .osl 19 9 0 i), (5, .any), (8, .int .i64 i), (9, .any), (10, .any), (11, .any), (12, .any), (13, .any), (14, .any), (15, .any), (16, .any), (17, .any), (18, .any), (19, .any), (20, .any)])
    (fun i => [(19, .cells 27 9 ((l.take i).map recRow))]) 0 (by omega) ?_ fun i hi => ?_
  · simp only [go_sem]
    exact le_sub (by simp [go_sem]) (by simp [go_sem]) (by simp only [go_sem])
  simp only [go_sem]
  refine cw_go tabOK 99 (by simp only [go_sem]; try exact rfl) (by simp [go_sem]) ?_
  refine cw_cond (by simp only [go_sem]; try exact rfl) trivial (fun h => ?_) (fun h => ?_)
  · have hlt : i < l.length := by simp at h; omega
    have hn := hl.each _ (getD_mem hlt)
    have hg : (l.map recRow).getD i [] = recRow (l.getD i default) := Fam.getD hlt
    have hs := take_succ_map recRow hlt
    generalize l.getD i default = n at hn hg hs
    refine cw_go tabOK 99 (by simp only [go_sem, hg, recRow]; try exact rfl) ?_ ?_
    · simp [hlt, recRow]
    refine cw_call rfl rfl (by simp only [go_sem]; try exact rfl) (by simp [go_sem]) ⟨_, Go.Proofs.Try.func72, by kernel_rfl, rfl⟩ (by simp [go_sem]) (acts_own n.act hn) (by simp [go_sem]) (by simp only [go_sem]; exact rfl) ?_
    have ht : List.take i (List.map recRow (List.take i l)) = List.map recRow (List.take i l) := List.take_of_length_le (by simp; omega)
    have hw : IntKind.i64.wrap ((i : Int) + 1) = (i : Int) + 1 := wrap_small (by omega) (by omega)
    refine cw_go tabOK 99 (by simp only [go_sem, ht, hw, actRow]; try exact rfl) ?_ ?_
    · simp [rowsOf]; omega
    refine cw_back ⟨i + 1, by omega, by omega, le_sub ?_ ?_ ?_⟩
    · simp [go_sem]
    · simp [go_sem, hs, recRow]
    · simp only [go_sem]
  · have e : i = l.length := by simp at h; omega
    subst e
    refine cw_go tabOK 99 (by simp only [go_sem]; try exact rfl) (by simp [go_sem]) ?_
    refine cw_ret ⟨_, _, (by simp only [go_sem]; try exact rfl), by simp [go_sem], _, .inr (.inl rfl), ?_⟩
    simp [go_sem]

theorem logs_own (l : List Rec) (hl : SmallL l) : FnOK Try.prog 19 [.sl (l.map recRow)] [] (fun r _ => r = .sl (l.map recRow)) := FnOK.read (logs_ownH l hl) (recRow_pure _)

theorem logs_acts (l : List Rec) (hl : SmallL l) : FnOK Try.prog 20 [.sl (l.map recRow)] [] (fun r _ => r = .sl ((l.map Rec.act).map actRow)) := by
  have hlen := hl.len
  refine fn_of_cwW tabOK (Go.Proofs.Try.func20) rfl (fun C => ?_)
  simp only [Go.Proofs.Try.ntmps20, Go.Proofs.Try.results20, go_sem]
  refine cw_go tabOK 99 (by simp only [go_sem]; try exact rfl) (by simp [go_sem]) ?_
  refine cw_loopS (fun i : Nat => i ≤ l.length) (fun i => l.length - i) (fun i => [(3, .osl 17 7 0 i), (5, .any), (8, .int .i64 i), (9, .any), (10, .any), (11, .any), (12, .any), (13, .any), (14, .any), (15, .any), (16, .any), (17, .any), (18, .any)])
    (fun i => [(17, .cells 25 7 (((l.map Rec.act).take i).map actRow))]) 0 (by omega) ?_ fun i hi => ?_
  · simp only [go_sem]
    exact le_sub (by simp [go_sem]) (by simp [go_sem]) (by simp only [go_sem])
  simp only [go_sem]
  refine cw_go tabOK 99 (by simp only [go_sem]; try exact rfl) (by simp [go_sem]) ?_
  refine cw_cond (by simp only [go_sem]; try exact rfl) trivial (fun h => ?_) (fun h => ?_)
  · have hlt : i < l.length := by simp at h; omega
    have hn := hl.each _ (getD_mem hlt)
    have hg : (l.map recRow).getD i [] = recRow (l.getD i default) := Fam.getD hlt
    have hs := take_succ_map actRow (l := l.map Rec.act) (i := i) (by simpa using hlt)
    have he : (l.map Rec.act).getD i default = (l.getD i default).act := by
      rw [List.getD_eq_getElem?_getD, List.getD_eq_getElem?_getD, List.getElem?_map, List.getElem?_eq_getElem hlt]; rfl
    rw [he] at hs
    generalize l.getD i default = n at hn hg hs
    refine cw_go tabOK 99 (by simp only [go_sem, hg, recRow]; try exact rfl) ?_ ?_
    · simp [hlt, recRow]
    refine cw_call rfl rfl (by simp only [go_sem]; try exact rfl) (by simp [go_sem]) ⟨_, Go.Proofs.Try.func72, by kernel_rfl, rfl⟩ (by simp [go_sem]) (acts_own n.act hn) (by simp [go_sem]) (by simp only [go_sem]; exact rfl) ?_
    have ht : List.take i (List.map actRow (List.take i (l.map Rec.act))) = List.map actRow (List.take i (l.map Rec.act)) := List.take_of_length_le (by simp; omega)
    have hw : IntKind.i64.wrap ((i : Int) + 1) = (i : Int) + 1 := wrap_small (by omega) (by omega)
    refine cw_go tabOK 99 (by simp only [go_sem, ht, hw, actRow]; try exact rfl) ?_ ?_
    · simp [rowsOf]; omega
    refine cw_back ⟨i + 1, by omega, by omega, le_sub ?_ ?_ ?_⟩
    · simp [go_sem]
    · simp [go_sem, hs, actRow]
    · simp only [go_sem]
  · have e : i = l.length := by simp at h; omega
    subst e
    have e2 : List.take l.length (l.map Rec.act) = l.map Rec.act := List.take_of_length_le (by simp)
    rw [e2]
    refine cw_freeze 17 rfl (actRow_pure _) ?_
    simp only [go_sem]
    refine cw_go tabOK 99 (by simp only [go_sem]; try exact rfl) (by simp [go_sem]) ?_
    refine cw_ret ⟨_, _, (by simp only [go_sem]; try exact rfl), by simp [go_sem], _, .inr (.inl rfl), ?_⟩
    simp
end La

namespace La
open Go Go.Eng Go.Proofs
set_option maxRecDepth 10000
set_option linter.unusedSimpArgs false
set_option linter.unusedVariables false

structure Srv where
  tree : List Node
  next : Int
  past : List Past
def srvRow (s : Srv) : List AV := [.sl (s.tree.map nodeRow), .int .i64 s.next, .sl (s.past.map pastRow)]
@[go_sem, simp] theorem srvRow_refsL (s : Srv) : refsL (srvRow s) = [] := rfl
theorem version_ok (s : Srv) (h : s.past.length ≤ 100000000) : FnOK Try.prog 119 [.agg (srvRow s)] [] (fun r _ => r = .int .i64 ((s.past.length + 1 : Nat) : Int)) := by
  have hw : IntKind.i64.wrap ((s.past.length : Int) + 1) = ((s.past.length + 1 : Nat) : Int) := by rw [Eng.wrap_small (by omega) (by omega)]; rfl
  unfold srvRow
  refine fn_of_cwW tabOK (Go.Proofs.Try.func119) rfl (fun C => ?_)
  simp only [Go.Proofs.Try.ntmps119, Go.Proofs.Try.results119, go_sem]
  refine cw_go tabOK 99 (by simp only [go_sem, hw]; try exact rfl) (by simp [go_sem, hw]) ?_
  refine cw_ret ⟨_, _, (by simp only [go_sem]; try exact rfl), by simp [go_sem], _, .inr (.inl rfl), ?_⟩
  rfl
theorem snew_raw : FnOK Try.prog 62 [] [] (fun r _ => r = .agg [.sl [[.int .i64 0, .bool true, .nils, .nils, .int .i64 0]], .int .i64 1, .nils]) := by
  refine fn_of_cwW tabOK (Go.Proofs.Try.func62) rfl (fun C => ?_)
  simp only [Go.Proofs.Try.ntmps62, Go.Proofs.Try.results62, go_sem]
  refine cw_go tabOK 99 (by simp only [go_sem]; try exact rfl) (by simp [go_sem]) ?_
  refine cw_call rfl rfl (by simp only [go_sem]; try exact rfl) (by simp [go_sem]) ⟨_, Go.Proofs.Try.func82, by kernel_rfl, rfl⟩ (by simp [go_sem]) (new_ok) (by simp [go_sem]) (by simp only [go_sem]; exact rfl) ?_
  refine cw_go tabOK 99 (by simp only [go_sem]; try exact rfl) (by simp [go_sem]) ?_
  refine cw_ret ⟨_, _, (by simp only [go_sem]; try exact rfl), by simp [go_sem], _, .inr (.inl rfl), ?_⟩
  rfl
theorem snew_ok : FnOK Try.prog 62 [] [] (fun r _ => r = .agg (srvRow ⟨[rootN], 1, []⟩)) := FnOK.nrmR snew_raw rfl

structure SmallP (l : List Past) : Prop where
  len : l.length ≤ 90000000
  each : ∀ p, p ∈ l → p.act.data.length ≤ 100000000
theorem sown_ok (s : Srv) (ht : Small s.tree) (hp : SmallP s.past) : FnOK Try.prog 120 [.agg (srvRow s)] [] (fun r _ => r = .agg (srvRow s)) := by
  have hlen := hp.len
  unfold srvRow
  refine fn_of_cwW tabOK (Go.Proofs.Try.func120) rfl (fun C => ?_)
  simp only [Go.Proofs.Try.ntmps120, Go.Proofs.Try.results120, go_sem]
  refine cw_go tabOK 99 (by simp only [go_sem]; try exact rfl) (by simp [go_sem]) ?_
  refine cw_freeze 1 rfl (rfl) ?_
  simp only [go_sem]
  refine cw_draw mixed ?_
  refine seg_start rfl ?_
  refine seg_runN tabOK 2 (by simp only [go_sem]; exact rfl) (by simp only [go_sem]; exact rfl) (by simp only [go_sem]; try exact rfl) (by simp [go_sem]) (by simp only [go_sem]; exact rfl) ?_
  refine seg_call rfl rfl (by simp only [go_sem]; try exact rfl) (by simp [go_sem]) ⟨_, Go.Proofs.Try.func86, by kernel_rfl, rfl⟩ (by simp [go_sem]) (own_ok s.tree ht) (by simp [go_sem]) (by simp only [go_sem]; exact rfl) (by simp only [go_sem]; exact rfl) ?_
  refine seg_runN tabOK 2 (by simp only [go_sem]; exact rfl) (by simp only [go_sem]; exact rfl) (by simp only [go_sem]; try exact rfl) (by simp [go_sem]) (by simp only [go_sem]; exact rfl) ?_
  refine seg_build tabOK rfl (by simp only [go_sem]; try exact rfl) (by simp only [go_sem]; try exact rfl) (by simp [go_sem]) (by simp only [go_sem, cond_true, cond_false]; exact rfl) (by simp only [go_sem]; exact rfl) (by simp only [go_sem]; exact rfl) ?_
  refine seg_new tabOK rfl (by simp only [go_sem]; try exact rfl) (by simp only [go_sem]; try exact rfl) (by simp [go_sem]) (by simp only [go_sem]; try exact rfl) (by simp only [go_sem]; exact rfl) (by simp only [go_sem]; exact rfl) ?_
  refine seg_end (by kernel_rfl) (by simp only [go_sem]; exact rfl) ?_
  refine draw_step tabOK rfl (by kernel_rfl) rfl (by simp only [go_sem]; try exact rfl) (by simp [go_sem]) rfl ?_
  refine draw_close (by kernel_rfl) ?_
  try simp only [go_sem, List.getElem_toArray, List.getElem_cons_succ, List.getElem_cons_zero]
  refine cw_go tabOK 99 (by simp only [go_sem]; try exact rfl) (by simp [go_sem]) ?_
  refine cw_le (le_nilB 28 8 3 (by simp only [go_sem]; try exact rfl) (by simp only [go_sem]; try exact rfl)) ?_
  refine cw_le (le_empty 28 158 8 (by simp only [go_sem]; try exact rfl)) ?_
  simp only [go_sem]
  refine cw_loopS (fun i : Nat => i ≤ s.past.length) (fun i => s.past.length - i) (fun i => [(5, .any), (15, .int .i64 i), (16, .any), (17, .any), (18, .any), (19, .any), (20, .any), (21, .any), (22, .any), (23, .any), (24, .any), (25, .any), (26, .any), (27, .any), (28, .any), (29, .any), (30, .any)])
    (fun i => [(3, .cells 97 3 [[.sl (s.tree.map nodeRow), .int .i64 s.next, .osl 28 8 0 i]]), (28, .cells 158 8 ((s.past.take i).map pastRow))]) 0 (by omega) ?_ fun i hi => ?_
  · simp only [go_sem]
    exact le_sub (by simp [go_sem]) (by simp [go_sem]) (by simp only [go_sem])
  simp only [go_sem]
  refine cw_go tabOK 99 (by simp only [go_sem]; try exact rfl) (by simp [go_sem]) ?_
  refine cw_cond (by simp only [go_sem]; try exact rfl) trivial (fun h => ?_) (fun h => ?_)
  · have hlt : i < s.past.length := by simp at h; omega
    have hw : IntKind.i64.wrap ((i : Int) + 1) = ((i + 1 : Nat) : Int) := by rw [Eng.wrap_small (by omega) (by omega)]; rfl
    have hg : (s.past.map pastRow).getD i [] = pastRow (s.past.getD i default) := Fam.getD hlt
    have hs := take_succ_map pastRow hlt
    have ha := hp.each _ (getD_mem hlt)
    generalize s.past.getD i default = x at *
    refine cw_go tabOK 99 (by simp only [go_sem, hg, pastRow]; try exact rfl) ?_ ?_
    · simp [hg, pastRow, hlt]
    refine cw_freeze 5 rfl (rfl) ?_
    simp only [go_sem]
    refine cw_draw mixed ?_
    refine seg_start rfl ?_
    refine seg_runN tabOK 6 (by simp only [go_sem]; exact rfl) (by simp only [go_sem]; exact rfl) (by simp only [go_sem]; try exact rfl) (by simp [go_sem]) (by simp only [go_sem]; exact rfl) ?_
    refine seg_call rfl rfl (by simp only [go_sem]; try exact rfl) (by simp [go_sem]) ⟨_, Go.Proofs.Try.func72, by kernel_rfl, rfl⟩ (by simp [go_sem]) (acts_own x.act ha) (by simp [go_sem]) (by simp only [go_sem]; exact rfl) (by simp only [go_sem]; exact rfl) ?_
    simp only [go_sem, actRow]
    refine seg_build tabOK rfl (by simp only [go_sem]; try exact rfl) (by simp only [go_sem]; try exact rfl) (by simp [go_sem]) (by simp only [go_sem, cond_true, cond_false]; exact rfl) (by simp only [go_sem]; exact rfl) (by simp only [go_sem]; exact rfl) ?_
    refine seg_new tabOK rfl (by simp only [go_sem]; try exact rfl) (by simp only [go_sem]; try exact rfl) (by simp [go_sem]) (by simp only [go_sem]; try exact rfl) (by simp only [go_sem]; exact rfl) (by simp only [go_sem]; exact rfl) ?_
    refine seg_end (by kernel_rfl) (by simp only [go_sem]; exact rfl) ?_
    refine draw_le (le_killB 28 3 (by simp only [go_sem]; exact rfl) (by simp only [go_sem, kill]; exact rfl)) ?_
    simp only [go_sem]
    refine draw_step tabOK rfl (by kernel_rfl) rfl (by simp only [go_sem]; try exact rfl) ?_ rfl ?_
    · simp [go_sem, rowsOf]
      refine ⟨by omega, by omega, fun x hx y hy hr => ?_⟩
      have h1 := List.mem_of_mem_take (List.mem_of_mem_take hx)
      have := List.all_eq_true.1 (List.all_eq_true.1 (pastRow_noRef 28 s.past) x h1) y hy
      simp only [Bool.not_eq_true', List.contains_eq_mem, decide_eq_false_iff_not] at this
      exact this hr
    simp only [go_sem]
    refine draw_step tabOK rfl (by kernel_rfl) rfl (by simp only [go_sem]; try exact rfl) (by simp [go_sem]) rfl ?_
    refine draw_step tabOK rfl (by kernel_rfl) rfl (by simp only [go_sem]; try exact rfl) (by simp [go_sem]) rfl ?_
    refine draw_close (by kernel_rfl) ?_
    try simp only [go_sem, List.getElem_toArray, List.getElem_cons_succ, List.getElem_cons_zero]
    refine cw_go tabOK 99 (by simp only [go_sem, hw]; try exact rfl) (by simp [go_sem, hw]) ?_
    refine cw_back ⟨i + 1, by omega, by omega, le_sub ?_ ?_ ?_⟩
    · simp [go_sem]
    · simp [go_sem, hs, pastRow, List.take_take]
    · simp only [go_sem]
  · have e : i = s.past.length := by simp at h; omega
    subst e
    refine cw_go tabOK 99 (by simp only [go_sem]; try exact rfl) (by simp [go_sem]) ?_
    refine cw_freeze 28 rfl (pastRow_pure _) ?_
    simp only [go_sem]
    refine cw_ret ⟨_, _, (by simp only [go_sem]; try exact rfl), by simp [go_sem], _, .inr (.inl rfl), ?_⟩
    simp
theorem sown_okH (s : Srv) (ht : Small s.tree) (hp : SmallP s.past) : FnOK Try.prog 120 [.agg (srvRow s)] [] (fun r H => r = .agg [.sl (s.tree.map nodeRow), .int .i64 s.next, .osl 28 8 0 s.past.length] ∧ ∀ i b, hget [(28, .cells 158 8 (s.past.map pastRow))] i = some b → hget H i = some b) := by
  have hlen := hp.len
  unfold srvRow
  refine fn_of_cwW tabOK (Go.Proofs.Try.func120) rfl (fun C => ?_)
  simp only [Go.Proofs.Try.ntmps120, Go.Proofs.Try.results120, go_sem]
  refine cw_go tabOK 99 (by simp only [go_sem]; try exact rfl) (by simp [go_sem]) ?_
  refine cw_freeze 1 rfl (rfl) ?_
  simp only [go_sem]
  refine cw_draw mixed ?_
  refine seg_start rfl ?_
  refine seg_runN tabOK 2 (by simp only [go_sem]; exact rfl) (by simp only [go_sem]; exact rfl) (by simp only [go_sem]; try exact rfl) (by simp [go_sem]) (by simp only [go_sem]; exact rfl) ?_
  refine seg_call rfl rfl (by simp only [go_sem]; try exact rfl) (by simp [go_sem]) ⟨_, Go.Proofs.Try.func86, by kernel_rfl, rfl⟩ (by simp [go_sem]) (own_ok s.tree ht) (by simp [go_sem]) (by simp only [go_sem]; exact rfl) (by simp only [go_sem]; exact rfl) ?_
  refine seg_runN tabOK 2 (by simp only [go_sem]; exact rfl) (by simp only [go_sem]; exact rfl) (by simp only [go_sem]; try exact rfl) (by simp [go_sem]) (by simp only [go_sem]; exact rfl) ?_
  refine seg_build tabOK rfl (by simp only [go_sem]; try exact rfl) (by simp only [go_sem]; try exact rfl) (by simp [go_sem]) (by simp only [go_sem, cond_true, cond_false]; exact rfl) (by simp only [go_sem]; exact rfl) (by simp only [go_sem]; exact rfl) ?_
  refine seg_new tabOK rfl (by simp only [go_sem]; try exact rfl) (by simp only [go_sem]; try exact rfl) (by simp [go_sem]) (by simp only [go_sem]; try exact rfl) (by simp only [go_sem]; exact rfl) (by simp only [go_sem]; exact rfl) ?_
  refine seg_end (by kernel_rfl) (by simp only [go_sem]; exact rfl) ?_
  refine draw_step tabOK rfl (by kernel_rfl) rfl (by simp only [go_sem]; try exact rfl) (by simp [go_sem]) rfl ?_
  refine draw_close (by kernel_rfl) ?_
  try simp only [go_sem, List.getElem_toArray, List.getElem_cons_succ, List.getElem_cons_zero]
  refine cw_go tabOK 99 (by simp only [go_sem]; try exact rfl) (by simp [go_sem]) ?_
  refine cw_le (le_nilB 28 8 3 (by simp only [go_sem]; try exact rfl) (by simp only [go_sem]; try exact rfl)) ?_
  refine cw_le (le_empty 28 158 8 (by simp only [go_sem]; try exact rfl)) ?_
  simp only [go_sem]
  refine cw_loopS (fun i : Nat => i ≤ s.past.length) (fun i => s.past.length - i) (fun i => [(5, .any), (15, .int .i64 i), (16, .any), (17, .any), (18, .any), (19, .any), (20, .any), (21, .any), (22, .any), (23, .any), (24, .any), (25, .any), (26, .any), (27, .any), (28, .any), (29, .any), (30, .any)])
    (fun i => [(3, .cells 97 3 [[.sl (s.tree.map nodeRow), .int .i64 s.next, .osl 28 8 0 i]]), (28, .cells 158 8 ((s.past.take i).map pastRow))]) 0 (by omega) ?_ fun i hi => ?_
  · simp only [go_sem]
    exact le_sub (by simp [go_sem]) (by simp [go_sem]) (by simp only [go_sem])
  simp only [go_sem]
  refine cw_go tabOK 99 (by simp only [go_sem]; try exact rfl) (by simp [go_sem]) ?_
  refine cw_cond (by simp only [go_sem]; try exact rfl) trivial (fun h => ?_) (fun h => ?_)
  · have hlt : i < s.past.length := by simp at h; omega
    have hw : IntKind.i64.wrap ((i : Int) + 1) = ((i + 1 : Nat) : Int) := by rw [Eng.wrap_small (by omega) (by omega)]; rfl
    have hg : (s.past.map pastRow).getD i [] = pastRow (s.past.getD i default) := Fam.getD hlt
    have hs := take_succ_map pastRow hlt
    have ha := hp.each _ (getD_mem hlt)
    generalize s.past.getD i default = x at *
    refine cw_go tabOK 99 (by simp only [go_sem, hg, pastRow]; try exact rfl) ?_ ?_
    · simp [hg, pastRow, hlt]
    refine cw_freeze 5 rfl (rfl) ?_
    simp only [go_sem]
    refine cw_draw mixed ?_
    refine seg_start rfl ?_
    refine seg_runN tabOK 6 (by simp only [go_sem]; exact rfl) (by simp only [go_sem]; exact rfl) (by simp only [go_sem]; try exact rfl) (by simp [go_sem]) (by simp only [go_sem]; exact rfl) ?_
    refine seg_call rfl rfl (by simp only [go_sem]; try exact rfl) (by simp [go_sem]) ⟨_, Go.Proofs.Try.func72, by kernel_rfl, rfl⟩ (by simp [go_sem]) (acts_own x.act ha) (by simp [go_sem]) (by simp only [go_sem]; exact rfl) (by simp only [go_sem]; exact rfl) ?_
    simp only [go_sem, actRow]
    refine seg_build tabOK rfl (by simp only [go_sem]; try exact rfl) (by simp only [go_sem]; try exact rfl) (by simp [go_sem]) (by simp only [go_sem, cond_true, cond_false]; exact rfl) (by simp only [go_sem]; exact rfl) (by simp only [go_sem]; exact rfl) ?_
    refine seg_new tabOK rfl (by simp only [go_sem]; try exact rfl) (by simp only [go_sem]; try exact rfl) (by simp [go_sem]) (by simp only [go_sem]; try exact rfl) (by simp only [go_sem]; exact rfl) (by simp only [go_sem]; exact rfl) ?_
    refine seg_end (by kernel_rfl) (by simp only [go_sem]; exact rfl) ?_
    refine draw_le (le_killB 28 3 (by simp only [go_sem]; exact rfl) (by simp only [go_sem, kill]; exact rfl)) ?_
    simp only [go_sem]
    refine draw_step tabOK rfl (by kernel_rfl) rfl (by simp only [go_sem]; try exact rfl) ?_ rfl ?_
    · simp [go_sem, rowsOf]
      refine ⟨by omega, by omega, fun x hx y hy hr => ?_⟩
      have h1 := List.mem_of_mem_take (List.mem_of_mem_take hx)
      have := List.all_eq_true.1 (List.all_eq_true.1 (pastRow_noRef 28 s.past) x h1) y hy
      simp only [Bool.not_eq_true', List.contains_eq_mem, decide_eq_false_iff_not] at this
      exact this hr
    simp only [go_sem]
    refine draw_step tabOK rfl (by kernel_rfl) rfl (by simp only [go_sem]; try exact rfl) (by simp [go_sem]) rfl ?_
    refine draw_step tabOK rfl (by kernel_rfl) rfl (by simp only [go_sem]; try exact rfl) (by simp [go_sem]) rfl ?_
    refine draw_close (by kernel_rfl) ?_
    try simp only [go_sem, List.getElem_toArray, List.getElem_cons_succ, List.getElem_cons_zero]
    refine cw_go tabOK 99 (by simp only [go_sem, hw]; try exact rfl) (by simp [go_sem, hw]) ?_
    refine cw_back ⟨i + 1, by omega, by omega, le_sub ?_ ?_ ?_⟩
    · simp [go_sem]
    · simp [go_sem, hs, pastRow, List.take_take]
    · simp only [go_sem]
  · have e : i = s.past.length := by simp at h; omega
    subst e
    refine cw_go tabOK 99 (by simp only [go_sem]; try exact rfl) (by simp [go_sem]) ?_
    refine cw_ret ⟨_, _, (by simp only [go_sem]; try exact rfl), by simp [go_sem], _, .inr (.inl rfl), ?_⟩
    simp [go_sem]
end La

namespace La
open Go Go.Eng Go.Proofs
set_option maxRecDepth 10000
set_option linter.unusedSimpArgs false
set_option linter.unusedVariables false

theorem tnew_ok : FnOK Try.prog 82 [] [] (fun r _ => r = .sl ([rootN].map nodeRow)) := FnOK.nrmR new_ok rfl
theorem replay_ok (l : List Past) (st : Nat → List Node) (hlen : l.length ≤ 90000000) (h0 : st 0 = [rootN])
    (hs : ∀ i, i < l.length → Good (st i) ∧ ActFit (l.getD i default).act ∧ applyE (st i) (l.getD i default).act = 0 ∧ st (i + 1) = applyL (st i) (l.getD i default).act ((i + 1 : Nat) : Int)) :
    FnOK Try.prog 65 [.sl (l.map pastRow)] [] (fun r _ => r = .tup [.sl ((st l.length).map nodeRow), .int .i64 0]) := by
  have hn : FnOK Try.prog 82 [] [] (fun r _ => r = .sl ((st 0).map nodeRow)) := by rw [h0]; exact tnew_ok
  refine fn_of_cwW tabOK (Go.Proofs.Try.func65) rfl (fun C => ?_)
  simp only [Go.Proofs.Try.ntmps65, Go.Proofs.Try.results65, go_sem]
  refine cw_go tabOK 99 (by simp only [go_sem]; try exact rfl) (by simp [go_sem]) ?_
  refine cw_call rfl rfl (by simp only [go_sem]; try exact rfl) (by simp [go_sem]) ⟨_, Go.Proofs.Try.func82, by kernel_rfl, rfl⟩ (by simp [go_sem]) (hn) (by simp [go_sem]) (by simp only [go_sem]; exact rfl) ?_
  refine cw_go tabOK 99 (by simp only [go_sem]; try exact rfl) (by simp [go_sem]) ?_
  refine cw_loopS (fun i : Nat => i ≤ l.length) (fun i => l.length - i) (fun i => [(4, .sl ((st i).map nodeRow)), (5, .any), (6, .any), (7, .any), (8, .any), (12, .int .i64 i), (13, .any), (14, .any), (15, .any), (16, .any), (17, .any), (18, .any), (19, .any), (20, .any), (21, .any), (22, .any), (23, .any), (24, .any), (25, .any), (26, .any), (27, .any), (28, .any), (29, .any), (30, .any)]) (fun _ => []) 0 (by omega) ?_ fun i hi => ?_
  · simp only [go_sem]
    exact le_sub (by simp [go_sem]) (by simp [go_sem]) (by simp [go_sem])
  simp only [go_sem]
  refine cw_go tabOK 99 (by simp only [go_sem]; try exact rfl) (by simp [go_sem]) ?_
  refine cw_cond (by simp only [go_sem]; try exact rfl) trivial (fun h => ?_) (fun h => ?_)
  · have hlt : i < l.length := by simp at h; omega
    have hg : (l.map pastRow).getD i [] = pastRow (l.getD i default) := Fam.getD hlt
    have hw : IntKind.i64.wrap ((i : Int) + 1) = ((i + 1 : Nat) : Int) := by rw [Eng.wrap_small (by omega) (by omega)]; rfl
    obtain ⟨h1, h2, h3, h4⟩ := hs i hlt
    have hap := apply_good h1 (l.getD i default).act ((i + 1 : Nat) : Int) h2
    unfold applyR at hap
    rw [if_pos h3, ← h4] at hap
    generalize l.getD i default = a at hg hap
    refine cw_go tabOK 99 (by simp only [go_sem, hg, pastRow, hw]; try exact rfl) ?_ ?_
    · simp [hg, hlt, pastRow]
    refine cw_freeze 6 rfl (rfl) ?_
    simp only [go_sem]
    refine cw_call rfl rfl (by simp only [go_sem]; try exact rfl) (by simp [go_sem]) ⟨_, Go.Proofs.Try.func40, by kernel_rfl, rfl⟩ (by simp [go_sem]) (hap) (by simp [go_sem]) (by simp only [go_sem]; exact rfl) ?_
    refine cw_go tabOK 99 (by simp only [go_sem]; try exact rfl) (by simp [go_sem]) ?_
    refine cw_cond (by simp only [go_sem]; try exact rfl) trivial (fun h => ?_) (fun h => ?_)
    · cases h
    refine cw_go tabOK 99 (by simp only [go_sem, hw]; try exact rfl) (by simp [go_sem, hw]) ?_
    refine cw_back ⟨i + 1, by omega, by omega, le_sub ?_ ?_ ?_⟩
    · simp [go_sem]
    · simp [go_sem]
    · simp [go_sem]
  · have e : i = l.length := by simp at h; omega
    subst e
    refine cw_go tabOK 99 (by simp only [go_sem]; try exact rfl) (by simp [go_sem]) ?_
    refine cw_ret ⟨_, _, (by simp only [go_sem]; try exact rfl), by simp [go_sem], _, .inr (.inl rfl), ?_⟩
    rfl

def madeB (a : Act) : Bool := a.kind == 1 || a.kind == 2
/-- the act as a server does it -/
def doA (s : Srv) (a : Act) : Act := if madeB a then { a with fid := s.next } else a
noncomputable def doE (s : Srv) (a : Act) : Int := applyE s.tree (doA s a)
noncomputable def doS (s : Srv) (c : Int) (a : Act) : Srv := ⟨applyL s.tree (doA s a) ((s.past.length + 1 : Nat) : Int), if madeB a then s.next + 1 else s.next, s.past ++ [⟨c, doA s a⟩]⟩
noncomputable def doR (s : Srv) (c : Int) (a : Act) : AV := if doE s a = 0 then .tup [.agg (srvRow (doS s c a)), .int .i64 0] else .tup [.agg [.nils, .int .i64 0, .nils], .int .i64 (doE s a)]

theorem do_raw (s : Srv) (c : Int) (a : Act) (hg : Good s.tree) (hp : SmallP s.past) (ha : ActFit a) (hn : s.next.natAbs ≤ 90000000) : FnOK Try.prog 63 [.agg (srvRow s), .int .i64 c, .agg (actRow a)] [] (fun r _ => r = doR s c a) := by
  have hlen := hp.len
  have hw : IntKind.i64.wrap (s.next + 1) = s.next + 1 := Eng.wrap_small (by omega) (by omega)
  have hda : ActFit (doA s a) := by unfold doA; split; exact ⟨ha.name, ha.toName, ha.data⟩; exact ha
  have hv := version_ok s (by omega)
  have hap := apply_good hg (doA s a) ((s.past.length + 1 : Nat) : Int) hda
  have hso := sown_okH s hg.small hp
  have how := acts_own (doA s a) hda.data
  unfold applyR at hap
  unfold doR doS doE
  unfold srvRow at hv hso ⊢
  refine fn_of_cwW tabOK (Go.Proofs.Try.func63) rfl (fun C => ?_)
  simp only [Go.Proofs.Try.ntmps63, Go.Proofs.Try.results63, go_sem]
  refine cw_go tabOK 99 (by simp only [go_sem, actRow]; try exact rfl) ?_ ?_
  · simp [actRow]
  refine cw_freeze 3 rfl (rfl) ?_
  simp only [go_sem]
  refine cw_cond (by simp only [go_sem]; try exact rfl) trivial (fun h => ?_) (fun h => ?_)
  · have hm : madeB a = true := by unfold madeB; revert h; cases (a.kind == 1) <;> simp
    have hdo : doA s a = { a with fid := s.next } := by unfold doA; rw [if_pos hm]
    rw [hdo] at hap how ⊢
    simp only [hm, if_true]
    generalize applyE s.tree { a with fid := s.next } = e at *
    generalize applyL s.tree { a with fid := s.next } ((s.past.length + 1 : Nat) : Int) = L at *
    refine cw_go tabOK 99 (by simp only [go_sem]; try exact rfl) (by simp [go_sem]) ?_
    by_cases he : e = 0
    · subst he
      simp only [if_true] at hap ⊢
      refine cw_freeze 5 rfl (rfl) ?_
      simp only [go_sem]
      refine cw_draw mixed ?_
      refine seg_start rfl ?_
      refine seg_runN tabOK 4 (by simp only [go_sem]; exact rfl) (by simp only [go_sem]; exact rfl) (by simp only [go_sem]; try exact rfl) (by simp [go_sem]) (by simp only [go_sem]; exact rfl) ?_
      refine seg_call rfl rfl (by simp only [go_sem]; try exact rfl) (by simp [go_sem]) ⟨_, Go.Proofs.Try.func119, by kernel_rfl, rfl⟩ (by simp [go_sem]) (hv) (by simp [go_sem]) (by simp only [go_sem]; exact rfl) (by simp only [go_sem]; exact rfl) ?_
      refine seg_call rfl rfl (by simp only [go_sem]; try exact rfl) (by simp [go_sem]) ⟨_, Go.Proofs.Try.func40, by kernel_rfl, rfl⟩ (by simp [go_sem]) (hap) (by simp [go_sem]) (by simp only [go_sem]; exact rfl) (by simp only [go_sem]; exact rfl) ?_
      refine seg_runN tabOK 5 (by simp only [go_sem]; exact rfl) (by simp only [go_sem]; exact rfl) (by simp only [go_sem]; try exact rfl) (by simp [go_sem]) (by simp only [go_sem]; exact rfl) ?_
      refine seg_end (by kernel_rfl) (by simp only [go_sem]; exact rfl) ?_
      refine draw_close (by kernel_rfl) ?_
      try simp only [go_sem, List.getElem_toArray, List.getElem_cons_succ, List.getElem_cons_zero]
      refine cw_go tabOK 99 (by simp only [go_sem]; try exact rfl) (by simp [go_sem]) ?_
      refine cw_condF (by simp only [go_sem]; try exact rfl) trivial (by simp) ?_
      refine cw_go tabOK 99 (by simp only [go_sem]; try exact rfl) (by simp [go_sem]) ?_
      refine cw_callG [] 972 rfl rfl (by simp only [go_sem]; try exact rfl) (by simp [go_sem]) ⟨_, Go.Proofs.Try.func120, by kernel_rfl, rfl⟩ (by simp only [go_sem, Bool.false_or, Bool.or_true, Bool.true_or, if_true]; try exact rfl) (hso) (by simp [go_sem]) (by simp [go_sem]) (by simp [go_sem]) (by simp only [go_sem]) (by simp [go_sem]) (by simp only [go_sem, Bool.false_or, Bool.or_true, Bool.true_or, Bool.or_false, ↓reduceIte]; exact rfl) ?_
      refine cw_go tabOK 99 (by simp only [go_sem]; try exact rfl) (by simp [go_sem]) ?_
      refine cw_draw mixed ?_
      refine seg_start rfl ?_
      refine seg_runN tabOK 4 (by simp only [go_sem]; exact rfl) (by simp only [go_sem]; exact rfl) (by simp only [go_sem]; try exact rfl) (by simp [go_sem]) (by simp only [go_sem]; exact rfl) ?_
      refine seg_call rfl rfl (by simp only [go_sem]; try exact rfl) (by simp [go_sem]) ⟨_, Go.Proofs.Try.func72, by kernel_rfl, rfl⟩ (by simp [go_sem]) (how) (by simp [go_sem]) (by simp only [go_sem]; exact rfl) (by simp only [go_sem]; exact rfl) ?_
      simp only [go_sem, actRow]
      refine seg_build tabOK rfl (by simp only [go_sem]; try exact rfl) (by simp only [go_sem]; try exact rfl) (by simp [go_sem]) (by simp only [go_sem, cond_true, cond_false]; exact rfl) (by simp only [go_sem]; exact rfl) (by simp only [go_sem]; exact rfl) ?_
      refine seg_new tabOK rfl (by simp only [go_sem]; try exact rfl) (by simp only [go_sem]; try exact rfl) (by simp [go_sem]) (by simp only [go_sem]; try exact rfl) (by simp only [go_sem]; exact rfl) (by simp only [go_sem]; exact rfl) ?_
      refine seg_end (by kernel_rfl) (by simp only [go_sem]; exact rfl) ?_
      refine draw_le (le_killB 1000 11 (by simp only [go_sem]; exact rfl) (by simp only [go_sem, kill]; exact rfl)) ?_
      simp only [go_sem]
      refine draw_step tabOK rfl (by kernel_rfl) rfl (by simp only [go_sem]; try exact rfl) ?_ rfl ?_
      · simp [go_sem, rowsOf]
        refine ⟨by omega, fun x hx y hy hr => ?_⟩
        have := List.all_eq_true.1 (List.all_eq_true.1 (pastRow_noRef 1000 s.past) (pastRow x) (List.mem_map.2 ⟨x, hx, rfl⟩)) y hy
        simp only [Bool.not_eq_true', List.contains_eq_mem, decide_eq_false_iff_not] at this
        exact this hr
      simp only [go_sem]
      refine draw_step tabOK rfl (by kernel_rfl) rfl (by simp only [go_sem]; try exact rfl) (by simp [go_sem]) rfl ?_
      refine draw_step tabOK rfl (by kernel_rfl) rfl (by simp only [go_sem]; try exact rfl) (by simp [go_sem]) rfl ?_
      refine draw_close (by kernel_rfl) ?_
      try simp only [go_sem, List.getElem_toArray, List.getElem_cons_succ, List.getElem_cons_zero]
      refine cw_go tabOK 99 (by simp only [go_sem]; try exact rfl) (by simp [go_sem]) ?_
      refine cw_condT (by simp only [go_sem]; try exact rfl) trivial (by simpa [madeB] using hm) ?_
      refine cw_go tabOK 99 (by simp only [go_sem, hw]; try exact rfl) (by simp [go_sem, hw]) ?_
      refine cw_freeze 48 rfl (by rw [List.all_append, pastRow_pure]; rfl) ?_
      simp only [go_sem]
      refine cw_ret ⟨_, _, (by simp only [go_sem]; try exact rfl), by simp [go_sem], _, .inr (.inl rfl), ?_⟩
      rw [List.take_of_length_le (by simp)]
      rfl
    · simp only [he, if_false] at hap ⊢
      refine cw_freeze 5 rfl (rfl) ?_
      simp only [go_sem]
      refine cw_draw mixed ?_
      refine seg_start rfl ?_
      refine seg_runN tabOK 4 (by simp only [go_sem]; exact rfl) (by simp only [go_sem]; exact rfl) (by simp only [go_sem]; try exact rfl) (by simp [go_sem]) (by simp only [go_sem]; exact rfl) ?_
      refine seg_call rfl rfl (by simp only [go_sem]; try exact rfl) (by simp [go_sem]) ⟨_, Go.Proofs.Try.func119, by kernel_rfl, rfl⟩ (by simp [go_sem]) (hv) (by simp [go_sem]) (by simp only [go_sem]; exact rfl) (by simp only [go_sem]; exact rfl) ?_
      refine seg_call rfl rfl (by simp only [go_sem]; try exact rfl) (by simp [go_sem]) ⟨_, Go.Proofs.Try.func40, by kernel_rfl, rfl⟩ (by simp [go_sem]) (hap) (by simp [go_sem]) (by simp only [go_sem]; exact rfl) (by simp only [go_sem]; exact rfl) ?_
      refine seg_runN tabOK 5 (by simp only [go_sem]; exact rfl) (by simp only [go_sem]; exact rfl) (by simp only [go_sem]; try exact rfl) (by simp [go_sem]) (by simp only [go_sem]; exact rfl) ?_
      refine seg_end (by kernel_rfl) (by simp only [go_sem]; exact rfl) ?_
      refine draw_close (by kernel_rfl) ?_
      try simp only [go_sem, List.getElem_toArray, List.getElem_cons_succ, List.getElem_cons_zero]
      refine cw_go tabOK 99 (by simp only [go_sem]; try exact rfl) (by simp [go_sem]) ?_
      refine cw_condT (by simp only [go_sem]; try exact rfl) trivial (by simp [he]) ?_
      refine cw_go tabOK 99 (by simp only [go_sem]; try exact rfl) (by simp [go_sem]) ?_
      refine cw_ret ⟨_, _, (by simp only [go_sem]; try exact rfl), by simp [go_sem], _, .inr (.inl rfl), ?_⟩
      rfl
  · have hm : madeB a = false := by unfold madeB; revert h; cases (a.kind == 1) <;> simp
    have hdo : doA s a = a := by unfold doA; rw [if_neg (by rw [hm]; simp)]
    rw [hdo] at hap how ⊢
    simp only [hm, Bool.false_eq_true, if_false]
    generalize applyE s.tree a = e at *
    generalize applyL s.tree a ((s.past.length + 1 : Nat) : Int) = L at *
    refine cw_go tabOK 99 (by simp only [go_sem]; try exact rfl) (by simp [go_sem]) ?_
    by_cases he : e = 0
    · subst he
      simp only [if_true] at hap ⊢
      refine cw_freeze 5 rfl (rfl) ?_
      simp only [go_sem]
      refine cw_draw mixed ?_
      refine seg_start rfl ?_
      refine seg_runN tabOK 4 (by simp only [go_sem]; exact rfl) (by simp only [go_sem]; exact rfl) (by simp only [go_sem]; try exact rfl) (by simp [go_sem]) (by simp only [go_sem]; exact rfl) ?_
      refine seg_call rfl rfl (by simp only [go_sem]; try exact rfl) (by simp [go_sem]) ⟨_, Go.Proofs.Try.func119, by kernel_rfl, rfl⟩ (by simp [go_sem]) (hv) (by simp [go_sem]) (by simp only [go_sem]; exact rfl) (by simp only [go_sem]; exact rfl) ?_
      refine seg_call rfl rfl (by simp only [go_sem]; try exact rfl) (by simp [go_sem]) ⟨_, Go.Proofs.Try.func40, by kernel_rfl, rfl⟩ (by simp [go_sem]) (hap) (by simp [go_sem]) (by simp only [go_sem]; exact rfl) (by simp only [go_sem]; exact rfl) ?_
      refine seg_runN tabOK 5 (by simp only [go_sem]; exact rfl) (by simp only [go_sem]; exact rfl) (by simp only [go_sem]; try exact rfl) (by simp [go_sem]) (by simp only [go_sem]; exact rfl) ?_
      refine seg_end (by kernel_rfl) (by simp only [go_sem]; exact rfl) ?_
      refine draw_close (by kernel_rfl) ?_
      try simp only [go_sem, List.getElem_toArray, List.getElem_cons_succ, List.getElem_cons_zero]
      refine cw_go tabOK 99 (by simp only [go_sem]; try exact rfl) (by simp [go_sem]) ?_
      refine cw_condF (by simp only [go_sem]; try exact rfl) trivial (by simp) ?_
      refine cw_go tabOK 99 (by simp only [go_sem]; try exact rfl) (by simp [go_sem]) ?_
      refine cw_callG [] 972 rfl rfl (by simp only [go_sem]; try exact rfl) (by simp [go_sem]) ⟨_, Go.Proofs.Try.func120, by kernel_rfl, rfl⟩ (by simp only [go_sem, Bool.false_or, Bool.or_true, Bool.true_or, if_true]; try exact rfl) (hso) (by simp [go_sem]) (by simp [go_sem]) (by simp [go_sem]) (by simp only [go_sem]) (by simp [go_sem]) (by simp only [go_sem, Bool.false_or, Bool.or_true, Bool.true_or, Bool.or_false, ↓reduceIte]; exact rfl) ?_
      refine cw_go tabOK 99 (by simp only [go_sem]; try exact rfl) (by simp [go_sem]) ?_
      refine cw_draw mixed ?_
      refine seg_start rfl ?_
      refine seg_runN tabOK 4 (by simp only [go_sem]; exact rfl) (by simp only [go_sem]; exact rfl) (by simp only [go_sem]; try exact rfl) (by simp [go_sem]) (by simp only [go_sem]; exact rfl) ?_
      refine seg_call rfl rfl (by simp only [go_sem]; try exact rfl) (by simp [go_sem]) ⟨_, Go.Proofs.Try.func72, by kernel_rfl, rfl⟩ (by simp [go_sem]) (how) (by simp [go_sem]) (by simp only [go_sem]; exact rfl) (by simp only [go_sem]; exact rfl) ?_
      simp only [go_sem, actRow]
      refine seg_build tabOK rfl (by simp only [go_sem]; try exact rfl) (by simp only [go_sem]; try exact rfl) (by simp [go_sem]) (by simp only [go_sem, cond_true, cond_false]; exact rfl) (by simp only [go_sem]; exact rfl) (by simp only [go_sem]; exact rfl) ?_
      refine seg_new tabOK rfl (by simp only [go_sem]; try exact rfl) (by simp only [go_sem]; try exact rfl) (by simp [go_sem]) (by simp only [go_sem]; try exact rfl) (by simp only [go_sem]; exact rfl) (by simp only [go_sem]; exact rfl) ?_
      refine seg_end (by kernel_rfl) (by simp only [go_sem]; exact rfl) ?_
      refine draw_le (le_killB 1000 11 (by simp only [go_sem]; exact rfl) (by simp only [go_sem, kill]; exact rfl)) ?_
      simp only [go_sem]
      refine draw_step tabOK rfl (by kernel_rfl) rfl (by simp only [go_sem]; try exact rfl) ?_ rfl ?_
      · simp [go_sem, rowsOf]
        refine ⟨by omega, fun x hx y hy hr => ?_⟩
        have := List.all_eq_true.1 (List.all_eq_true.1 (pastRow_noRef 1000 s.past) (pastRow x) (List.mem_map.2 ⟨x, hx, rfl⟩)) y hy
        simp only [Bool.not_eq_true', List.contains_eq_mem, decide_eq_false_iff_not] at this
        exact this hr
      simp only [go_sem]
      refine draw_step tabOK rfl (by kernel_rfl) rfl (by simp only [go_sem]; try exact rfl) (by simp [go_sem]) rfl ?_
      refine draw_step tabOK rfl (by kernel_rfl) rfl (by simp only [go_sem]; try exact rfl) (by simp [go_sem]) rfl ?_
      refine draw_close (by kernel_rfl) ?_
      try simp only [go_sem, List.getElem_toArray, List.getElem_cons_succ, List.getElem_cons_zero]
      refine cw_go tabOK 99 (by simp only [go_sem]; try exact rfl) (by simp [go_sem]) ?_
      refine cw_condF (by simp only [go_sem]; try exact rfl) trivial (by simpa [madeB] using hm) ?_
      refine cw_go tabOK 99 (by simp only [go_sem]; try exact rfl) (by simp [go_sem]) ?_
      refine cw_freeze 48 rfl (by rw [List.all_append, pastRow_pure]; rfl) ?_
      simp only [go_sem]
      refine cw_ret ⟨_, _, (by simp only [go_sem]; try exact rfl), by simp [go_sem], _, .inr (.inl rfl), ?_⟩
      rw [List.take_of_length_le (by simp)]
      rfl
    · simp only [he, if_false] at hap ⊢
      refine cw_freeze 5 rfl (rfl) ?_
      simp only [go_sem]
      refine cw_draw mixed ?_
      refine seg_start rfl ?_
      refine seg_runN tabOK 4 (by simp only [go_sem]; exact rfl) (by simp only [go_sem]; exact rfl) (by simp only [go_sem]; try exact rfl) (by simp [go_sem]) (by simp only [go_sem]; exact rfl) ?_
      refine seg_call rfl rfl (by simp only [go_sem]; try exact rfl) (by simp [go_sem]) ⟨_, Go.Proofs.Try.func119, by kernel_rfl, rfl⟩ (by simp [go_sem]) (hv) (by simp [go_sem]) (by simp only [go_sem]; exact rfl) (by simp only [go_sem]; exact rfl) ?_
      refine seg_call rfl rfl (by simp only [go_sem]; try exact rfl) (by simp [go_sem]) ⟨_, Go.Proofs.Try.func40, by kernel_rfl, rfl⟩ (by simp [go_sem]) (hap) (by simp [go_sem]) (by simp only [go_sem]; exact rfl) (by simp only [go_sem]; exact rfl) ?_
      refine seg_runN tabOK 5 (by simp only [go_sem]; exact rfl) (by simp only [go_sem]; exact rfl) (by simp only [go_sem]; try exact rfl) (by simp [go_sem]) (by simp only [go_sem]; exact rfl) ?_
      refine seg_end (by kernel_rfl) (by simp only [go_sem]; exact rfl) ?_
      refine draw_close (by kernel_rfl) ?_
      try simp only [go_sem, List.getElem_toArray, List.getElem_cons_succ, List.getElem_cons_zero]
      refine cw_go tabOK 99 (by simp only [go_sem]; try exact rfl) (by simp [go_sem]) ?_
      refine cw_condT (by simp only [go_sem]; try exact rfl) trivial (by simp [he]) ?_
      refine cw_go tabOK 99 (by simp only [go_sem]; try exact rfl) (by simp [go_sem]) ?_
      refine cw_ret ⟨_, _, (by simp only [go_sem]; try exact rfl), by simp [go_sem], _, .inr (.inl rfl), ?_⟩
      rfl
end La

namespace La
open Go Go.Eng Go.Proofs
set_option maxRecDepth 10000
set_option linter.unusedSimpArgs false
set_option linter.unusedVariables false

structure SmallK (l : List Kept) : Prop where
  len : l.length ≤ 100000000
  each : ∀ k, k ∈ l → k.node.Small
theorem SmallK.one {k : Kept} (h : k.node.Small) : SmallK [k] := ⟨by simp, fun x hx => by rw [List.mem_singleton.1 hx]; exact h⟩
theorem nodeSmall_one {n : Node} (h : n.Small) : Small [n] := ⟨by simp, fun x hx => by rw [List.mem_singleton.1 hx]; exact h⟩

theorem kown_okH (l : List Kept) (hl : SmallK l) : FnOK Try.prog 45 [.sl (l.map keptRow)] [] (fun r H => r = .osl 22 8 0 (l.map keptRow).length ∧ ∀ i b, hget [(22, .cells 72 8 (l.map keptRow))] i = some b → hget H i = some b) := by
  have hlen := hl.len
  refine fn_of_cwW tabOK (Go.Proofs.Try.func45) rfl (fun C => ?_)
  simp only [Go.Proofs.Try.ntmps45, Go.Proofs.Try.results45, go_sem]
  refine cw_go tabOK 99 (by simp only [go_sem]; try exact rfl) (by simp [go_sem]) ?_
  refine cw_loopS (fun i : Nat => i ≤ l.length) (fun i => l.length - i) (fun i => [(3, .osl 22 8 0 i), (5, .any), (8, .int .i64 i), (9, .any), (10, .any), (11, .any), (12, .any), (13, .any), (14, .any), (15, .any), (16, .any), (17, .any), (18, .any), (19, .any), (20, .any), (21, .any), (22, .any), (23, .any), (24, .any)])
    (fun i => [(22, .cells 72 8 ((l.take i).map keptRow))]) 0 (by omega) ?_ fun i hi => ?_
  · simp only [go_sem]
    exact le_sub (by simp [go_sem]) (by simp [go_sem]) (by simp only [go_sem])
  simp only [go_sem]
  refine cw_go tabOK 99 (by simp only [go_sem]; try exact rfl) (by simp [go_sem]) ?_
  refine cw_cond (by simp only [go_sem]; try exact rfl) trivial (fun h => ?_) (fun h => ?_)
  · have hlt : i < l.length := by simp at h; omega
    have hn := hl.each _ (getD_mem hlt)
    have hg : (l.map keptRow).getD i [] = keptRow (l.getD i default) := Fam.getD hlt
    have hs := take_succ_map keptRow hlt
    generalize l.getD i default = n at hn hg hs
    refine cw_go tabOK 99 (by simp only [go_sem, hg, keptRow]; try exact rfl) ?_ ?_
    · simp [hlt, keptRow]
    refine cw_freeze 14 rfl (rfl) ?_
    simp only [go_sem]
    refine cw_call rfl rfl (by simp only [go_sem]; try exact rfl) (by simp [go_sem]) ⟨_, Go.Proofs.Try.func86, by kernel_rfl, rfl⟩ (by simp [go_sem]) (own_ok [n.node] (nodeSmall_one hn)) (by simp [go_sem]) (by simp only [go_sem]; exact rfl) ?_
    have ht : List.take i (List.map keptRow (List.take i l)) = List.map keptRow (List.take i l) := List.take_of_length_le (by simp; omega)
    have hw : IntKind.i64.wrap ((i : Int) + 1) = (i : Int) + 1 := wrap_small (by omega) (by omega)
    refine cw_go tabOK 99 (by simp only [go_sem, ht, hw, nodeRow]; try exact rfl) ?_ ?_
    · simp [rowsOf, nodeRow]; omega
    refine cw_back ⟨i + 1, by omega, by omega, le_sub ?_ ?_ ?_⟩
    · simp [go_sem]
    · simp [go_sem, hs, keptRow]
    · simp only [go_sem]
  · have e : i = l.length := by simp at h; omega
    subst e
    refine cw_go tabOK 99 (by simp only [go_sem]; try exact rfl) (by simp [go_sem]) ?_
    refine cw_ret ⟨_, _, (by simp only [go_sem]; try exact rfl), by simp [go_sem], _, .inr (.inl rfl), ?_⟩
    simp [go_sem]
theorem kown_ok (l : List Kept) (hl : SmallK l) : FnOK Try.prog 45 [.sl (l.map keptRow)] [] (fun r _ => r = .sl (l.map keptRow)) := FnOK.read (kown_okH l hl) (keptRow_pure _)

theorem kwhere1_ok (k : Kept) (fid : Int) : FnOK Try.prog 150 [.agg (keptRow k), .rp [.int .i64 fid] 0] [] (fun r _ => r = .bool (k.node.fid == fid)) := by
  unfold keptRow
  refine fn_of_cwW tabOK (Go.Proofs.Try.func150) rfl (fun C => ?_)
  simp only [Go.Proofs.Try.ntmps150, Go.Proofs.Try.results150, go_sem]
  refine cw_go tabOK 99 (by simp only [go_sem]; try exact rfl) (by simp [go_sem]) ?_
  refine cw_ret ⟨_, _, (by simp only [go_sem]; try exact rfl), by simp [go_sem], _, .inr (.inl rfl), ?_⟩
  simp
def kplace (l : List Kept) (fid : Int) : Option Nat := l.findIdx? fun k => k.node.fid == fid
theorem kwhere_ok (l : List Kept) (fid : Int) (hlen : l.length ≤ 100000000) : FnOK Try.prog 104 [.sl (l.map keptRow), .int .i64 fid] [] (fun r _ => r = .int .i64 (idxI (kplace l fid))) := by
  refine fn_of_cwW tabOK (Go.Proofs.Try.func104) rfl (fun C => ?_)
  simp only [Go.Proofs.Try.ntmps104, Go.Proofs.Try.results104, go_sem]
  refine cw_go tabOK 99 (by simp only [go_sem]; try exact rfl) (by simp [go_sem]) ?_
  refine cw_freeze 3 rfl (rfl) ?_
  simp only [go_sem]
  refine cw_call rfl rfl (by simp only [go_sem]; try exact rfl) (by simp [go_sem]) ⟨_, Go.Proofs.Try.func149, by kernel_rfl, rfl⟩ (by simp [go_sem]) (kept_indexFunc l hlen ⟨_, Go.Proofs.Try.func150, by kernel_rfl, rfl⟩ rfl (fun x _ => kwhere1_ok x fid)) (by simp [go_sem]) (by simp only [go_sem]; exact rfl) ?_
  refine cw_go tabOK 99 (by simp only [go_sem]; try exact rfl) (by simp [go_sem]) ?_
  refine cw_ret ⟨_, _, (by simp only [go_sem]; try exact rfl), by simp [go_sem], _, .inr (.inl rfl), ?_⟩
  simp [kplace]
def hasK (l : List Kept) (fid : Int) : Bool := l.any fun k => k.node.fid == fid
theorem has_ok (l : List Kept) (fid : Int) (hlen : l.length ≤ 100000000) : FnOK Try.prog 52 [.sl (l.map keptRow), .int .i64 fid] [] (fun r _ => r = .bool (hasK l fid)) := by
  refine fn_of_cwW tabOK (Go.Proofs.Try.func52) rfl (fun C => ?_)
  simp only [Go.Proofs.Try.ntmps52, Go.Proofs.Try.results52, go_sem]
  refine cw_go tabOK 99 (by simp only [go_sem]; try exact rfl) (by simp [go_sem]) ?_
  refine cw_call rfl rfl (by simp only [go_sem]; try exact rfl) (by simp [go_sem]) ⟨_, Go.Proofs.Try.func104, by kernel_rfl, rfl⟩ (by simp [go_sem]) (kwhere_ok l fid hlen) (by simp [go_sem]) (by simp only [go_sem]; exact rfl) ?_
  refine cw_go tabOK 99 (by simp only [go_sem]; try exact rfl) (by simp [go_sem]) ?_
  refine cw_ret ⟨_, _, (by simp only [go_sem]; try exact rfl), by simp [go_sem], _, .inr (.inl rfl), ?_⟩
  rw [kplace, idxI_any]; rfl

theorem clean1_ok (k : Kept) : FnOK Try.prog 112 [.agg (keptRow k)] [] (fun r _ => r = .bool k.dirty) := by
  unfold keptRow
  refine fn_of_cwW tabOK (Go.Proofs.Try.func112) rfl (fun C => ?_)
  simp only [Go.Proofs.Try.ntmps112, Go.Proofs.Try.results112, go_sem]
  refine cw_go tabOK 99 (by simp only [go_sem]; try exact rfl) (by simp [go_sem]) ?_
  refine cw_ret ⟨_, _, (by simp only [go_sem]; try exact rfl), by simp [go_sem], _, .inr (.inl rfl), ?_⟩
  simp
theorem clean_ok (l : List Kept) (hl : SmallK l) : FnOK Try.prog 54 [.sl (l.map keptRow)] [] (fun r _ => r = .sl ((l.filter fun k => !k.dirty).map keptRow)) := by
  refine fn_of_cwW tabOK (Go.Proofs.Try.func54) rfl (fun C => ?_)
  simp only [Go.Proofs.Try.ntmps54, Go.Proofs.Try.results54, go_sem]
  refine cw_go tabOK 99 (by simp only [go_sem]; try exact rfl) (by simp [go_sem]) ?_
  refine cw_callG [] 978 rfl rfl (by simp only [go_sem]; try exact rfl) (by simp [go_sem]) ⟨_, Go.Proofs.Try.func45, by kernel_rfl, rfl⟩ (by simp only [go_sem, Bool.false_or, Bool.or_true, Bool.true_or, if_true]; try exact rfl) (kown_okH l hl) (by simp [go_sem]) (by simp [go_sem]) (by simp [go_sem]) (by simp only [go_sem]) (by simp [go_sem]) (by simp only [go_sem, Bool.false_or, Bool.or_true, Bool.true_or, Bool.or_false, ↓reduceIte]; exact rfl) ?_
  refine cw_go tabOK 99 (by simp only [go_sem]; try exact rfl) (by simp [go_sem]) ?_
  refine cw_callG [1000] 100 rfl rfl (by simp only [go_sem]; try exact rfl) (by simp [go_sem]) ⟨_, Go.Proofs.Try.func109, by kernel_rfl, rfl⟩ (by simp only [go_sem, Bool.false_or, Bool.or_true, Bool.true_or, if_true]; try exact rfl) (kept_deleteFunc l hl.len 1000 ⟨_, Go.Proofs.Try.func112, by kernel_rfl, rfl⟩ rfl (by decide) (fun x _ => clean1_ok x)) (by simp [go_sem]) (by simp [go_sem]) (by simp [go_sem]) (by simp only [go_sem]) (by simp [go_sem]) (by simp only [go_sem, Bool.false_or, Bool.or_true, Bool.true_or, Bool.or_false, ↓reduceIte]; exact rfl) ?_
  refine cw_go tabOK 99 (by simp only [go_sem]; try exact rfl) (by simp [go_sem]) ?_
  refine cw_freeze 1100 rfl (by rw [List.all_append, keptRow_pure, Bool.true_and]; exact rep_pure _ rfl) ?_
  simp only [go_sem]
  refine cw_ret ⟨_, _, (by simp only [go_sem]; try exact rfl), by simp [go_sem], _, .inr (.inl rfl), ?_⟩
  have hle := List.length_filter_le (fun k : Kept => !k.dirty) l
  generalize l.filter (fun k => !k.dirty) = d at *
  rw [if_pos (by simp), take_app (by simp)]
end La

namespace La
open Go Go.Eng Go.Proofs
set_option maxRecDepth 10000
set_option linter.unusedSimpArgs false
set_option linter.unusedVariables false

theorem kplace_lt {l : List Kept} {fid : Int} {i : Nat} (h : kplace l fid = some i) : i < l.length := (List.findIdx?_eq_some_iff_getElem.1 h).1
def useK (l : List Kept) (fid now : Int) : List Kept := match kplace l fid with
  | none => l
  | some i => l.set i { l.getD i default with last := now }
theorem keptRow_at {M : List Kept} {i : Nat} (h : i < M.length) : (M.map keptRow).getD i [] = [.int .i64 (M.getD i default).node.fid, .bool (M.getD i default).node.dir, .sl ((M.getD i default).node.data.map byteRow), .sl ((M.getD i default).node.entries.map entryRow), .int .i64 (M.getD i default).node.version, .bool (M.getD i default).dirty, .int .i64 (M.getD i default).worth, .int .i64 (M.getD i default).last] := by
  rw [Fam.getD h]; rfl
theorem keptRow_set (M : List Kept) (i : Nat) (n : Kept) : (M.map keptRow).set i (keptRow n) = (M.set i n).map keptRow := by rw [List.map_set]

theorem use_ok (l : List Kept) (fid now : Int) (hl : SmallK l) : FnOK Try.prog 53 [.sl (l.map keptRow), .int .i64 fid, .int .i64 now] [] (fun r _ => r = .sl ((useK l fid now).map keptRow)) := by
  refine fn_of_cwW tabOK (Go.Proofs.Try.func53) rfl (fun C => ?_)
  simp only [Go.Proofs.Try.ntmps53, Go.Proofs.Try.results53, go_sem]
  refine cw_go tabOK 99 (by simp only [go_sem]; try exact rfl) (by simp [go_sem]) ?_
  refine cw_callG [] 978 rfl rfl (by simp only [go_sem]; try exact rfl) (by simp [go_sem]) ⟨_, Go.Proofs.Try.func45, by kernel_rfl, rfl⟩ (by simp only [go_sem, Bool.false_or, Bool.or_true, Bool.true_or, if_true]; try exact rfl) (kown_okH l hl) (by simp [go_sem]) (by simp [go_sem]) (by simp [go_sem]) (by simp only [go_sem]) (by simp [go_sem]) (by simp only [go_sem, Bool.false_or, Bool.or_true, Bool.true_or, Bool.or_false, ↓reduceIte]; exact rfl) ?_
  refine cw_go tabOK 99 (by simp only [go_sem]; try exact rfl) (by simp [go_sem]) ?_
  refine cw_view rfl rfl (by simp only [go_sem]; try exact rfl) (by simp [go_sem]) (by simp only [go_sem]; try exact rfl) (by simp [go_sem]) ⟨_, Go.Proofs.Try.func104, by kernel_rfl, rfl⟩ (kwhere_ok l fid hl.len) (by simp [go_sem]) (by simp only [go_sem]; exact rfl) ?_
  unfold useK
  cases e : kplace l fid with
  | none =>
    simp only [idxI]
    refine cw_go tabOK 99 (by simp only [go_sem]; try exact rfl) (by simp [go_sem]) ?_
    refine cw_cond (by simp only [go_sem]; try exact rfl) trivial (fun h => ?_) (fun h => ?_)
    · cases h
    refine cw_go tabOK 99 (by simp only [go_sem]; try exact rfl) (by simp [go_sem]) ?_
    refine cw_freeze 1000 rfl (keptRow_pure _) ?_
    simp only [go_sem]
    refine cw_ret ⟨_, _, (by simp only [go_sem]; try exact rfl), by simp [go_sem], _, .inr (.inl rfl), ?_⟩
    simp
  | some i =>
    have hi := kplace_lt e
    have hlen := hl.len
    have hg := keptRow_at hi
    have hs := keptRow_set l i { l.getD i default with last := now }
    simp only [keptRow] at hs
    simp only [idxI]
    refine cw_go tabOK 99 (by simp only [go_sem]; try exact rfl) (by simp [go_sem]) ?_
    refine cw_cond (by simp only [go_sem]; try exact rfl) trivial (fun h => ?_) (fun h => ?_)
    · refine cw_go tabOK 99 (by simp only [go_sem, hg, hs]; try exact rfl) ?_ ?_
      · simp [hg]; omega
      refine cw_freeze 1000 rfl (keptRow_pure _) ?_
      simp only [go_sem]
      refine cw_ret ⟨_, _, (by simp only [go_sem]; try exact rfl), by simp [go_sem], _, .inr (.inl rfl), ?_⟩
      rw [← hs, List.take_of_length_le (by simp)]
      simp
    · simp at h

def staleK (at_ : List Node) (k : Kept) : Bool := !k.dirty && (!isAt at_ k.node.fid || !(((findN at_ k.node.fid).getD zeroN).version == k.node.version))
theorem fresh1_ok (at_ : List Node) (k : Kept) (hat : Small at_) : FnOK Try.prog 110 [.agg (keptRow k), .rp [.sl (at_.map nodeRow)] 0] [] (fun r _ => r = .bool (staleK at_ k)) := by
  unfold keptRow
  refine fn_of_cwW tabOK (Go.Proofs.Try.func110) rfl (fun C => ?_)
  simp only [Go.Proofs.Try.ntmps110, Go.Proofs.Try.results110, go_sem]
  refine cw_go tabOK 99 (by simp only [go_sem]; try exact rfl) (by simp [go_sem]) ?_
  refine cw_call rfl rfl (by simp only [go_sem]; try exact rfl) (by simp [go_sem]) ⟨_, Go.Proofs.Try.func33, by kernel_rfl, rfl⟩ (by simp [go_sem]) (find_ok at_ k.node.fid hat) (by simp [go_sem]) (by simp only [go_sem]; exact rfl) ?_
  simp only [go_sem, findR]
  unfold staleK
  generalize (findN at_ k.node.fid).getD zeroN = n
  generalize isAt at_ k.node.fid = b
  refine cw_go tabOK 99 (by simp only [go_sem, nodeRow]; try exact rfl) ?_ ?_
  · simp [nodeRow]
    exact fun h => ⟨h, fun hb => ⟨h, hb⟩⟩
  refine cw_ret ⟨_, _, (by simp only [go_sem]; try exact rfl), by simp [go_sem], _, .inr (.inl rfl), ?_⟩
  cases k.dirty <;> cases b <;> rfl
theorem fresh_ok (l : List Kept) (at_ : List Node) (hl : SmallK l) (hat : Small at_) : FnOK Try.prog 48 [.sl (l.map keptRow), .sl (at_.map nodeRow)] [] (fun r _ => r = .sl ((l.filter fun k => !staleK at_ k).map keptRow)) := by
  refine fn_of_cwW tabOK (Go.Proofs.Try.func48) rfl (fun C => ?_)
  simp only [Go.Proofs.Try.ntmps48, Go.Proofs.Try.results48, go_sem]
  refine cw_go tabOK 99 (by simp only [go_sem]; try exact rfl) (by simp [go_sem]) ?_
  refine cw_freeze 3 rfl (rfl) ?_
  simp only [go_sem]
  refine cw_callG [] 978 rfl rfl (by simp only [go_sem]; try exact rfl) (by simp [go_sem]) ⟨_, Go.Proofs.Try.func45, by kernel_rfl, rfl⟩ (by simp only [go_sem, Bool.false_or, Bool.or_true, Bool.true_or, if_true]; try exact rfl) (kown_okH l hl) (by simp [go_sem]) (by simp [go_sem]) (by simp [go_sem]) (by simp only [go_sem]) (by simp [go_sem]) (by simp only [go_sem, Bool.false_or, Bool.or_true, Bool.true_or, Bool.or_false, ↓reduceIte]; exact rfl) ?_
  refine cw_go tabOK 99 (by simp only [go_sem]; try exact rfl) (by simp [go_sem]) ?_
  refine cw_callG [1000] 100 rfl rfl (by simp only [go_sem]; try exact rfl) (by simp [go_sem]) ⟨_, Go.Proofs.Try.func109, by kernel_rfl, rfl⟩ (by simp only [go_sem, Bool.false_or, Bool.or_true, Bool.true_or, if_true]; try exact rfl) (kept_deleteFunc l hl.len 1000 ⟨_, Go.Proofs.Try.func110, by kernel_rfl, rfl⟩ (by simp [AV.pureB]) (by decide) (fun x _ => fresh1_ok at_ x hat)) (by simp [go_sem]) (by simp [go_sem]) (by simp [go_sem]) (by simp only [go_sem]) (by simp [go_sem]) (by simp only [go_sem, Bool.false_or, Bool.or_true, Bool.true_or, Bool.or_false, ↓reduceIte]; exact rfl) ?_
  refine cw_go tabOK 99 (by simp only [go_sem]; try exact rfl) (by simp [go_sem]) ?_
  refine cw_freeze 1100 rfl (by rw [List.all_append, keptRow_pure, Bool.true_and]; exact rep_pure _ rfl) ?_
  simp only [go_sem]
  refine cw_ret ⟨_, _, (by simp only [go_sem]; try exact rfl), by simp [go_sem], _, .inr (.inl rfl), ?_⟩
  have hle := List.length_filter_le (fun k : Kept => !staleK at_ k) l
  generalize l.filter (fun k => !staleK at_ k) = d at *
  rw [if_pos (by simp), take_app (by simp)]
end La

namespace La
open Go Go.Eng Go.Proofs
set_option maxRecDepth 10000
set_option linter.unusedSimpArgs false
set_option linter.unusedVariables false

/-- a map, by what was put into it, one behind the other -/
def mapUpto (f : Nat → Int) (g : Nat → AV) : Nat → List (Int × AV)
  | 0 => []
  | i + 1 => mput (mapUpto f g i) (f i) (g i)
theorem mapUpto_rise (f : Nat → Int) (g : Nat → AV) : ∀ i, (mapUpto f g i).Pairwise fun a b => a.1 < b.1
  | 0 => List.Pairwise.nil
  | i + 1 => mput_rise (mapUpto_rise f g i)
theorem mapUpto_none {f : Nat → Int} {g : Nat → AV} {k : Int} : ∀ {i}, (∀ j, j < i → f j ≠ k) → mget (mapUpto f g i) k = none
  | 0, _ => rfl
  | i + 1, h => by
    rw [mapUpto, mget_mput (mapUpto_rise f g i), if_neg (fun e => h i (by omega) e.symm)]
    exact mapUpto_none fun j hj => h j (by omega)
theorem mapUpto_some {f : Nat → Int} {g : Nat → AV} {k : Int} : ∀ {i j}, j < i → f j = k → (∀ m, j < m → m < i → f m ≠ k) → mget (mapUpto f g i) k = some (g j)
  | 0, _, h, _, _ => by omega
  | i + 1, j, h, he, hl => by
    rw [mapUpto, mget_mput (mapUpto_rise f g i)]
    by_cases hj : j = i
    · subst hj; rw [if_pos he.symm]
    · rw [if_neg (fun e => hl i (by omega) (by omega) e.symm)]
      exact mapUpto_some (by omega) he fun m h1 h2 => hl m h1 (by omega)

def fidK (l : List Kept) (i : Nat) : Int := (l.getD i default).node.fid
/-- no two of one fid, as far as 'n' -/
def UnlikeN (l : List Kept) (n : Nat) : Prop := ∀ i, i < n → ∀ j, j < i → fidK l j ≠ fidK l i
instance (l : List Kept) (n : Nat) : Decidable (UnlikeN l n) := by unfold UnlikeN; infer_instance
def unlikeB (l : List Kept) : Bool := decide (UnlikeN l l.length)

theorem unlike_ok (l : List Kept) (hlen : l.length ≤ 100000000) : FnOK Try.prog 41 [.sl (l.map keptRow)] [] (fun r _ => r = .bool (unlikeB l)) := by
  refine fn_of_cwW tabOK (Go.Proofs.Try.func41) rfl (fun C => ?_)
  simp only [Go.Proofs.Try.ntmps41, Go.Proofs.Try.results41, go_sem]
  refine cw_go tabOK 99 (by simp only [go_sem]; try exact rfl) (by simp [go_sem]) ?_
  refine cw_loopS (fun i : Nat => i ≤ l.length ∧ UnlikeN l i) (fun i => l.length - i) (fun i => [(3, .mp 6), (5, .any), (9, .int .i64 i), (10, .any), (11, .any), (12, .any), (13, .any), (14, .any), (15, .any), (16, .any), (17, .any), (18, .any), (19, .any), (20, .any), (21, .any), (22, .any)])
    (fun i => [(6, .map (mapUpto (fidK l) (fun _ => .bool true) i))]) 0 ⟨by omega, fun i h => by omega⟩ ?_ fun i hi => ?_
  · simp only [go_sem]
    exact le_sub (by simp [go_sem]) (by simp [go_sem, mapUpto]) (by simp only [go_sem])
  obtain ⟨hi, hu⟩ := hi
  simp only [go_sem]
  refine cw_go tabOK 99 (by simp only [go_sem]; try exact rfl) (by simp [go_sem]) ?_
  refine cw_cond (by simp only [go_sem]; try exact rfl) trivial (fun h => ?_) (fun h => ?_)
  · have hlt : i < l.length := by simp at h; omega
    have hg : (l.map keptRow).getD i [] = keptRow (l.getD i default) := Fam.getD hlt
    have hf : fidK l i = (l.getD i default).node.fid := rfl
    have hw : IntKind.i64.wrap ((i : Int) + 1) = ((i + 1 : Nat) : Int) := by rw [Eng.wrap_small (by omega) (by omega)]; rfl
    have hput : mapUpto (fidK l) (fun _ => AV.bool true) (i + 1) = mput (mapUpto (fidK l) (fun _ => AV.bool true) i) (l.getD i default).node.fid (.bool true) := rfl
    by_cases hin : ∃ j, j < i ∧ fidK l j = fidK l i
    · obtain ⟨j, hj, he⟩ := hin
      have hget : mget (mapUpto (fidK l) (fun _ => AV.bool true) i) (l.getD i default).node.fid = some (.bool true) := mapUpto_some hj he fun m h1 h2 h3 => hu m h2 j h1 (he.trans h3.symm)
      have hno : unlikeB l = false := decide_eq_false fun hall => hall i hlt j hj he
      generalize l.getD i default = n at *
      refine cw_go tabOK 99 (by simp only [go_sem, hg, keptRow, hget]; try exact rfl) ?_ ?_
      · simp [hg, keptRow, hlt]
      refine cw_condT (by simp only [go_sem]; try exact rfl) trivial (by simp [hget]) ?_
      refine cw_go tabOK 99 (by simp only [go_sem]; try exact rfl) (by simp [go_sem]) ?_
      refine cw_ret ⟨_, _, (by simp only [go_sem]; try exact rfl), by simp [go_sem], _, .inr (.inl rfl), ?_⟩
      rw [hno]
    · have hget : mget (mapUpto (fidK l) (fun _ => AV.bool true) i) (l.getD i default).node.fid = none := mapUpto_none fun j hj he => hin ⟨j, hj, he⟩
      have hu' : UnlikeN l (i + 1) := fun a ha b hb => by
        by_cases hai : a = i
        · subst hai; exact fun e => hin ⟨b, hb, e⟩
        · exact hu a (by omega) b hb
      generalize l.getD i default = n at *
      refine cw_go tabOK 99 (by simp only [go_sem, hg, keptRow, hget]; try exact rfl) ?_ ?_
      · simp [hg, keptRow, hlt]
      refine cw_condF (by simp only [go_sem]; try exact rfl) trivial (by simp [hget]) ?_
      refine cw_go tabOK 99 (by simp only [go_sem, hw]; try exact rfl) ?_ ?_
      · simp [AV.deepB, AV.pureB]
      refine cw_back ⟨i + 1, ⟨by omega, hu'⟩, by omega, le_sub ?_ ?_ ?_⟩
      · simp [go_sem]
      · simp [go_sem, hput]
      · simp only [go_sem]
  · have e : i = l.length := by simp at h; omega
    subst e
    refine cw_go tabOK 99 (by simp only [go_sem]; try exact rfl) (by simp [go_sem]) ?_
    refine cw_ret ⟨_, _, (by simp only [go_sem]; try exact rfl), by simp [go_sem], _, .inr (.inl rfl), ?_⟩
    unfold unlikeB
    rw [decide_eq_true hu]

def fidN (l : List Node) (i : Nat) : Int := (l.getD i default).fid
def mapUN (l : List Node) (i : Nat) : List (Int × AV) := mapUpto (fidN l) (fun i => .agg (nodeRow (l.getD i default))) i
def mapN (l : List Node) : List (Int × AV) := mapUN l l.length
theorem of_ok (l : List Node) (hlen : l.length ≤ 100000000) : FnOK Try.prog 26 [.sl (l.map nodeRow)] [] (fun r H => r = .mp 6 ∧ ∀ i b, hget [(6, .map (mapN l))] i = some b → hget H i = some b) := by
  refine fn_of_cwW tabOK (Go.Proofs.Try.func26) rfl (fun C => ?_)
  simp only [Go.Proofs.Try.ntmps26, Go.Proofs.Try.results26, go_sem]
  refine cw_go tabOK 99 (by simp only [go_sem]; try exact rfl) (by simp [go_sem]) ?_
  refine cw_loopS (fun i : Nat => i ≤ l.length) (fun i => l.length - i) (fun i => [(3, .mp 6), (5, .any), (9, .int .i64 i), (10, .any), (11, .any), (12, .any), (13, .any), (14, .any), (15, .any), (16, .any), (17, .any)])
    (fun i => [(6, .map (mapUN l i))]) 0 (by omega) ?_ fun i hi => ?_
  · simp only [go_sem]
    exact le_sub (by simp [go_sem]) (by simp [go_sem, mapUN, mapUpto]) (by simp only [go_sem])
  simp only [go_sem]
  refine cw_go tabOK 99 (by simp only [go_sem]; try exact rfl) (by simp [go_sem]) ?_
  refine cw_cond (by simp only [go_sem]; try exact rfl) trivial (fun h => ?_) (fun h => ?_)
  · have hlt : i < l.length := by simp at h; omega
    have hg : (l.map nodeRow).getD i [] = nodeRow (l.getD i default) := Fam.getD hlt
    have hw : IntKind.i64.wrap ((i : Int) + 1) = ((i + 1 : Nat) : Int) := by rw [Eng.wrap_small (by omega) (by omega)]; rfl
    have hput : mapUN l (i + 1) = mput (mapUN l i) (l.getD i default).fid (.agg (nodeRow (l.getD i default))) := rfl
    generalize l.getD i default = n at *
    refine cw_go tabOK 99 (by simp only [go_sem, hg, nodeRow, hw]; try exact rfl) ?_ ?_
    · simp [hg, nodeRow, hlt, AV.deepB, AV.pureB]
    refine cw_back ⟨i + 1, by omega, by omega, le_sub ?_ ?_ ?_⟩
    · simp [go_sem]
    · simp [go_sem, hput, nodeRow]
    · simp only [go_sem]
  · have e : i = l.length := by simp at h; omega
    subst e
    refine cw_go tabOK 99 (by simp only [go_sem]; try exact rfl) (by simp [go_sem]) ?_
    refine cw_ret ⟨_, _, (by simp only [go_sem]; try exact rfl), by simp [go_sem], _, .inr (.inl rfl), ?_⟩
    exact ⟨rfl, fun i b hb => hb⟩

theorem mapN_get {l : List Node} (h : Up l) (k : Int) : mget (mapN l) k = (findN l k).map fun n => .agg (nodeRow n) := by
  unfold mapN mapUN
  cases e : findN l k with
  | none =>
    have hn := (findN_none h).1 e
    exact mapUpto_none fun j hj => hn _ (getD_mem hj)
  | some n =>
    obtain ⟨hm, hf⟩ := (findN_some h).1 e
    obtain ⟨j, hj⟩ := List.getElem?_of_mem hm
    have hjl : j < l.length := (List.getElem?_eq_some_iff.1 hj).1
    have hjd := getD_of hj
    rw [mapUpto_some (j := j) hjl (by unfold fidN; rw [hjd]; exact hf) fun m h1 h2 h3 => by
      have := h.lt h1 h2
      unfold fidN at h3
      rw [hjd, hf, h3] at this
      omega]
    simp only [Option.map_some, hjd]
end La

namespace La
open Go Go.Eng Go.Proofs

structure JS where
  l : List Node
  next : Int
  version : Int
  own : List (Int × Int)
  ours : List (Int × Bool)
  lost : List (Int × Bool)

def atF (m : List (Int × Int)) (f : Int) : Int := if hasI m f = true then getI m f else f
def restsB (j : JS) (a : Act) : Bool := (fids a).any (getB j.lost)
def staleB (j : JS) (r : Rec) (a : Act) : Bool :=
  if ((a.kind ≠ 3 ∧ a.kind ≠ 4) ∨ r.version < 0) ∨ getB j.ours a.fid = true then false
  else match findN j.l a.fid with
    | none => true
    | some n => n.version != r.version
/-- the log's own fids, with that of a record that makes something -/
def own1 (j : JS) (r : Rec) : List (Int × Int) := if madeB r.act = true then mput j.own r.act.fid j.next else j.own
/-- the act as it is here -/
def actJ (j : JS) (r : Rec) : Act := { r.act with fid := atF (own1 j r) r.act.fid, dir := atF (own1 j r) r.act.dir, to := if r.act.kind = 5 then atF (own1 j r) r.act.to else r.act.to }
noncomputable def oneE (j : JS) (r : Rec) : Int :=
  if restsB j r.act = true then 14
  else if madeB r.act = true ∧ (hasI j.own r.act.fid = true ∨ r.act.fid ≥ 0) then 2
  else if staleB { j with own := own1 j r } r (actJ j r) = true then 13
  else applyE j.l (actJ j r)
noncomputable def oneJ (j : JS) (r : Rec) : JS :=
  if restsB j r.act = true then j
  else if madeB r.act = true ∧ (hasI j.own r.act.fid = true ∨ r.act.fid ≥ 0) then j
  else if staleB { j with own := own1 j r } r (actJ j r) = true then { j with own := own1 j r }
  else if applyE j.l (actJ j r) ≠ 0 then { j with own := if madeB r.act = true then mdel (own1 j r) r.act.fid else own1 j r }
  else { j with l := applyL j.l (actJ j r) j.version, next := if madeB r.act = true then j.next + 1 else j.next, version := j.version + 1, own := own1 j r }
def oneA (j : JS) (r : Rec) : Act :=
  if restsB j r.act = true then r.act
  else if madeB r.act = true ∧ (hasI j.own r.act.fid = true ∨ r.act.fid ≥ 0) then r.act
  else actJ j r
noncomputable def oneV (j : JS) (r : Rec) : Verdict := ⟨oneE j r, if oneE j r = 0 then (actJ j r).fid else 0⟩

/-- where Judge is: what judges, the verdicts, the acts that were done -/
structure JG where
  j : JS
  vs : List Verdict
  done : List Act
def lose (j : JS) (f : Int) : JS := { j with lost := mput j.lost f true }
def oursP (m : List (Int × Bool)) (l : List Int) : List (Int × Bool) := l.foldl (fun m f => mput m f true) m
noncomputable def stepJ (s : JG) (r : Rec) : JG :=
  if oneE s.j r = 0 then ⟨{ oneJ s.j r with ours := oursP (oneJ s.j r).ours (fids (oneA s.j r)) }, s.vs ++ [oneV s.j r], s.done ++ [oneA s.j r]⟩
  else ⟨lose (oneJ s.j r) r.act.fid, s.vs ++ [oneV s.j r], s.done⟩
def startJ (l : List Node) (next version : Int) : JG := ⟨⟨l, next, version, [], [], []⟩, [], []⟩
noncomputable def judgeJ (l : List Node) (next version : Int) (log : List Rec) : JG := log.foldl stepJ (startJ l next version)
/-- a server behind a log -/
noncomputable def takeS (s : Srv) (c : Int) (log : List Rec) : Srv :=
  ⟨(judgeJ s.tree s.next ((s.past.length + 1 : Nat) : Int) log).j.l, (judgeJ s.tree s.next ((s.past.length + 1 : Nat) : Int) log).j.next, s.past ++ (judgeJ s.tree s.next ((s.past.length + 1 : Nat) : Int) log).done.map fun a => ⟨c, a⟩⟩

/-! ### What was done is what is there -/
inductive Hist : List Past → List Node → Prop
  | nil : Hist [] [rootN]
  | snoc {p : List Past} {t : List Node} (c : Int) (a : Act) (h : Hist p t) (ha : ActFit a) (he : applyE t a = 0) : Hist (p ++ [⟨c, a⟩]) (applyL t a ((p.length + 1 : Nat) : Int))
theorem Hist.good {p : List Past} {t : List Node} (h : Hist p t) : Good t := by
  induction h with
  | nil => exact good_root
  | snoc c a h ha he ih => exact good_apply ih _ _ he
theorem Hist.st {p : List Past} {t : List Node} (h : Hist p t) : ∃ st : Nat → List Node, st 0 = [rootN] ∧ st p.length = t ∧
    ∀ i, i < p.length → Good (st i) ∧ ActFit (p.getD i default).act ∧ applyE (st i) (p.getD i default).act = 0 ∧ st (i + 1) = applyL (st i) (p.getD i default).act ((i + 1 : Nat) : Int) := by
  induction h with
  | nil => exact ⟨fun _ => [rootN], rfl, rfl, fun i hi => by simp at hi⟩
  | @snoc p t c a h ha he ih =>
    obtain ⟨st, h0, h1, h2⟩ := ih
    refine ⟨fun i => if i ≤ p.length then st i else applyL t a ((p.length + 1 : Nat) : Int), ?_, ?_, fun i hi => ?_⟩
    · simp [h0]
    · show (if (p ++ [(⟨c, a⟩ : Past)]).length ≤ p.length then _ else _) = _
      rw [if_neg (by simp)]
    · have hl : (p ++ [(⟨c, a⟩ : Past)]).length = p.length + 1 := by simp
      rw [hl] at hi
      by_cases e : i < p.length
      · have hg : (p ++ [(⟨c, a⟩ : Past)]).getD i default = p.getD i default := by
          rw [List.getD_eq_getElem?_getD, List.getElem?_append_left e, List.getD_eq_getElem?_getD]
        rw [hg]
        simp only [show i ≤ p.length by omega, if_true, show i + 1 ≤ p.length by omega]
        exact h2 i e
      · have e2 : i = p.length := by omega
        subst e2
        have hg : (p ++ [(⟨c, a⟩ : Past)]).getD p.length default = ⟨c, a⟩ := by
          rw [List.getD_eq_getElem?_getD, List.getElem?_append_right (Nat.le_refl _)]; simp
        rw [hg]
        simp only [Nat.le_refl, if_true, show ¬ p.length + 1 ≤ p.length by omega, if_false, h1]
        exact ⟨h.good, ha, he, trivial⟩

/-- small names and bytes -/
theorem actJ_fit {j : JS} {r : Rec} (h : ActFit r.act) : ActFit (actJ j r) := ⟨h.name, h.toName, h.data⟩
structure JInv (p : List Past) (c : Int) (k : Nat) (n0 : Int) (s : JG) : Prop where
  hist : Hist (p ++ s.done.map fun a => ⟨c, a⟩) s.j.l
  version : s.j.version = ((p.length + s.done.length + 1 : Nat) : Int)
  len : s.done.length ≤ k
  vlen : s.vs.length = k
  next : n0 ≤ s.j.next ∧ s.j.next ≤ n0 + k

theorem JInv.step {p : List Past} {c : Int} {k : Nat} {n0 : Int} {s : JG} (h : JInv p c k n0 s) {r : Rec} (hr : ActFit r.act) : JInv p c (k + 1) n0 (stepJ s r) := by
  unfold stepJ
  have h1 := h.next
  have h2 := h.len
  have h3 := h.vlen
  by_cases he : oneE s.j r = 0
  · rw [if_pos he]
    unfold oneE at he
    split at he
    · omega
    · rename_i c1
      split at he
      · omega
      · rename_i c2
        split at he
        · omega
        · rename_i c3
          have hJ : oneJ s.j r = { s.j with l := applyL s.j.l (actJ s.j r) s.j.version, next := if madeB r.act = true then s.j.next + 1 else s.j.next, version := s.j.version + 1, own := own1 s.j r } := by
            unfold oneJ; rw [if_neg c1, if_neg c2, if_neg c3, if_neg (by simp [he])]
          have hA : oneA s.j r = actJ s.j r := by unfold oneA; rw [if_neg c1, if_neg c2]
          rw [hJ, hA]
          refine ⟨?_, ?_, ?_, ?_, ?_⟩
          · have := Hist.snoc c (actJ s.j r) h.hist (actJ_fit hr) he
            rw [List.length_append, List.length_map, ← h.version] at this
            simpa using this
          · have := h.version
            simp only [List.length_append, List.length_cons, List.length_nil]
            omega
          · simp only [List.length_append, List.length_cons, List.length_nil]; omega
          · simp only [List.length_append, List.length_cons, List.length_nil]; omega
          · simp only
            split <;> omega
  · rw [if_neg he]
    have hJ : (oneJ s.j r).l = s.j.l ∧ (oneJ s.j r).next = s.j.next ∧ (oneJ s.j r).version = s.j.version := by
      unfold oneJ
      unfold oneE at he
      split
      · exact ⟨rfl, rfl, rfl⟩
      · rename_i c1
        rw [if_neg c1] at he
        split
        · exact ⟨rfl, rfl, rfl⟩
        · rename_i c2
          rw [if_neg c2] at he
          split
          · exact ⟨rfl, rfl, rfl⟩
          · rename_i c3
            rw [if_neg c3] at he
            rw [if_pos he]
            exact ⟨rfl, rfl, rfl⟩
    obtain ⟨j1, j2, j3⟩ := hJ
    refine ⟨?_, ?_, ?_, ?_, ?_⟩
    · show Hist _ (oneJ s.j r).l
      rw [j1]; exact h.hist
    · show (oneJ s.j r).version = _
      rw [j3]; exact h.version
    · show s.done.length ≤ k + 1; omega
    · simp only [List.length_append, List.length_cons, List.length_nil]; omega
    · show n0 ≤ (oneJ s.j r).next ∧ (oneJ s.j r).next ≤ n0 + ((k + 1 : Nat) : Int)
      rw [j2]; omega
theorem JInv.start {p : List Past} {t : List Node} (h : Hist p t) (c n0 : Int) : JInv p c 0 n0 (startJ t n0 ((p.length + 1 : Nat) : Int)) :=
  ⟨by simpa [startJ] using h, by simp [startJ], by simp [startJ], by simp [startJ], by simp [startJ]⟩
theorem JInv.judge {p : List Past} {t : List Node} (h : Hist p t) (c n0 : Int) (log : List Rec) (hl : ∀ r, r ∈ log → ActFit r.act) : JInv p c log.length n0 (judgeJ t n0 ((p.length + 1 : Nat) : Int) log) := by
  have key : ∀ (l : List Rec) (k : Nat) (s : JG), (∀ r, r ∈ l → ActFit r.act) → JInv p c k n0 s → JInv p c (k + l.length) n0 (l.foldl stepJ s) := fun l => by
    induction l with
    | nil => exact fun k s _ h => h
    | cons r l ih =>
      intro k s hl h
      have := ih (k + 1) (stepJ s r) (fun x hx => hl x (List.mem_cons_of_mem _ hx)) (h.step (hl r List.mem_cons_self))
      rw [List.foldl_cons, List.length_cons, show k + (l.length + 1) = k + 1 + l.length by omega]
      exact this
  have := key log 0 _ hl (JInv.start h c n0)
  rwa [Nat.zero_add] at this
/-- a server that came of steps -/
structure SrvOK (k : Nat) (s : Srv) : Prop where
  hist : Hist s.past s.tree
  len : s.past.length ≤ k
  next : 1 ≤ s.next ∧ s.next ≤ 1 + k
theorem SrvOK.new : SrvOK 0 ⟨[rootN], 1, []⟩ := ⟨.nil, by simp, by simp⟩
theorem SrvOK.mono {k m : Nat} {s : Srv} (h : SrvOK k s) (hk : k ≤ m) : SrvOK m s := ⟨h.hist, by have := h.len; omega, by have := h.next; omega⟩
theorem SrvOK.step {k : Nat} {s : Srv} (h : SrvOK k s) (c : Int) {a : Act} (ha : ActFit a) (he : doE s a = 0) : SrvOK (k + 1) (doS s c a) := by
  have h1 := h.len
  have h2 := h.next
  have hf : ActFit (doA s a) := by unfold doA; split; exact ⟨ha.name, ha.toName, ha.data⟩; exact ha
  refine ⟨Hist.snoc c _ h.hist hf he, by simp [doS]; omega, ?_⟩
  show 1 ≤ (if madeB a = true then s.next + 1 else s.next) ∧ (if madeB a = true then s.next + 1 else s.next) ≤ 1 + ((k + 1 : Nat) : Int)
  split <;> omega
theorem SrvOK.take {k : Nat} {s : Srv} (h : SrvOK k s) (c : Int) {log : List Rec} (hl : ∀ r, r ∈ log → ActFit r.act) : SrvOK (k + log.length) (takeS s c log) := by
  have h1 := h.len
  have h2 := h.next
  have hj := JInv.judge h.hist c s.next log hl
  have h3 := hj.len
  have h4 := hj.next
  exact ⟨hj.hist, by simp only [takeS, List.length_append, List.length_map]; omega, by show 1 ≤ (judgeJ s.tree s.next _ log).j.next ∧ (judgeJ s.tree s.next _ log).j.next ≤ _; omega⟩
end La
