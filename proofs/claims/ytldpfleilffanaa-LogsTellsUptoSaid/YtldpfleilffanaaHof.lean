/- slices.IndexFunc, ContainsFunc, DeleteFunc, by type. No condition. -/
import Derived.Test.YtldpfleilffanaaAux
namespace La
open Go Go.Eng Go.Proofs
set_option maxRecDepth 10000
set_option linter.unusedSimpArgs false

theorem rec_indexFunc (l : List Rec) (hlen : l.length ≤ 100000000) {f : FuncId} {caps : List AV} {p : Rec → Bool} (hcal : Callable Try.prog f) (hpure : (caps.all AV.pureB) = true)
    (hf : ∀ x, x ∈ l → FnOK Try.prog f (.agg (recRow x) :: caps) [] (fun r _ => r = .bool (p x))) :
    FnOK Try.prog 127 [.sl (l.map recRow), .fn f caps] [] (fun r _ => r = .int .i64 (idxI (l.findIdx? p))) := by
  have hcaps := refsL_pure hpure
  refine fn_of_cwW tabOK (Go.Proofs.Try.func127) rfl (fun C => ?_)
  simp only [Go.Proofs.Try.ntmps127, Go.Proofs.Try.results127, go_sem, Nat.reduceLT, Nat.reduceBEq, Nat.reduceLeDiff, Nat.reduceAdd, Nat.reduceMul, Nat.reduceSub, Nat.reduceEqDiff, Int.reduceNeg, Int.reduceToNat, Int.reduceAdd, Int.reduceSub]
  refine cw_go tabOK 99 (by simp only [go_sem, Nat.reduceLT, Nat.reduceBEq, Nat.reduceLeDiff, Nat.reduceAdd, Nat.reduceMul, Nat.reduceSub, Nat.reduceEqDiff, Int.reduceNeg, Int.reduceToNat, Int.reduceAdd, Int.reduceSub]; try exact rfl) (by simp [go_sem]) ?_
  refine cw_loopS (fun i : Nat => i ≤ l.length ∧ ∀ x, x ∈ l.take i → p x = false) (fun i => l.length - i) (fun i => [(8, .int .i64 i), (5, .any), (9, .any), (10, .any), (11, .any), (12, .any), (13, .any), (14, .any), (15, .any), (16, .any), (17, .any), (18, .any)]) (fun _ => []) 0 ⟨by omega, by simp⟩ ?_ fun i hi => ?_
  · simp only [go_sem, Nat.reduceLT, Nat.reduceBEq, Nat.reduceLeDiff, Nat.reduceAdd, Nat.reduceMul, Nat.reduceSub, Nat.reduceEqDiff, Int.reduceNeg, Int.reduceToNat, Int.reduceAdd, Int.reduceSub]
    exact le_sub (by simp [go_sem]) (by simp [go_sem]) (by simp [go_sem, hcaps])
  obtain ⟨hi, hno⟩ := hi
  simp only [go_sem, Nat.reduceLT, Nat.reduceBEq, Nat.reduceLeDiff, Nat.reduceAdd, Nat.reduceMul, Nat.reduceSub, Nat.reduceEqDiff, Int.reduceNeg, Int.reduceToNat, Int.reduceAdd, Int.reduceSub]
  refine cw_go tabOK 99 (by simp only [go_sem, Nat.reduceLT, Nat.reduceBEq, Nat.reduceLeDiff, Nat.reduceAdd, Nat.reduceMul, Nat.reduceSub, Nat.reduceEqDiff, Int.reduceNeg, Int.reduceToNat, Int.reduceAdd, Int.reduceSub]; try exact rfl) (by simp [go_sem]) ?_
  refine cw_cond (by simp only [go_sem, Nat.reduceLT, Nat.reduceBEq, Nat.reduceLeDiff, Nat.reduceAdd, Nat.reduceMul, Nat.reduceSub, Nat.reduceEqDiff, Int.reduceNeg, Int.reduceToNat, Int.reduceAdd, Int.reduceSub]; try exact rfl) trivial (fun h => ?_) (fun h => ?_)
  · have hlt : i < l.length := by simp at h; omega
    have hn := hf _ (getD_mem hlt)
    have hg : (l.map recRow).getD i [] = recRow (l.getD i default) := Fam.getD hlt
    have htk := take_succ_getD hlt
    have hgi : l[i]? = some (l.getD i default) := by rw [List.getD_eq_getElem?_getD, List.getElem?_eq_getElem hlt]; rfl
    generalize l.getD i default = n at hn hg htk hgi
    refine cw_go tabOK 99 (by simp only [go_sem, Nat.reduceLT, Nat.reduceBEq, Nat.reduceLeDiff, Nat.reduceAdd, Nat.reduceMul, Nat.reduceSub, Nat.reduceEqDiff, Int.reduceNeg, Int.reduceToNat, Int.reduceAdd, Int.reduceSub, hg, recRow]; try exact rfl) ?_ ?_
    · simp [hlt, recRow]
    refine cw_call rfl rfl (by simp only [go_sem, Nat.reduceLT, Nat.reduceBEq, Nat.reduceLeDiff, Nat.reduceAdd, Nat.reduceMul, Nat.reduceSub, Nat.reduceEqDiff, Int.reduceNeg, Int.reduceToNat, Int.reduceAdd, Int.reduceSub]; try exact rfl) (by simp [go_sem]) hcal (by simp [go_sem, hcaps]) (hn) (by simp [go_sem]) (by simp only [go_sem, Nat.reduceLT, Nat.reduceBEq, Nat.reduceLeDiff, Nat.reduceAdd, Nat.reduceMul, Nat.reduceSub, Nat.reduceEqDiff, Int.reduceNeg, Int.reduceToNat, Int.reduceAdd, Int.reduceSub]; exact rfl) ?_
    refine cw_go tabOK 99 (by simp only [go_sem, Nat.reduceLT, Nat.reduceBEq, Nat.reduceLeDiff, Nat.reduceAdd, Nat.reduceMul, Nat.reduceSub, Nat.reduceEqDiff, Int.reduceNeg, Int.reduceToNat, Int.reduceAdd, Int.reduceSub]; try exact rfl) (by simp [go_sem]) ?_
    refine cw_cond (by simp only [go_sem, Nat.reduceLT, Nat.reduceBEq, Nat.reduceLeDiff, Nat.reduceAdd, Nat.reduceMul, Nat.reduceSub, Nat.reduceEqDiff, Int.reduceNeg, Int.reduceToNat, Int.reduceAdd, Int.reduceSub]; try exact rfl) trivial (fun h => ?_) (fun h => ?_)
    · refine cw_go tabOK 99 (by simp only [go_sem, Nat.reduceLT, Nat.reduceBEq, Nat.reduceLeDiff, Nat.reduceAdd, Nat.reduceMul, Nat.reduceSub, Nat.reduceEqDiff, Int.reduceNeg, Int.reduceToNat, Int.reduceAdd, Int.reduceSub]; try exact rfl) (by simp [go_sem]) ?_
      refine cw_ret ⟨_, _, (by simp only [go_sem, Nat.reduceLT, Nat.reduceBEq, Nat.reduceLeDiff, Nat.reduceAdd, Nat.reduceMul, Nat.reduceSub, Nat.reduceEqDiff, Int.reduceNeg, Int.reduceToNat, Int.reduceAdd, Int.reduceSub]; try exact rfl), by simp [go_sem], _, .inr (.inl rfl), ?_⟩
      rw [findIdx_at hgi hno h]; rfl
    · have hw : IntKind.i64.wrap ((i : Int) + 1) = (i : Int) + 1 := wrap_small (by omega) (by omega)
      refine cw_go tabOK 99 (by simp only [go_sem, Nat.reduceLT, Nat.reduceBEq, Nat.reduceLeDiff, Nat.reduceAdd, Nat.reduceMul, Nat.reduceSub, Nat.reduceEqDiff, Int.reduceNeg, Int.reduceToNat, Int.reduceAdd, Int.reduceSub, hw]; try exact rfl) (by simp [go_sem, hw]) ?_
      refine cw_back ⟨i + 1, ⟨by omega, ?_⟩, by omega, le_sub ?_ ?_ ?_⟩
      · rw [htk]
        intro x hx
        rcases List.mem_append.1 hx with hx | hx
        · exact hno x hx
        · rw [List.mem_singleton.1 hx]; exact h
      · simp [go_sem]
      · simp [go_sem]
      · simp [go_sem, hcaps]
  · have e : i = l.length := by simp at h; omega
    refine cw_go tabOK 99 (by simp only [go_sem, Nat.reduceLT, Nat.reduceBEq, Nat.reduceLeDiff, Nat.reduceAdd, Nat.reduceMul, Nat.reduceSub, Nat.reduceEqDiff, Int.reduceNeg, Int.reduceToNat, Int.reduceAdd, Int.reduceSub]; try exact rfl) (by simp [go_sem]) ?_
    refine cw_ret ⟨_, _, (by simp only [go_sem, Nat.reduceLT, Nat.reduceBEq, Nat.reduceLeDiff, Nat.reduceAdd, Nat.reduceMul, Nat.reduceSub, Nat.reduceEqDiff, Int.reduceNeg, Int.reduceToNat, Int.reduceAdd, Int.reduceSub]; try exact rfl), by simp [go_sem], _, .inr (.inl rfl), ?_⟩
    rw [e, List.take_length] at hno
    rw [List.findIdx?_eq_none_iff.2 hno]; rfl

theorem rec_containsFunc (l : List Rec) (hlen : l.length ≤ 100000000) {f : FuncId} {caps : List AV} {p : Rec → Bool} (hcal : Callable Try.prog f) (hpure : (caps.all AV.pureB) = true)
    (hf : ∀ x, x ∈ l → FnOK Try.prog f (.agg (recRow x) :: caps) [] (fun r _ => r = .bool (p x))) :
    FnOK Try.prog 124 [.sl (l.map recRow), .fn f caps] [] (fun r _ => r = .bool (l.any p)) := by
  have hcaps := refsL_pure hpure
  refine fn_of_cwW tabOK (Go.Proofs.Try.func124) rfl (fun C => ?_)
  simp only [Go.Proofs.Try.ntmps124, Go.Proofs.Try.results124, go_sem, Nat.reduceLT, Nat.reduceBEq, Nat.reduceLeDiff, Nat.reduceAdd, Nat.reduceMul, Nat.reduceSub, Nat.reduceEqDiff, Int.reduceNeg, Int.reduceToNat, Int.reduceAdd, Int.reduceSub]
  refine cw_go tabOK 99 (by simp only [go_sem, Nat.reduceLT, Nat.reduceBEq, Nat.reduceLeDiff, Nat.reduceAdd, Nat.reduceMul, Nat.reduceSub, Nat.reduceEqDiff, Int.reduceNeg, Int.reduceToNat, Int.reduceAdd, Int.reduceSub]; try exact rfl) (by simp [go_sem]) ?_
  refine cw_call rfl rfl (by simp only [go_sem, Nat.reduceLT, Nat.reduceBEq, Nat.reduceLeDiff, Nat.reduceAdd, Nat.reduceMul, Nat.reduceSub, Nat.reduceEqDiff, Int.reduceNeg, Int.reduceToNat, Int.reduceAdd, Int.reduceSub]; try exact rfl) (by simp [go_sem]) ⟨_, Go.Proofs.Try.func127, by kernel_rfl, rfl⟩ (by simp [go_sem, hcaps]) (rec_indexFunc l hlen hcal hpure hf) (by simp [go_sem]) (by simp only [go_sem, Nat.reduceLT, Nat.reduceBEq, Nat.reduceLeDiff, Nat.reduceAdd, Nat.reduceMul, Nat.reduceSub, Nat.reduceEqDiff, Int.reduceNeg, Int.reduceToNat, Int.reduceAdd, Int.reduceSub]; exact rfl) ?_
  refine cw_go tabOK 99 (by simp only [go_sem, Nat.reduceLT, Nat.reduceBEq, Nat.reduceLeDiff, Nat.reduceAdd, Nat.reduceMul, Nat.reduceSub, Nat.reduceEqDiff, Int.reduceNeg, Int.reduceToNat, Int.reduceAdd, Int.reduceSub]; try exact rfl) (by simp [go_sem]) ?_
  refine cw_ret ⟨_, _, (by simp only [go_sem, Nat.reduceLT, Nat.reduceBEq, Nat.reduceLeDiff, Nat.reduceAdd, Nat.reduceMul, Nat.reduceSub, Nat.reduceEqDiff, Int.reduceNeg, Int.reduceToNat, Int.reduceAdd, Int.reduceSub]; try exact rfl), by simp [go_sem], _, .inr (.inl rfl), ?_⟩
  rw [idxI_any]

theorem rec_deleteFunc (l : List Rec) (hlen : l.length ≤ 100000000) (id : Nat) {f : FuncId} {caps : List AV} {p : Rec → Bool} (hcal : Callable Try.prog f) (hpure : (caps.all AV.pureB) = true) (hid : id ≠ 7)
    (hf : ∀ x, x ∈ l → FnOK Try.prog f (.agg (recRow x) :: caps) [] (fun r _ => r = .bool (p x))) :
    FnOK Try.prog 68 [.osl id 9 0 l.length, .fn f caps] [(id, .cells 27 9 (l.map recRow))] (fun r H => r = .osl id 9 0 (l.filter fun x => !p x).length ∧
      ∀ i b, hget [(id, .cells 27 9 ((l.filter fun x => !p x).map recRow ++ List.replicate (l.length - (l.filter fun x => !p x).length) [.int .i64 0, .int .i64 0, .int .i64 0, .str [], .int .i64 0, .str [], .nils, .int .i64 0, .int .i64 0]))] i = some b → hget H i = some b) := by
  have hcaps := refsL_pure hpure
  obtain ⟨q, hv, hq⟩ := viewL_pure hpure
  refine fn_of_cwW tabOK (Go.Proofs.Try.func68) rfl (fun C => ?_)
  simp only [Go.Proofs.Try.ntmps68, Go.Proofs.Try.results68, go_sem, Nat.reduceLT, Nat.reduceBEq, Nat.reduceLeDiff, Nat.reduceAdd, Nat.reduceMul, Nat.reduceSub, Nat.reduceEqDiff, Int.reduceNeg, Int.reduceToNat, Int.reduceAdd, Int.reduceSub]
  refine cw_go tabOK 99 (by simp only [go_sem, Nat.reduceLT, Nat.reduceBEq, Nat.reduceLeDiff, Nat.reduceAdd, Nat.reduceMul, Nat.reduceSub, Nat.reduceEqDiff, Int.reduceNeg, Int.reduceToNat, Int.reduceAdd, Int.reduceSub]; try exact rfl) (by simp [go_sem]) ?_
  refine cw_view rfl rfl (by simp only [go_sem, Nat.reduceLT, Nat.reduceBEq, Nat.reduceLeDiff, Nat.reduceAdd, Nat.reduceMul, Nat.reduceSub, Nat.reduceEqDiff, Int.reduceNeg, Int.reduceToNat, Int.reduceAdd, Int.reduceSub]; try exact rfl) (by simp [go_sem]) (by simp only [go_sem, hv, hq]; exact rfl) (by simp [go_sem, hv, hq]) ⟨_, Go.Proofs.Try.func127, by kernel_rfl, rfl⟩ (rec_indexFunc l hlen hcal hpure hf) (by simp [go_sem]) (by simp only [go_sem, Nat.reduceLT, Nat.reduceBEq, Nat.reduceLeDiff, Nat.reduceAdd, Nat.reduceMul, Nat.reduceSub, Nat.reduceEqDiff, Int.reduceNeg, Int.reduceToNat, Int.reduceAdd, Int.reduceSub]; exact rfl) ?_
  refine cw_go tabOK 99 (by simp only [go_sem, Nat.reduceLT, Nat.reduceBEq, Nat.reduceLeDiff, Nat.reduceAdd, Nat.reduceMul, Nat.reduceSub, Nat.reduceEqDiff, Int.reduceNeg, Int.reduceToNat, Int.reduceAdd, Int.reduceSub]; try exact rfl) (by simp [go_sem]) ?_
  refine cw_cond (by simp only [go_sem, Nat.reduceLT, Nat.reduceBEq, Nat.reduceLeDiff, Nat.reduceAdd, Nat.reduceMul, Nat.reduceSub, Nat.reduceEqDiff, Int.reduceNeg, Int.reduceToNat, Int.reduceAdd, Int.reduceSub]; try exact rfl) trivial (fun h => ?_) (fun h => ?_)
  · refine cw_go tabOK 99 (by simp only [go_sem, Nat.reduceLT, Nat.reduceBEq, Nat.reduceLeDiff, Nat.reduceAdd, Nat.reduceMul, Nat.reduceSub, Nat.reduceEqDiff, Int.reduceNeg, Int.reduceToNat, Int.reduceAdd, Int.reduceSub]; try exact rfl) (by simp [go_sem]) ?_
    refine cw_ret ⟨_, _, (by simp only [go_sem, Nat.reduceLT, Nat.reduceBEq, Nat.reduceLeDiff, Nat.reduceAdd, Nat.reduceMul, Nat.reduceSub, Nat.reduceEqDiff, Int.reduceNeg, Int.reduceToNat, Int.reduceAdd, Int.reduceSub]; try exact rfl), by simp [go_sem], _, .inr (.inl rfl), ?_⟩
    have hn : l.findIdx? p = none := by
      cases e : l.findIdx? p with
      | none => rfl
      | some k => rw [e] at h; simp [idxI] at h
    have hfl : l.filter (fun x => !p x) = l := List.filter_eq_self.2 fun x hx => by
      simp [List.findIdx?_eq_none_iff.1 hn x hx]
    rw [hfl]
    simp [hget]
  obtain ⟨k, hk⟩ : ∃ k, l.findIdx? p = some k := by
    cases e : l.findIdx? p with
    | none => rw [e] at h; simp [idxI] at h
    | some k => exact ⟨k, rfl⟩
  have hkl : k < l.length := (List.findIdx?_eq_some_iff_getElem.1 hk).1
  have hsp := filter_split hk
  rw [hk]
  have hw : IntKind.i64.wrap ((k : Int) + 1) = ((k + 1 : Nat) : Int) := by rw [Eng.wrap_small (by omega) (by omega)]; rfl
  simp only [idxI]
  refine cw_go tabOK 99 (by simp only [go_sem, Nat.reduceLT, Nat.reduceBEq, Nat.reduceLeDiff, Nat.reduceAdd, Nat.reduceMul, Nat.reduceSub, Nat.reduceEqDiff, Int.reduceNeg, Int.reduceToNat, Int.reduceAdd, Int.reduceSub, hw]; try exact rfl) (by simp [go_sem, hw]) ?_
  refine cw_loopS (fun s : Nat × List Rec => DelInv p l s.1 s.2) (fun s => l.length - s.1) (fun s => [(5, .int .i64 (((l.take s.1).filter fun x => !p x).length : Nat)), (6, .int .i64 (s.1 : Nat)), (7, .any), (16, .any), (17, .any), (18, .any), (19, .any), (20, .any), (21, .any), (22, .any), (23, .any), (24, .any), (25, .any), (26, .any), (27, .any), (28, .any), (29, .any), (30, .any), (31, .any), (32, .any), (33, .any), (34, .any), (35, .any)]) (fun s => [(id, .cells 27 9 (s.2.map recRow))]) (k + 1, l) (DelInv.start hk) ?_ fun s hs => ?_
  · have el : ((l.take (k + 1)).filter fun x => !p x).length = k := by rw [hsp]; simp; omega
    simp only [go_sem, Nat.reduceLT, Nat.reduceBEq, Nat.reduceLeDiff, Nat.reduceAdd, Nat.reduceMul, Nat.reduceSub, Nat.reduceEqDiff, Int.reduceNeg, Int.reduceToNat, Int.reduceAdd, Int.reduceSub, el]
    exact le_sub (by simp [go_sem]) (by simp [go_sem]) (by simp [go_sem, hcaps])
  obtain ⟨j, L⟩ := s
  have hjl := hs.le
  have hL := hs.len
  have hlt := hs.lt
  simp only at hs hjl hL hlt
  simp only [go_sem, Nat.reduceLT, Nat.reduceBEq, Nat.reduceLeDiff, Nat.reduceAdd, Nat.reduceMul, Nat.reduceSub, Nat.reduceEqDiff, Int.reduceNeg, Int.reduceToNat, Int.reduceAdd, Int.reduceSub]
  refine cw_go tabOK 99 (by simp only [go_sem, Nat.reduceLT, Nat.reduceBEq, Nat.reduceLeDiff, Nat.reduceAdd, Nat.reduceMul, Nat.reduceSub, Nat.reduceEqDiff, Int.reduceNeg, Int.reduceToNat, Int.reduceAdd, Int.reduceSub]; try exact rfl) (by simp [go_sem]) ?_
  refine cw_cond (by simp only [go_sem, Nat.reduceLT, Nat.reduceBEq, Nat.reduceLeDiff, Nat.reduceAdd, Nat.reduceMul, Nat.reduceSub, Nat.reduceEqDiff, Int.reduceNeg, Int.reduceToNat, Int.reduceAdd, Int.reduceSub]; try exact rfl) trivial (fun h => ?_) (fun h => ?_)
  · have hj : j < l.length := by simp at h; omega
    have hn := hf _ (getD_mem hj)
    have hg : (L.map recRow).getD j [] = recRow (l.getD j default) := by rw [Fam.getD (by omega), hs.get hj]
    have hkeep := hs.keep hj
    have hskip := hs.skip hj
    have htk := take_succ_getD hj
    generalize l.getD j default = n at hn hg hkeep hskip htk
    refine cw_go tabOK 99 (by simp only [go_sem, Nat.reduceLT, Nat.reduceBEq, Nat.reduceLeDiff, Nat.reduceAdd, Nat.reduceMul, Nat.reduceSub, Nat.reduceEqDiff, Int.reduceNeg, Int.reduceToNat, Int.reduceAdd, Int.reduceSub, hg, recRow, hid, Ne.symm hid]; try exact rfl) ?_ ?_
    · simp [recRow]; omega
    refine cw_call rfl rfl (by simp only [go_sem, Nat.reduceLT, Nat.reduceBEq, Nat.reduceLeDiff, Nat.reduceAdd, Nat.reduceMul, Nat.reduceSub, Nat.reduceEqDiff, Int.reduceNeg, Int.reduceToNat, Int.reduceAdd, Int.reduceSub]; try exact rfl) (by simp [go_sem]) hcal (by simp [go_sem, hcaps]) (hn) (by simp [go_sem]) (by simp only [go_sem, Nat.reduceLT, Nat.reduceBEq, Nat.reduceLeDiff, Nat.reduceAdd, Nat.reduceMul, Nat.reduceSub, Nat.reduceEqDiff, Int.reduceNeg, Int.reduceToNat, Int.reduceAdd, Int.reduceSub]; exact rfl) ?_
    generalize hm : ((l.take j).filter fun x => !p x).length = m at hkeep hlt
    have hw1 : IntKind.i64.wrap ((j : Int) + 1) = ((j + 1 : Nat) : Int) := by rw [Eng.wrap_small (by omega) (by omega)]; rfl
    have hw2 : IntKind.i64.wrap ((m : Int) + 1) = ((m + 1 : Nat) : Int) := by rw [Eng.wrap_small (by omega) (by omega)]; rfl
    refine cw_go tabOK 99 (by simp only [go_sem, Nat.reduceLT, Nat.reduceBEq, Nat.reduceLeDiff, Nat.reduceAdd, Nat.reduceMul, Nat.reduceSub, Nat.reduceEqDiff, Int.reduceNeg, Int.reduceToNat, Int.reduceAdd, Int.reduceSub, hm]; try exact rfl) (by simp [go_sem, hm]) ?_
    refine cw_cond (by simp only [go_sem, Nat.reduceLT, Nat.reduceBEq, Nat.reduceLeDiff, Nat.reduceAdd, Nat.reduceMul, Nat.reduceSub, Nat.reduceEqDiff, Int.reduceNeg, Int.reduceToNat, Int.reduceAdd, Int.reduceSub]; try exact rfl) trivial (fun h => ?_) (fun h => ?_)
    · have hp : p n = false := by simpa using h
      obtain ⟨hk1, hk2⟩ := hkeep hp
      have hset := set_map recRow L m n
      simp only [recRow] at hset
      have hgl : (L.map recRow).getD m [] = recRow (L.getD m default) := Fam.getD (by omega)
      simp only [recRow] at hgl
      refine cw_go tabOK 99 (by simp only [go_sem, Nat.reduceLT, Nat.reduceBEq, Nat.reduceLeDiff, Nat.reduceAdd, Nat.reduceMul, Nat.reduceSub, Nat.reduceEqDiff, Int.reduceNeg, Int.reduceToNat, Int.reduceAdd, Int.reduceSub, hw1, hw2, hm, hid, Ne.symm hid, hgl, hset]; try exact rfl) ?_ ?_
      · simp [hid, Ne.symm hid]; omega
      refine cw_back ⟨(j + 1, L.set m n), hk1, by simp only; omega, le_sub ?_ ?_ ?_⟩
      · simp [go_sem, hk2]
      · simp [go_sem, hid, Ne.symm hid, hset]
      · simp [go_sem, hcaps, -List.map_set]
    · have hp : p n = true := by simpa using h
      refine cw_go tabOK 99 (by simp only [go_sem, Nat.reduceLT, Nat.reduceBEq, Nat.reduceLeDiff, Nat.reduceAdd, Nat.reduceMul, Nat.reduceSub, Nat.reduceEqDiff, Int.reduceNeg, Int.reduceToNat, Int.reduceAdd, Int.reduceSub, hw1, hid, Ne.symm hid]; try exact rfl) (by simp [go_sem, hw1, hid, Ne.symm hid]) ?_
      have hsame : ((l.take (j + 1)).filter fun x => !p x).length = m := by
        rw [← hm, htk, List.filter_append]
        simp only [List.filter_cons, hp, Bool.not_true, Bool.false_eq_true, if_false, List.filter_nil, List.append_nil]
      refine cw_back ⟨(j + 1, L), hskip hp, by simp only; omega, le_sub ?_ ?_ ?_⟩
      · simp [go_sem, hsame, hm]
      · simp [go_sem, hid, Ne.symm hid]
      · simp [go_sem, hcaps]
  have e : j = l.length := by simp at h; omega
  subst e
  have hfin := hs.fin
  rw [List.take_length]
  generalize hd : (l.filter fun x => !p x) = d at *
  have hdl : d.length ≤ l.length := by rw [← hd]; exact List.length_filter_le _ _
  have hcl := clear_rows recRow (d := d) (L := L) [.int .i64 0, .int .i64 0, .int .i64 0, .str [], .int .i64 0, .str [], .nils, .int .i64 0, .int .i64 0] hfin (by omega)
  rw [hL] at hcl
  refine cw_go tabOK 99 (by simp only [go_sem, Nat.reduceLT, Nat.reduceBEq, Nat.reduceLeDiff, Nat.reduceAdd, Nat.reduceMul, Nat.reduceSub, Nat.reduceEqDiff, Int.reduceNeg, Int.reduceToNat, Int.reduceAdd, Int.reduceSub, hid, Ne.symm hid, hcl]; try exact rfl) ?_ ?_
  · simp only [not_false_eq_true, true_and]
    omega
  refine cw_ret ⟨_, _, (by simp only [go_sem, Nat.reduceLT, Nat.reduceBEq, Nat.reduceLeDiff, Nat.reduceAdd, Nat.reduceMul, Nat.reduceSub, Nat.reduceEqDiff, Int.reduceNeg, Int.reduceToNat, Int.reduceAdd, Int.reduceSub]; try exact rfl), by simp [go_sem], _, .inr (.inl rfl), ?_⟩
  simp [hget]

end La
