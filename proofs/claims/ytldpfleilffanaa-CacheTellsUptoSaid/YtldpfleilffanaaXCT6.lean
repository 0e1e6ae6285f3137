/- Texts of this claim, part 6: CTells. No condition. -/
import Derived.Test.YtldpfleilffanaaXCT5
namespace La
open Go Go.Eng Go.Proofs
set_option maxRecDepth 10000
set_option linter.unusedSimpArgs false
set_option linter.unusedVariables false

def sortN (l : List Node) : List Node := (mapD l).map (·.2)
def useF (fid now : Int) (x : Kept) : Kept := if x.node.fid = fid then { x with last := now } else x
def usedK (l : List Kept) (fid now : Int) (i : Nat) : List Kept := (l.take i).map (useF fid now)
theorem useF_node (fid now : Int) (x : Kept) : (useF fid now x).node = x.node := by unfold useF; split <;> rfl
theorem sameN_refl (v : Bool) (x : Node) : sameN v x x = true := by simp [sameN]
theorem sameT_refl (v : Bool) (l : List Node) : sameT v l l = true := (sameT_iff v l l).2 ⟨rfl, fun j _ => sameN_refl v _⟩
theorem use_all {l : List Kept} (hu : unlikeB l = true) (fid now : Int) : useK l fid now = l.map (useF fid now) := by
  have hU : UnlikeN l l.length := of_decide_eq_true hu
  unfold useK
  cases hk : kplace l fid with
  | none =>
    have hn : ∀ x, x ∈ l → x.node.fid ≠ fid := fun x hx e => by
      have := List.findIdx?_eq_none_iff.1 hk x hx
      simp [e] at this
    refine (List.ext_getElem? fun j => ?_)
    rw [List.getElem?_map]
    cases hj : l[j]? with
    | none => rfl
    | some x => simp [useF, hn x (List.mem_of_getElem? hj)]
  | some p =>
    obtain ⟨hp, hpf, hno⟩ := List.findIdx?_eq_some_iff_getElem.1 hk
    have hpf : l[p].node.fid = fid := by simpa using hpf
    have hat : ∀ j (hj : j < l.length), l[j].node.fid = fid → j = p := fun j hj e => by
      have hf : ∀ i (hi : i < l.length), fidK l i = l[i].node.fid := fun i hi => by unfold fidK; rw [List.getD_eq_getElem?_getD, List.getElem?_eq_getElem hi]; rfl
      rcases Nat.lt_trichotomy j p with h1 | h1 | h1
      · exact absurd (by rw [hf j hj, hf p hp, e, hpf]) (hU p hp j h1)
      · exact h1
      · exact absurd (by rw [hf j hj, hf p hp, e, hpf]) (hU j hj p h1)
    refine List.ext_getElem? fun j => ?_
    simp only
    rw [List.getElem?_map, List.getElem?_set]
    by_cases hjp : p = j
    · subst hjp
      rw [if_pos rfl, if_pos hp, List.getElem?_eq_getElem hp]
      simp [useF, hpf, List.getD_eq_getElem?_getD, List.getElem?_eq_getElem hp]
    · rw [if_neg hjp]
      cases hj : l[j]? with
      | none => rfl
      | some x =>
        obtain ⟨hjl, hje⟩ := List.getElem?_eq_some_iff.1 hj
        have : x.node.fid ≠ fid := fun e => hjp (hat j hjl (by rw [hje]; exact e)).symm
        simp [useF, this]
theorem smallK_use {l : List Kept} (h : SmallK l) (fid now : Int) : SmallK (l.map (useF fid now)) := ⟨by rw [List.length_map]; exact h.len, fun x hx => by
  obtain ⟨y, hy, rfl⟩ := List.mem_map.1 hx
  rw [useF_node]
  exact h.each y hy⟩
theorem smallK_sub {l m : List Kept} (h : SmallK l) (hs : ∀ x, x ∈ m → x ∈ l) (hl : m.length ≤ l.length) : SmallK m := ⟨by have := h.len; omega, fun x hx => h.each x (hs x hx)⟩
theorem keep_no {l : List Kept} {room : Int} {k : Kept} (hl : SmallK l) (hk : k.node.Small) (h : keepK l room k = none) : FnOK Try.prog 42 [.sl (l.map keptRow), .int .i64 room, .agg (keptRow k)] [] (fun r _ => r = .tup [.sl (([] : List Kept).map keptRow), .int .i64 5]) := by
  have := keep_ok l room k hl hk
  unfold keepR at this
  rw [h] at this
  exact this
theorem keep_yes {l L : List Kept} {room : Int} {k : Kept} (hl : SmallK l) (hk : k.node.Small) (h : keepK l room k = some L) : FnOK Try.prog 42 [.sl (l.map keptRow), .int .i64 room, .agg (keptRow k)] [] (fun r _ => r = .tup [.sl (L.map keptRow), .int .i64 0]) := by
  have := keep_ok l room k hl hk
  unfold keepR at this
  rw [h] at this
  exact this
theorem rkeep_no {l : List Kept} {room : Int} {k : Kept} (hl : l.length ≤ 90000000) (h : keepK l room k = none) : FnOK Try.prog 43 [.sl (l.map keptRow), .int .i64 room, .agg (keptRow k)] [] (fun r _ => r = .tup [.sl (([] : List Kept).map keptRow), .int .i64 5]) := by
  have := rkeep_ok l room k hl
  unfold keepR at this
  rw [h] at this
  exact this
theorem rkeep_yes {l L : List Kept} {room : Int} {k : Kept} (hl : l.length ≤ 90000000) (h : keepK l room k = some L) : FnOK Try.prog 43 [.sl (l.map keptRow), .int .i64 room, .agg (keptRow k)] [] (fun r _ => r = .tup [.sl (L.map keptRow), .int .i64 0]) := by
  have := rkeep_ok l room k hl
  unfold keepR at this
  rw [h] at this
  exact this
theorem shrinkK_sub {room : Int} : ∀ (f : Nat) (l L : List Kept), shrinkK room f l = some L → (∀ x, x ∈ L → x ∈ l) ∧ L.length ≤ l.length
  | 0, l, L, h => by rw [shrinkK] at h; injection h with h; subst h; exact ⟨fun x hx => hx, Nat.le_refl _⟩
  | f + 1, l, L, h => by
    rw [shrinkK] at h
    split at h
    · split at h
      · cases h
      · rename_i i _
        obtain ⟨h1, h2⟩ := shrinkK_sub f _ L h
        have := List.eraseIdx_sublist l i
        exact ⟨fun x hx => this.subset (h1 x hx), by have := this.length_le; omega⟩
    · injection h with h; subst h; exact ⟨fun x hx => hx, Nat.le_refl _⟩
theorem keepK_small {l L : List Kept} {room : Int} {k : Kept} (hl : SmallK l) (hll : l.length ≤ 90000000) (hk : k.node.Small) (h : keepK l room k = some L) : SmallK L := by
  unfold keepK at h
  cases e : kplace l k.node.fid with
  | some i =>
    rw [e] at h
    injection h with h
    subst h
    refine ⟨by rw [List.length_set]; exact hl.len, fun x hx => ?_⟩
    rcases List.mem_or_eq_of_mem_set hx with hx | hx
    · exact hl.each x hx
    · rw [hx]; exact hk
  | none =>
    rw [e] at h
    obtain ⟨L0, h0, rfl⟩ := Option.map_eq_some_iff.1 h
    obtain ⟨h1, h2⟩ := shrinkK_sub _ _ _ h0
    refine ⟨by simp; omega, fun x hx => ?_⟩
    rcases List.mem_append.1 hx with hx | hx
    · exact hl.each x (h1 x hx)
    · rw [List.mem_singleton.1 hx]; exact hk

theorem sameKept_self (a : List Kept) (ha : SmallK a) : FnOK Try.prog 44 [.sl (a.map keptRow), .sl (a.map keptRow)] [] (fun r _ => r = .bool true) := by
  have := sameKept_ok a a ha ha
  simpa using this
theorem same_self (a : List Node) (ha : Small a) : FnOK Try.prog 29 [.sl (a.map nodeRow), .sl (a.map nodeRow), .bool true] [] (fun r _ => r = .bool true) := by
  have := same_ok a a true ha ha
  rwa [sameT_refl] at this
theorem sortN_small {l : List Node} (h : Small l) : Small (sortN l) := ⟨by
  unfold sortN
  rw [List.length_map]
  have := mapDU_len l l.length
  have := h.len
  unfold mapD
  omega, fun x hx => by
  obtain ⟨p, hp, rfl⟩ := List.mem_map.1 hx
  exact h.each _ (mapDU_mem l l.length (Nat.le_refl _) p hp)⟩
theorem nodesK_small {l : List Kept} (h : SmallK l) : Small (nodesK l) := ⟨by unfold nodesK; rw [List.length_map]; exact h.len, fun x hx => by
  obtain ⟨k, hk, rfl⟩ := List.mem_map.1 hx
  exact h.each k hk⟩
theorem mapDU_key (l : List Node) : ∀ i, ∀ p, p ∈ mapDU l i → p.2.fid = p.1
  | 0, p, hp => by cases hp
  | i + 1, p, hp => by
    obtain ⟨k, x⟩ := p
    have := (mem_mput (mapDU_rise l i) k x).1 hp
    rcases this with ⟨rfl, rfl⟩ | ⟨_, h⟩
    · rfl
    · exact mapDU_key l i _ h
theorem list_sort (l : List Node) (hlen : l.length ≤ 50000000) : FnOK Try.prog 30 [.rm (mN (mapD l))] [] (fun r _ => r = .sl ((sortN l).map nodeRow)) := by
  have h := list_raw (mapD l) (mapD_rise l) (mapDU_key l l.length) (by have := mapDU_len l l.length; unfold mapD; omega)
  have e : (mapD l).map rowP = (sortN l).map nodeRow := by unfold sortN; rw [List.map_map]; rfl
  rwa [e] at h


set_option maxHeartbeats 8000000 in
theorem ctells_ok (l : List Kept) (room : Int) (k : Kept) (fid now : Int) (at_ : List Node) (hl : SmallK l) (hll : l.length ≤ 40000000) (hk : k.node.Small) (hat : Small at_)
    (htree : unlikeB l = true → FnOK Try.prog 46 [.sl (l.map keptRow)] [] (fun r _ => r = .sl ((sortN (nodesK l)).map nodeRow))) :
    FnOK Try.prog 10 [.sl (l.map keptRow), .int .i64 room, .agg (keptRow k), .int .i64 fid, .int .i64 now, .sl (at_.map nodeRow)] [] (fun r _ => r = .bool true) := by
  have hlen := hl.len
  refine fn_of_cwW tabOK (Go.Proofs.Try.func10) rfl (fun C => ?_)
  simp only [Go.Proofs.Try.ntmps10, Go.Proofs.Try.results10, go_sem]
  refine cw_goR 99 (by simp only [go_sem]; try exact rfl) ?_
  refine cw_runN tabOK 2 (by simp only [go_sem]; exact rfl) (by simp only [go_sem]; exact rfl) (by simp only [go_sem, keptRow]; try exact rfl) (by simp [go_sem, keptRow]) ?_
  refine cw_goR 99 (by simp only [go_sem]; try exact rfl) ?_
  refine cw_runN tabOK 1 (by simp only [go_sem]; exact rfl) (by simp only [go_sem]; exact rfl) (by simp only [go_sem]; try exact rfl) (by simp [go_sem]) ?_
  refine cw_call rfl rfl (by simp only [go_sem]; try exact rfl) (by simp [go_sem]) ⟨_, Go.Proofs.Try.func41, by kernel_rfl, rfl⟩ (by simp [go_sem]) (unlike_ok l hlen) (by simp [go_sem]) (by simp only [go_sem]; exact rfl) ?_
  refine cw_go tabOK 99 (by simp only [go_sem]; try exact rfl) (by simp [go_sem]) ?_
  refine cw_callC rfl (by simp only [go_sem]; try exact rfl) (by simp only [go_sem]; try exact rfl) (by simp [go_sem]) ⟨_, Go.Proofs.Try.func27, by kernel_rfl, rfl⟩ (by simp [go_sem]) (fun hb => (rises_ok at_ hat)) (by simp [go_sem]) (by simp only [go_sem]; exact rfl) ?_
  refine cw_go tabOK 99 (by simp only [go_sem]; try exact rfl) (by simp [go_sem]) ?_
  refine cw_cond (by simp only [go_sem]; try exact rfl) trivial (fun h => ?_) (fun h => ?_)
  · refine cw_go tabOK 99 (by simp only [go_sem]; try exact rfl) (by simp [go_sem]) ?_
    refine cw_ret ⟨_, _, (by simp only [go_sem]; try exact rfl), by simp [go_sem], _, .inr (.inl rfl), ?_⟩
    rfl
  have hu : unlikeB l = true := by
    revert h; cases unlikeB l <;> simp
  have hr : risesB at_ = true := by
    revert h; rw [hu]; cases risesB at_ <;> simp
  have hup := ((risesB_iff at_).1 hr).1
  have hF : SmallK (l.filter fun k => !staleK at_ k) := smallK_sub hl (fun x hx => (List.mem_filter.1 hx).1) (List.length_filter_le _ _)
  obtain ⟨X, c, hX, hk1, hk2⟩ : ∃ (X : List Kept) (c : Int), SmallK X ∧ FnOK Try.prog 42 [.sl (l.map keptRow), .int .i64 room, .agg (keptRow k)] [] (fun r _ => r = .tup [.sl (X.map keptRow), .int .i64 c]) ∧ FnOK Try.prog 43 [.sl (l.map keptRow), .int .i64 room, .agg (keptRow k)] [] (fun r _ => r = .tup [.sl (X.map keptRow), .int .i64 c]) := by
    cases hkp : keepK l room k with
    | none => exact ⟨[], 5, ⟨by simp, fun x hx => (by cases hx)⟩, keep_no hl hk hkp, rkeep_no (by omega) hkp⟩
    | some L => exact ⟨L, 0, keepK_small hl (by omega) hk hkp, keep_yes hl hk hkp, rkeep_yes (by omega) hkp⟩
  refine cw_go tabOK 99 (by simp only [go_sem]; try exact rfl) (by simp [go_sem]) ?_
  refine cw_call rfl rfl (by simp only [go_sem]; try exact rfl) (by simp [go_sem]) ⟨_, Go.Proofs.Try.func42, by kernel_rfl, rfl⟩ (by simp [go_sem]) (hk1) (by simp [go_sem]) (by simp only [go_sem]; exact rfl) ?_
  refine cw_go tabOK 99 (by simp only [go_sem]; try exact rfl) (by simp [go_sem]) ?_
  refine cw_call rfl rfl (by simp only [go_sem]; try exact rfl) (by simp [go_sem]) ⟨_, Go.Proofs.Try.func43, by kernel_rfl, rfl⟩ (by simp [go_sem]) (hk2) (by simp [go_sem]) (by simp only [go_sem]; exact rfl) ?_
  refine cw_runN tabOK 5 (by simp only [go_sem]; exact rfl) (by simp only [go_sem]; exact rfl) (by simp only [go_sem]; try exact rfl) (by simp [go_sem]) ?_
  refine cw_goR 99 (by simp only [go_sem]; try exact rfl) ?_
  refine cw_runN tabOK 3 (by simp only [go_sem]; exact rfl) (by simp only [go_sem]; exact rfl) (by simp only [go_sem]; try exact rfl) (by simp [go_sem]) ?_
  simp only [bne_self_eq_false]
  refine cw_go tabOK 99 (by simp only [go_sem]; try exact rfl) (by simp [go_sem]) ?_
  refine cw_callC rfl (by simp only [go_sem]; try exact rfl) (by simp only [go_sem]; try exact rfl) (by simp [go_sem]) ⟨_, Go.Proofs.Try.func44, by kernel_rfl, rfl⟩ (by simp [go_sem]) (fun hb => (sameKept_self X hX)) (by simp [go_sem]) (by simp only [go_sem]; exact rfl) ?_
  refine cw_go tabOK 99 (by simp only [go_sem]; try exact rfl) (by simp [go_sem]) ?_
  refine cw_callC rfl (by simp only [go_sem]; try exact rfl) (by simp only [go_sem]; try exact rfl) (by simp [go_sem]) ⟨_, Go.Proofs.Try.func45, by kernel_rfl, rfl⟩ (by simp [go_sem]) (fun hb => (kown_ok l hl)) (by simp [go_sem]) (by simp only [go_sem]; exact rfl) ?_
  refine cw_go tabOK 99 (by simp only [go_sem]; try exact rfl) (by simp [go_sem]) ?_
  refine cw_callC rfl (by simp only [go_sem]; try exact rfl) (by simp only [go_sem]; try exact rfl) (by simp [go_sem]) ⟨_, Go.Proofs.Try.func44, by kernel_rfl, rfl⟩ (by simp [go_sem]) (fun hb => (sameKept_self l hl)) (by simp [go_sem]) (by simp only [go_sem]; exact rfl) ?_
  refine cw_go tabOK 99 (by simp only [go_sem]; try exact rfl) (by simp [go_sem]) ?_
  refine cw_callC rfl (by simp only [go_sem]; try exact rfl) (by simp only [go_sem]; try exact rfl) (by simp [go_sem]) ⟨_, Go.Proofs.Try.func46, by kernel_rfl, rfl⟩ (by simp [go_sem]) (fun hb => (htree hu)) (by simp [go_sem]) (by simp only [go_sem]; exact rfl) ?_
  refine cw_go tabOK 99 (by simp only [go_sem]; try exact rfl) (by simp [go_sem]) ?_
  refine cw_callC rfl (by simp only [go_sem]; try exact rfl) (by simp only [go_sem]; try exact rfl) (by simp [go_sem]) ⟨_, Go.Proofs.Try.func47, by kernel_rfl, rfl⟩ (by simp [go_sem]) (fun hb => (kept_rm l hlen)) (by simp [go_sem]) (by simp only [go_sem]; exact rfl) ?_
  refine cw_go tabOK 99 (by simp only [go_sem]; try exact rfl) (by simp [go_sem]) ?_
  refine cw_callC rfl (by simp only [go_sem]; try exact rfl) (by simp only [go_sem]; try exact rfl) (by simp [go_sem]) ⟨_, Go.Proofs.Try.func30, by kernel_rfl, rfl⟩ (by simp [go_sem]) (fun hb => (list_sort (nodesK l) (by unfold nodesK; rw [List.length_map]; omega))) (by simp [go_sem]) (by simp only [go_sem]; exact rfl) ?_
  refine cw_go tabOK 99 (by simp only [go_sem]; try exact rfl) (by simp [go_sem]) ?_
  refine cw_callC rfl (by simp only [go_sem]; try exact rfl) (by simp only [go_sem]; try exact rfl) (by simp [go_sem]) ⟨_, Go.Proofs.Try.func29, by kernel_rfl, rfl⟩ (by simp [go_sem]) (fun hb => (same_self (sortN (nodesK l)) (sortN_small (nodesK_small hl)))) (by simp [go_sem]) (by simp only [go_sem]; exact rfl) ?_
  refine cw_go tabOK 99 (by simp only [go_sem]; try exact rfl) (by simp [go_sem]) ?_
  refine cw_callC rfl (by simp only [go_sem]; try exact rfl) (by simp only [go_sem]; try exact rfl) (by simp [go_sem]) ⟨_, Go.Proofs.Try.func48, by kernel_rfl, rfl⟩ (by simp [go_sem]) (fun hb => (fresh_ok l at_ hl hat)) (by simp [go_sem]) (by simp only [go_sem]; exact rfl) ?_
  refine cw_go tabOK 99 (by simp only [go_sem]; try exact rfl) (by simp [go_sem]) ?_
  refine cw_callC rfl (by simp only [go_sem]; try exact rfl) (by simp only [go_sem]; try exact rfl) (by simp [go_sem]) ⟨_, Go.Proofs.Try.func26, by kernel_rfl, rfl⟩ (by simp [go_sem]) (fun hb => (of_rm at_ hat.len)) (by simp [go_sem]) (by simp only [go_sem]; exact rfl) ?_
  refine cw_go tabOK 99 (by simp only [go_sem]; try exact rfl) (by simp [go_sem]) ?_
  refine cw_callC rfl (by simp only [go_sem]; try exact rfl) (by simp only [go_sem]; try exact rfl) (by simp [go_sem]) ⟨_, Go.Proofs.Try.func49, by kernel_rfl, rfl⟩ (by simp [go_sem]) (fun hb => (rfreshK_ok l at_ (by omega) hup)) (by simp [go_sem]) (by simp only [go_sem]; exact rfl) ?_
  refine cw_go tabOK 99 (by simp only [go_sem]; try exact rfl) (by simp [go_sem]) ?_
  refine cw_callC rfl (by simp only [go_sem]; try exact rfl) (by simp only [go_sem]; try exact rfl) (by simp [go_sem]) ⟨_, Go.Proofs.Try.func44, by kernel_rfl, rfl⟩ (by simp [go_sem]) (fun hb => (sameKept_self (l.filter fun k => !staleK at_ k) hF)) (by simp [go_sem]) (by simp only [go_sem]; exact rfl) ?_
  refine cw_go tabOK 99 (by simp only [go_sem]; try exact rfl) (by simp [go_sem]) ?_
  refine cw_cond (by simp only [go_sem]; try exact rfl) trivial (fun h => ?_) (fun h => ?_)
  · exfalso; simp at h
  refine cw_go tabOK 99 (by simp only [go_sem]; try exact rfl) (by simp [go_sem]) ?_
  refine cw_le (le_empty 127 72 8 (by simp only [go_sem]; try exact rfl)) ?_
  simp only [go_sem]
  refine cw_le (le_empty 116 72 8 (by simp only [go_sem]; try exact rfl)) ?_
  simp only [go_sem]
  refine cw_loopS (fun i : Nat => i ≤ l.length) (fun i => l.length - i) (fun i => [(17, .int .i64 (idxI (worstAt l i))), (18, .osl 127 8 0 i), (19, .osl 116 8 0 ((l.take i).filter fun k => !k.dirty).length), (20, .bool (hasK (l.take i) fid)), (21, .any), (22, .any), (83, .int .i64 i), (84, .any), (85, .any), (86, .any), (87, .any), (88, .any), (89, .any), (90, .any), (91, .any), (92, .any), (93, .any), (94, .any), (95, .any), (96, .any), (97, .any), (98, .any), (99, .any), (100, .any), (101, .any), (102, .any), (103, .any), (104, .any), (105, .any), (106, .any), (107, .any), (108, .any), (109, .any), (110, .any), (111, .any), (112, .any), (113, .any), (114, .any), (115, .any), (116, .any), (117, .any), (118, .any), (119, .any), (120, .any), (121, .any), (122, .any), (123, .any), (124, .any), (125, .any), (126, .any), (127, .any), (128, .any)]) (fun i => [(127, .cells 72 8 ((usedK l fid now i).map keptRow)), (116, .cells 72 8 (((l.take i).filter fun k => !k.dirty).map keptRow))]) 0 (by omega) ?_ fun i hi => ?_
  · simp only [go_sem]
    exact le_sub (by simp [go_sem, worstAt, idxI, hasK]) (by simp [go_sem, usedK]) (by simp [go_sem])
  simp only [go_sem]
  refine cw_go tabOK 99 (by simp only [go_sem]; try exact rfl) (by simp [go_sem]) ?_
  refine cw_cond (by simp only [go_sem]; try exact rfl) trivial (fun h => ?_) (fun h => ?_)
  · have hlt : i < l.length := by simp at h; omega
    have hg : (l.map keptRow).getD i [] = keptRow (l.getD i default) := Fam.getD hlt
    have hw : IntKind.i64.wrap ((i : Int) + 1) = ((i + 1 : Nat) : Int) := by rw [Eng.wrap_small (by omega) (by omega)]; rfl
    have hwa : worstAt l (i + 1) = if (l.getD i default).dirty || (l.getD i default).node.fid == 0 then worstAt l i
        else match worstAt l i with
          | none => some i
          | some b => if cmpK (l.getD i default) (l.getD b default) < 0 then some i else some b := rfl
    have hwl := worstAt_lt l i
    have htU : usedK l fid now (i + 1) = usedK l fid now i ++ [useF fid now (l.getD i default)] := by unfold usedK; rw [take_succ_getD hlt, List.map_append]; rfl
    have htC : (l.take (i + 1)).filter (fun k => !k.dirty) = (l.take i).filter (fun k => !k.dirty) ++ if (l.getD i default).dirty = true then [] else [l.getD i default] := by
      rw [take_succ_getD hlt, List.filter_append, List.filter_cons]
      cases (l.getD i default).dirty <;> simp
    have htH : hasK (l.take (i + 1)) fid = (hasK (l.take i) fid || ((l.getD i default).node.fid == fid)) := by unfold hasK; rw [take_succ_getD hlt, List.any_append]; simp
    have hlU : (usedK l fid now i).length = i := by unfold usedK; rw [List.length_map, List.length_take]; omega
    have hlC : ((l.take i).filter fun k => !k.dirty).length ≤ i := by
      have := List.length_filter_le (fun k : Kept => !k.dirty) (l.take i)
      simp only [List.length_take] at this
      omega
    generalize usedK l fid now i = U at htU hlU
    generalize (l.take i).filter (fun k => !k.dirty) = D at htC hlC
    generalize hasK (l.take i) fid = hs at htH
    generalize l.getD i default = x at hg hwa htU htC htH
    have hqU : List.take i (U.map keptRow) = U.map keptRow := List.take_of_length_le (by simp [hlU])
    have hqD : List.take D.length (D.map keptRow) = D.map keptRow := List.take_of_length_le (by simp)
    refine cw_go tabOK 99 (by simp only [go_sem, hg, keptRow]; try exact rfl) ?_ ?_
    · simp [hg, keptRow, hlt]
    refine cw_draw mixed ?_
    refine seg_start rfl ?_
    cases hd : x.dirty with
    | true =>
      rw [hd, Bool.true_or, if_pos rfl] at hwa
      rw [hd, if_pos rfl, List.append_nil] at htC
      refine seg_runN tabOK 4 (by simp only [go_sem]; exact rfl) (by simp only [go_sem]; exact rfl) (by simp only [go_sem, hd]; try exact rfl) (by simp [go_sem, hd]) (by simp only [go_sem]; exact rfl) ?_
      try simp only [hd, Bool.not_true]
      iterate 3 refine seg_skip .any (by simp only [go_sem]; try exact rfl) (by simp only [go_sem]; exact rfl) (by simp only [go_sem]; exact rfl) ?_
      refine seg_skip (.bool false) (by simp only [go_sem]; try exact rfl) (by simp only [go_sem]; exact rfl) (by simp only [go_sem]; exact rfl) ?_
      refine seg_runN tabOK 2 (by simp only [go_sem]; exact rfl) (by simp only [go_sem]; exact rfl) (by simp only [go_sem]; try exact rfl) (by simp [go_sem]) (by simp only [go_sem]; exact rfl) ?_
      refine seg_skip .any (by simp only [go_sem]; try exact rfl) (by simp only [go_sem]; exact rfl) (by simp only [go_sem]; exact rfl) ?_
      refine seg_skip (.bool false) (by simp only [go_sem]; try exact rfl) (by simp only [go_sem]; exact rfl) (by simp only [go_sem]; exact rfl) ?_
      refine seg_skip (.bool false) (by simp only [go_sem]; try exact rfl) (by simp only [go_sem]; exact rfl) (by simp only [go_sem]; exact rfl) ?_
      iterate 5 refine seg_skip .any (by simp only [go_sem]; try exact rfl) (by simp only [go_sem]; exact rfl) (by simp only [go_sem]; exact rfl) ?_
      refine seg_skip (.bool false) (by simp only [go_sem]; try exact rfl) (by simp only [go_sem]; exact rfl) (by simp only [go_sem]; exact rfl) ?_
      refine seg_skip (.bool false) (by simp only [go_sem]; try exact rfl) (by simp only [go_sem]; exact rfl) (by simp only [go_sem]; exact rfl) ?_
      refine seg_runN tabOK 1 (by simp only [go_sem]; exact rfl) (by simp only [go_sem]; exact rfl) (by simp only [go_sem]; try exact rfl) (by simp [go_sem]) (by simp only [go_sem]; exact rfl) ?_
      refine seg_end (by kernel_rfl) (by simp only [go_sem]; exact rfl) ?_
      refine draw_close (by kernel_rfl) ?_
      try simp only [go_sem, List.getElem_toArray, List.getElem_cons_succ, List.getElem_cons_zero]
      refine cw_cond (by simp only [go_sem]; try exact rfl) trivial (fun h => ?_) (fun h => ?_)
      · exfalso; simp at h
      refine cw_go tabOK 99 (by simp only [go_sem]; try exact rfl) (by simp [go_sem]) ?_
      refine cw_condF (by simp only [go_sem]; try exact rfl) trivial (by simp [hd]) ?_
      refine cw_go tabOK 99 (by simp only [go_sem]; try exact rfl) (by simp [go_sem]) ?_
      by_cases hq : x.node.fid = fid
      · have hux : useF fid now x = { x with last := now } := by unfold useF; rw [if_pos hq]
        refine cw_condT (by simp only [go_sem]; try exact rfl) trivial (by simp [hq]) ?_
        refine cw_go tabOK 99 (by simp only [go_sem, hw]; try exact rfl) ?_ ?_
        · simp [hqU, refs, hlU]
          exact ⟨by intro row h; simp at h; subst h; rfl, by omega, fun x _ y hy => by rw [keptRow_refs hy]; simp⟩
        refine cw_back ⟨i + 1, by omega, by omega, le_sub ?_ ?_ ?_⟩
        · simp [go_sem, hwa, htC, htH, hq]
        · simp [go_sem, htU, hux, htC, hqU, hqD, keptRow, hd]
        · simp [go_sem]
      · have hux : useF fid now x = x := by unfold useF; rw [if_neg hq]
        refine cw_condF (by simp only [go_sem]; try exact rfl) trivial (by simp [hq]) ?_
        refine cw_go tabOK 99 (by simp only [go_sem, hw]; try exact rfl) ?_ ?_
        · simp [hqU, refs, hlU]
          exact ⟨by intro row h; simp at h; subst h; rfl, by omega, fun x _ y hy => by rw [keptRow_refs hy]; simp⟩
        refine cw_back ⟨i + 1, by omega, by omega, le_sub ?_ ?_ ?_⟩
        · simp [go_sem, hwa, htC, htH, hq]
        · simp [go_sem, htU, hux, htC, hqU, hqD, keptRow, hd]
        · simp [go_sem]
    | false =>
      rw [hd, if_neg Bool.false_ne_true] at htC
      by_cases hf : x.node.fid = 0
      · have hf0 : (x.node.fid == 0) = true := by simp [hf]
        have hf1 : (x.node.fid != 0) = false := by simp [hf]
        rw [hd, hf0, Bool.or_true, if_pos rfl] at hwa
        refine seg_runN tabOK 10 (by simp only [go_sem]; exact rfl) (by simp only [go_sem]; exact rfl) (by simp only [go_sem, hd, hf1]; try exact rfl) (by simp [go_sem, hd, hf1]) (by simp only [go_sem]; exact rfl) ?_
        try simp only [hd, hf1, Bool.not_false, cond_true]
        refine seg_skip .any (by simp only [go_sem]; try exact rfl) (by simp only [go_sem]; exact rfl) (by simp only [go_sem]; exact rfl) ?_
        refine seg_skip (.bool false) (by simp only [go_sem]; try exact rfl) (by simp only [go_sem]; exact rfl) (by simp only [go_sem]; exact rfl) ?_
        refine seg_skip (.bool false) (by simp only [go_sem]; try exact rfl) (by simp only [go_sem]; exact rfl) (by simp only [go_sem]; exact rfl) ?_
        iterate 5 refine seg_skip .any (by simp only [go_sem]; try exact rfl) (by simp only [go_sem]; exact rfl) (by simp only [go_sem]; exact rfl) ?_
        refine seg_skip (.bool false) (by simp only [go_sem]; try exact rfl) (by simp only [go_sem]; exact rfl) (by simp only [go_sem]; exact rfl) ?_
        refine seg_skip (.bool false) (by simp only [go_sem]; try exact rfl) (by simp only [go_sem]; exact rfl) (by simp only [go_sem]; exact rfl) ?_
        refine seg_runN tabOK 1 (by simp only [go_sem]; exact rfl) (by simp only [go_sem]; exact rfl) (by simp only [go_sem]; try exact rfl) (by simp [go_sem]) (by simp only [go_sem]; exact rfl) ?_
        refine seg_end (by kernel_rfl) (by simp only [go_sem]; exact rfl) ?_
        refine draw_close (by kernel_rfl) ?_
        try simp only [go_sem, List.getElem_toArray, List.getElem_cons_succ, List.getElem_cons_zero]
        refine cw_cond (by simp only [go_sem]; try exact rfl) trivial (fun h => ?_) (fun h => ?_)
        · exfalso; simp at h
        refine cw_go tabOK 99 (by simp only [go_sem]; try exact rfl) (by simp [go_sem]) ?_
        refine cw_condT (by simp only [go_sem]; try exact rfl) trivial (by simp [hd]) ?_
        refine cw_go tabOK 99 (by simp only [go_sem]; try exact rfl) ?_ ?_
        · simp [hqD, refs]
          exact ⟨by intro row h; simp at h; subst h; rfl, by omega⟩
        by_cases hq : x.node.fid = fid
        · have hux : useF fid now x = { x with last := now } := by unfold useF; rw [if_pos hq]
          refine cw_condT (by simp only [go_sem]; try exact rfl) trivial (by simp [hq]) ?_
          refine cw_go tabOK 99 (by simp only [go_sem, hw]; try exact rfl) ?_ ?_
          · simp [hqU, refs, hlU]
            exact ⟨by intro row h; simp at h; subst h; rfl, by omega, fun x _ y hy => by rw [keptRow_refs hy]; simp⟩
          refine cw_back ⟨i + 1, by omega, by omega, le_sub ?_ ?_ ?_⟩
          · simp [go_sem, hwa, htC, htH, hq, idxI]
          · simp [go_sem, htU, hux, htC, hqU, hqD, keptRow, hd]
          · simp [go_sem]
        · have hux : useF fid now x = x := by unfold useF; rw [if_neg hq]
          refine cw_condF (by simp only [go_sem]; try exact rfl) trivial (by simp [hq]) ?_
          refine cw_go tabOK 99 (by simp only [go_sem, hw]; try exact rfl) ?_ ?_
          · simp [hqU, refs, hlU]
            exact ⟨by intro row h; simp at h; subst h; rfl, by omega, fun x _ y hy => by rw [keptRow_refs hy]; simp⟩
          refine cw_back ⟨i + 1, by omega, by omega, le_sub ?_ ?_ ?_⟩
          · simp [go_sem, hwa, htC, htH, hq, idxI]
          · simp [go_sem, htU, hux, htC, hqU, hqD, keptRow, hd]
          · simp [go_sem]
      · have hf0 : (x.node.fid == 0) = false := by simp [hf]
        have hf1 : (x.node.fid != 0) = true := by simp [hf]
        rw [hd, hf0, Bool.or_false, if_neg Bool.false_ne_true] at hwa
        cases hwb : worstAt l i with
        | none =>
          rw [hwb] at hwa
          simp only at hwa
          refine seg_runN tabOK 13 (by simp only [go_sem]; exact rfl) (by simp only [go_sem]; exact rfl) (by simp only [go_sem, hd, hf1, idxI]; try exact rfl) (by simp [go_sem, hd, hf1, idxI]) (by simp only [go_sem]; exact rfl) ?_
          try simp only [hd, hf1, Bool.not_false, cond_true, show decide ((-1 : Int) < 0) = true from rfl, beq_self_eq_true, Bool.true_and, Bool.and_true]
          iterate 5 refine seg_skip .any (by simp only [go_sem]; try exact rfl) (by simp only [go_sem]; exact rfl) (by simp only [go_sem]; exact rfl) ?_
          refine seg_skip (.bool false) (by simp only [go_sem]; try exact rfl) (by simp only [go_sem]; exact rfl) (by simp only [go_sem]; exact rfl) ?_
          refine seg_runN tabOK 2 (by simp only [go_sem]; exact rfl) (by simp only [go_sem]; exact rfl) (by simp only [go_sem]; try exact rfl) (by simp [go_sem]) (by simp only [go_sem]; exact rfl) ?_
          refine seg_end (by kernel_rfl) (by simp only [go_sem]; exact rfl) ?_
          refine draw_close (by kernel_rfl) ?_
          try simp only [go_sem, List.getElem_toArray, List.getElem_cons_succ, List.getElem_cons_zero]
          refine cw_cond (by simp only [go_sem]; try exact rfl) trivial (fun h => ?_) (fun h => ?_)
          · skip
            refine cw_go tabOK 99 (by simp only [go_sem]; try exact rfl) (by simp [go_sem]) ?_
            refine cw_condT (by simp only [go_sem]; try exact rfl) trivial (by simp [hd]) ?_
            refine cw_go tabOK 99 (by simp only [go_sem]; try exact rfl) ?_ ?_
            · simp [hqD, refs]
              exact ⟨by intro row h; simp at h; subst h; rfl, by omega⟩
            by_cases hq : x.node.fid = fid
            · have hux : useF fid now x = { x with last := now } := by unfold useF; rw [if_pos hq]
              refine cw_condT (by simp only [go_sem]; try exact rfl) trivial (by simp [hq]) ?_
              refine cw_go tabOK 99 (by simp only [go_sem, hw]; try exact rfl) ?_ ?_
              · simp [hqU, refs, hlU]
                exact ⟨by intro row h; simp at h; subst h; rfl, by omega, fun x _ y hy => by rw [keptRow_refs hy]; simp⟩
              refine cw_back ⟨i + 1, by omega, by omega, le_sub ?_ ?_ ?_⟩
              · simp [go_sem, hwa, htC, htH, hq, idxI]
              · simp [go_sem, htU, hux, htC, hqU, hqD, keptRow, hd]
              · simp [go_sem]
            · have hux : useF fid now x = x := by unfold useF; rw [if_neg hq]
              refine cw_condF (by simp only [go_sem]; try exact rfl) trivial (by simp [hq]) ?_
              refine cw_go tabOK 99 (by simp only [go_sem, hw]; try exact rfl) ?_ ?_
              · simp [hqU, refs, hlU]
                exact ⟨by intro row h; simp at h; subst h; rfl, by omega, fun x _ y hy => by rw [keptRow_refs hy]; simp⟩
              refine cw_back ⟨i + 1, by omega, by omega, le_sub ?_ ?_ ?_⟩
              · simp [go_sem, hwa, htC, htH, hq, idxI]
              · simp [go_sem, htU, hux, htC, hqU, hqD, keptRow, hd]
              · simp [go_sem]
          · exfalso; simp at h
        | some b =>
          rw [hwb] at hwa
          simp only at hwa
          have hbj := hwl b hwb
          have hgb : (l.map keptRow).getD b [] = keptRow (l.getD b default) := Fam.getD (by omega)
          have hneg : decide ((b : Int) < 0) = false := decide_eq_false (by omega)
          generalize l.getD b default = y at hgb hwa
          refine seg_runN tabOK 13 (by simp only [go_sem]; exact rfl) (by simp only [go_sem]; exact rfl) (by simp only [go_sem, hd, hf1, idxI, hneg]; try exact rfl) (by simp [go_sem, hd, hf1, idxI, hneg]) (by simp only [go_sem]; exact rfl) ?_
          try simp only [hd, hf1, hneg, Bool.not_false, cond_true, beq_self_eq_true, Bool.true_and, Bool.and_true]
          refine seg_runN tabOK 5 (by simp only [go_sem]; exact rfl) (by simp only [go_sem]; exact rfl) (by simp only [go_sem, hgb, keptRow]; try exact rfl) ?_ (by simp only [go_sem]; exact rfl) ?_
          · simp [hgb, keptRow]
            omega
          have hws := worse_ok x y
          unfold keptRow at hws
          rw [hd] at hws
          refine seg_callC rfl (by simp only [go_sem]; try exact rfl) (by simp only [go_sem]; try exact rfl) (by simp [go_sem]) ⟨_, Go.Proofs.Try.func50, by kernel_rfl, rfl⟩ (by simp [go_sem]) (fun hb => (hws)) (by simp [go_sem]) (by simp only [go_sem]; exact rfl) (by simp only [go_sem]; exact rfl) ?_
          refine seg_runN tabOK 2 (by simp only [go_sem]; exact rfl) (by simp only [go_sem]; exact rfl) (by simp only [go_sem]; try exact rfl) (by simp [go_sem]) (by simp only [go_sem]; exact rfl) ?_
          refine seg_end (by kernel_rfl) (by simp only [go_sem]; exact rfl) ?_
          refine draw_close (by kernel_rfl) ?_
          try simp only [go_sem, List.getElem_toArray, List.getElem_cons_succ, List.getElem_cons_zero]
          refine cw_cond (by simp only [go_sem]; try exact rfl) trivial (fun h => ?_) (fun h => ?_)
          · have hc : cmpK x y < 0 := by simpa using h
            rw [if_pos hc] at hwa
            refine cw_go tabOK 99 (by simp only [go_sem]; try exact rfl) (by simp [go_sem]) ?_
            refine cw_condT (by simp only [go_sem]; try exact rfl) trivial (by simp [hd]) ?_
            refine cw_go tabOK 99 (by simp only [go_sem]; try exact rfl) ?_ ?_
            · simp [hqD, refs]
              exact ⟨by intro row h; simp at h; subst h; rfl, by omega⟩
            by_cases hq : x.node.fid = fid
            · have hux : useF fid now x = { x with last := now } := by unfold useF; rw [if_pos hq]
              refine cw_condT (by simp only [go_sem]; try exact rfl) trivial (by simp [hq]) ?_
              refine cw_go tabOK 99 (by simp only [go_sem, hw]; try exact rfl) ?_ ?_
              · simp [hqU, refs, hlU]
                exact ⟨by intro row h; simp at h; subst h; rfl, by omega, fun x _ y hy => by rw [keptRow_refs hy]; simp⟩
              refine cw_back ⟨i + 1, by omega, by omega, le_sub ?_ ?_ ?_⟩
              · simp [go_sem, hwa, htC, htH, hq, idxI]
              · simp [go_sem, htU, hux, htC, hqU, hqD, keptRow, hd]
              · simp [go_sem]
            · have hux : useF fid now x = x := by unfold useF; rw [if_neg hq]
              refine cw_condF (by simp only [go_sem]; try exact rfl) trivial (by simp [hq]) ?_
              refine cw_go tabOK 99 (by simp only [go_sem, hw]; try exact rfl) ?_ ?_
              · simp [hqU, refs, hlU]
                exact ⟨by intro row h; simp at h; subst h; rfl, by omega, fun x _ y hy => by rw [keptRow_refs hy]; simp⟩
              refine cw_back ⟨i + 1, by omega, by omega, le_sub ?_ ?_ ?_⟩
              · simp [go_sem, hwa, htC, htH, hq, idxI]
              · simp [go_sem, htU, hux, htC, hqU, hqD, keptRow, hd]
              · simp [go_sem]
          · have hc : ¬ cmpK x y < 0 := by simpa using h
            rw [if_neg hc] at hwa
            refine cw_go tabOK 99 (by simp only [go_sem]; try exact rfl) (by simp [go_sem]) ?_
            refine cw_condT (by simp only [go_sem]; try exact rfl) trivial (by simp [hd]) ?_
            refine cw_go tabOK 99 (by simp only [go_sem]; try exact rfl) ?_ ?_
            · simp [hqD, refs]
              exact ⟨by intro row h; simp at h; subst h; rfl, by omega⟩
            by_cases hq : x.node.fid = fid
            · have hux : useF fid now x = { x with last := now } := by unfold useF; rw [if_pos hq]
              refine cw_condT (by simp only [go_sem]; try exact rfl) trivial (by simp [hq]) ?_
              refine cw_go tabOK 99 (by simp only [go_sem, hw]; try exact rfl) ?_ ?_
              · simp [hqU, refs, hlU]
                exact ⟨by intro row h; simp at h; subst h; rfl, by omega, fun x _ y hy => by rw [keptRow_refs hy]; simp⟩
              refine cw_back ⟨i + 1, by omega, by omega, le_sub ?_ ?_ ?_⟩
              · simp [go_sem, hwa, htC, htH, hq, idxI]
              · simp [go_sem, htU, hux, htC, hqU, hqD, keptRow, hd]
              · simp [go_sem]
            · have hux : useF fid now x = x := by unfold useF; rw [if_neg hq]
              refine cw_condF (by simp only [go_sem]; try exact rfl) trivial (by simp [hq]) ?_
              refine cw_go tabOK 99 (by simp only [go_sem, hw]; try exact rfl) ?_ ?_
              · simp [hqU, refs, hlU]
                exact ⟨by intro row h; simp at h; subst h; rfl, by omega, fun x _ y hy => by rw [keptRow_refs hy]; simp⟩
              refine cw_back ⟨i + 1, by omega, by omega, le_sub ?_ ?_ ?_⟩
              · simp [go_sem, hwa, htC, htH, hq, idxI]
              · simp [go_sem, htU, hux, htC, hqU, hqD, keptRow, hd]
              · simp [go_sem]
  have e : i = l.length := by simp at h; omega
  subst e
  have hL : l.take l.length = l := List.take_length
  have hUL : usedK l fid now l.length = l.map (useF fid now) := by unfold usedK; rw [hL]
  have hlU : (usedK l fid now l.length).length = l.length := by rw [hUL, List.length_map]
  have hwk : worstAt l l.length = worstK l := rfl
  rw [hL, hwk]
  have hse := use_ok l fid now hl
  rw [use_all hu, ← hUL] at hse
  have hsU : SmallK (usedK l fid now l.length) := by rw [hUL]; exact smallK_use hl fid now
  generalize usedK l fid now l.length = U at hse hsU hlU
  have hsC : SmallK (l.filter fun k => !k.dirty) := smallK_sub hl (fun x hx => (List.mem_filter.1 hx).1) (List.length_filter_le _ _)
  have hcl := clean_ok l hl
  generalize l.filter (fun k => !k.dirty) = D at hcl hsC
  have hqU : List.take l.length (U.map keptRow) = U.map keptRow := List.take_of_length_le (by simp [hlU])
  refine cw_freeze 127 rfl (keptRow_pure _) ?_
  simp only [go_sem, hqU, hlU, Nat.le_refl, ↓reduceIte]
  refine cw_freeze 116 rfl (keptRow_pure _) ?_
  simp only [go_sem]
  refine cw_go tabOK 99 (by simp only [go_sem]; try exact rfl) (by simp [go_sem]) ?_
  refine cw_call rfl rfl (by simp only [go_sem]; try exact rfl) (by simp [go_sem]) ⟨_, Go.Proofs.Try.func51, by kernel_rfl, rfl⟩ (by simp [go_sem]) (worst_ok l hlen) (by simp [go_sem]) (by simp only [go_sem]; exact rfl) ?_
  refine cw_go tabOK 99 (by simp only [go_sem, beq_self_eq_true]; try exact rfl) (by simp [go_sem, beq_self_eq_true]) ?_
  refine cw_callC rfl (by simp only [go_sem]; try exact rfl) (by simp only [go_sem]; try exact rfl) (by simp [go_sem]) ⟨_, Go.Proofs.Try.func52, by kernel_rfl, rfl⟩ (by simp [go_sem]) (fun hb => (has_ok l fid hlen)) (by simp [go_sem]) (by simp only [go_sem]; exact rfl) ?_
  refine cw_go tabOK 99 (by simp only [go_sem, beq_self_eq_true]; try exact rfl) (by simp [go_sem, beq_self_eq_true]) ?_
  refine cw_callC rfl (by simp only [go_sem]; try exact rfl) (by simp only [go_sem]; try exact rfl) (by simp [go_sem]) ⟨_, Go.Proofs.Try.func53, by kernel_rfl, rfl⟩ (by simp [go_sem]) (fun hb => (hse)) (by simp [go_sem]) (by simp only [go_sem]; exact rfl) ?_
  refine cw_go tabOK 99 (by simp only [go_sem]; try exact rfl) (by simp [go_sem]) ?_
  refine cw_callC rfl (by simp only [go_sem]; try exact rfl) (by simp only [go_sem]; try exact rfl) (by simp [go_sem]) ⟨_, Go.Proofs.Try.func44, by kernel_rfl, rfl⟩ (by simp [go_sem]) (fun hb => (sameKept_self U hsU)) (by simp [go_sem]) (by simp only [go_sem]; exact rfl) ?_
  refine cw_go tabOK 99 (by simp only [go_sem]; try exact rfl) (by simp [go_sem]) ?_
  refine cw_callC rfl (by simp only [go_sem]; try exact rfl) (by simp only [go_sem]; try exact rfl) (by simp [go_sem]) ⟨_, Go.Proofs.Try.func54, by kernel_rfl, rfl⟩ (by simp [go_sem]) (fun hb => (hcl)) (by simp [go_sem]) (by simp only [go_sem]; exact rfl) ?_
  refine cw_go tabOK 99 (by simp only [go_sem]; try exact rfl) (by simp [go_sem]) ?_
  refine cw_callC rfl (by simp only [go_sem]; try exact rfl) (by simp only [go_sem]; try exact rfl) (by simp [go_sem]) ⟨_, Go.Proofs.Try.func44, by kernel_rfl, rfl⟩ (by simp [go_sem]) (fun hb => (sameKept_self D hsC)) (by simp [go_sem]) (by simp only [go_sem]; exact rfl) ?_
  refine cw_go tabOK 99 (by simp only [go_sem]; try exact rfl) (by simp [go_sem]) ?_
  refine cw_ret ⟨_, _, (by simp only [go_sem]; try exact rfl), by simp [go_sem], _, .inr (.inl rfl), ?_⟩
  simp
end La
