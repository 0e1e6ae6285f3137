/- Texts of this claim, part 5: Cach, Cach2, Unl, PJud, PWhole, PWh2, RTree, PApply, PShort, PShort2, RWith, RName, RApply, PShort3, EngAM, EngAO. No condition. -/
import Derived.Test.YtldpfleilffanaaLS4
namespace La
open Go Go.Eng Go.Proofs
set_option maxRecDepth 10000
set_option linter.unusedSimpArgs false
set_option linter.unusedVariables false

structure SmallK (l : List Kept) : Prop where
  len : l.length ≤ 100000000
  each : ∀ k, k ∈ l → k.node.Small
theorem SmallK.one {k : Kept} (h : k.node.Small) : SmallK [k] := ⟨by simp, fun x hx => by rw [List.mem_singleton.1 hx]; exact h⟩
theorem nodeSmall_one {n : Node} (h : n.Small) : Small [n] := ⟨by simp, fun x hx => by rw [List.mem_singleton.1 hx]; exact h⟩

theorem kown_okH (l : List Kept) (hl : SmallK l) : FnOK Try.prog 45 [.sl (l.map keptRow)] [] (fun r H => r = .osl 22 8 0 (l.map keptRow).length ∧ ∀ i b, hget [(22, .cells 72 8 (l.map keptRow))] i = some b → hget H i = some b) := by
  have hlen := hl.len
  refine fn_of_cwW tabOK (Go.Proofs.Try.func45) rfl (fun C => ?_)
  simp only [Go.Proofs.Try.ntmps45, Go.Proofs.Try.results45, go_sem]
  refine cw_go tabOK 99 (by simp only [go_sem]; try exact rfl) (by simp [go_sem]) ?_
  refine cw_loopS (fun i : Nat => i ≤ l.length) (fun i => l.length - i) (fun i => [(3, .osl 22 8 0 i), (5, .any), (8, .int .i64 i), (9, .any), (10, .any), (11, .any), (12, .any), (13, .any), (14, .any), (15, .any), (16, .any), (17, .any), (18, .any), (19, .any), (20, .any), (21, .any), (22, .any), (23, .any), (24, .any)])
    (fun i => [(22, .cells 72 8 ((l.take i).map keptRow))]) 0 (by omega) ?_ fun i hi => ?_
  · simp only [go_sem]
    exact le_sub (by simp [go_sem]) (by simp [go_sem]) (by simp only [go_sem])
  simp only [go_sem]
  refine cw_go tabOK 99 (by simp only [go_sem]; try exact rfl) (by simp [go_sem]) ?_
  refine cw_cond (by simp only [go_sem]; try exact rfl) trivial (fun h => ?_) (fun h => ?_)
  · have hlt : i < l.length := by simp at h; omega
    have hn := hl.each _ (getD_mem hlt)
    have hg : (l.map keptRow).getD i [] = keptRow (l.getD i default) := Fam.getD hlt
    have hs := take_succ_map keptRow hlt
    generalize l.getD i default = n at hn hg hs
    refine cw_go tabOK 99 (by simp only [go_sem, hg, keptRow]; try exact rfl) ?_ ?_
    · simp [hlt, keptRow]
    refine cw_freeze 14 rfl (rfl) ?_
    simp only [go_sem]
    refine cw_call rfl rfl (by simp only [go_sem]; try exact rfl) (by simp [go_sem]) ⟨_, Go.Proofs.Try.func86, by kernel_rfl, rfl⟩ (by simp [go_sem]) (own_ok [n.node] (nodeSmall_one hn)) (by simp [go_sem]) (by simp only [go_sem]; exact rfl) ?_
    have ht : List.take i (List.map keptRow (List.take i l)) = List.map keptRow (List.take i l) := List.take_of_length_le (by simp; omega)
    have hw : IntKind.i64.wrap ((i : Int) + 1) = (i : Int) + 1 := wrap_small (by omega) (by omega)
    refine cw_go tabOK 99 (by simp only [go_sem, ht, hw, nodeRow]; try exact rfl) ?_ ?_
    · simp [rowsOf, nodeRow]; omega
    refine cw_back ⟨i + 1, by omega, by omega, le_sub ?_ ?_ ?_⟩
    · simp [go_sem]
    · simp [go_sem, hs, keptRow]
    · simp only [go_sem]
  · have e : i = l.length := by simp at h; omega
    subst e
    refine cw_go tabOK 99 (by simp only [go_sem]; try exact rfl) (by simp [go_sem]) ?_
    refine cw_ret ⟨_, _, (by simp only [go_sem]; try exact rfl), by simp [go_sem], _, .inr (.inl rfl), ?_⟩
    simp [go_sem]
theorem kown_ok (l : List Kept) (hl : SmallK l) : FnOK Try.prog 45 [.sl (l.map keptRow)] [] (fun r _ => r = .sl (l.map keptRow)) := FnOK.read (kown_okH l hl) (keptRow_pure _)

theorem kwhere1_ok (k : Kept) (fid : Int) : FnOK Try.prog 150 [.agg (keptRow k), .rp [.int .i64 fid] 0] [] (fun r _ => r = .bool (k.node.fid == fid)) := by
  unfold keptRow
  refine fn_of_cwW tabOK (Go.Proofs.Try.func150) rfl (fun C => ?_)
  simp only [Go.Proofs.Try.ntmps150, Go.Proofs.Try.results150, go_sem]
  refine cw_go tabOK 99 (by simp only [go_sem]; try exact rfl) (by simp [go_sem]) ?_
  refine cw_ret ⟨_, _, (by simp only [go_sem]; try exact rfl), by simp [go_sem], _, .inr (.inl rfl), ?_⟩
  simp
def kplace (l : List Kept) (fid : Int) : Option Nat := l.findIdx? fun k => k.node.fid == fid
theorem kwhere_ok (l : List Kept) (fid : Int) (hlen : l.length ≤ 100000000) : FnOK Try.prog 104 [.sl (l.map keptRow), .int .i64 fid] [] (fun r _ => r = .int .i64 (idxI (kplace l fid))) := by
  refine fn_of_cwW tabOK (Go.Proofs.Try.func104) rfl (fun C => ?_)
  simp only [Go.Proofs.Try.ntmps104, Go.Proofs.Try.results104, go_sem]
  refine cw_go tabOK 99 (by simp only [go_sem]; try exact rfl) (by simp [go_sem]) ?_
  refine cw_freeze 3 rfl (rfl) ?_
  simp only [go_sem]
  refine cw_call rfl rfl (by simp only [go_sem]; try exact rfl) (by simp [go_sem]) ⟨_, Go.Proofs.Try.func149, by kernel_rfl, rfl⟩ (by simp [go_sem]) (kept_indexFunc l hlen ⟨_, Go.Proofs.Try.func150, by kernel_rfl, rfl⟩ rfl (fun x _ => kwhere1_ok x fid)) (by simp [go_sem]) (by simp only [go_sem]; exact rfl) ?_
  refine cw_go tabOK 99 (by simp only [go_sem]; try exact rfl) (by simp [go_sem]) ?_
  refine cw_ret ⟨_, _, (by simp only [go_sem]; try exact rfl), by simp [go_sem], _, .inr (.inl rfl), ?_⟩
  simp [kplace]
def hasK (l : List Kept) (fid : Int) : Bool := l.any fun k => k.node.fid == fid
theorem has_ok (l : List Kept) (fid : Int) (hlen : l.length ≤ 100000000) : FnOK Try.prog 52 [.sl (l.map keptRow), .int .i64 fid] [] (fun r _ => r = .bool (hasK l fid)) := by
  refine fn_of_cwW tabOK (Go.Proofs.Try.func52) rfl (fun C => ?_)
  simp only [Go.Proofs.Try.ntmps52, Go.Proofs.Try.results52, go_sem]
  refine cw_go tabOK 99 (by simp only [go_sem]; try exact rfl) (by simp [go_sem]) ?_
  refine cw_call rfl rfl (by simp only [go_sem]; try exact rfl) (by simp [go_sem]) ⟨_, Go.Proofs.Try.func104, by kernel_rfl, rfl⟩ (by simp [go_sem]) (kwhere_ok l fid hlen) (by simp [go_sem]) (by simp only [go_sem]; exact rfl) ?_
  refine cw_go tabOK 99 (by simp only [go_sem]; try exact rfl) (by simp [go_sem]) ?_
  refine cw_ret ⟨_, _, (by simp only [go_sem]; try exact rfl), by simp [go_sem], _, .inr (.inl rfl), ?_⟩
  rw [kplace, idxI_any]; rfl

theorem clean1_ok (k : Kept) : FnOK Try.prog 112 [.agg (keptRow k)] [] (fun r _ => r = .bool k.dirty) := by
  unfold keptRow
  refine fn_of_cwW tabOK (Go.Proofs.Try.func112) rfl (fun C => ?_)
  simp only [Go.Proofs.Try.ntmps112, Go.Proofs.Try.results112, go_sem]
  refine cw_go tabOK 99 (by simp only [go_sem]; try exact rfl) (by simp [go_sem]) ?_
  refine cw_ret ⟨_, _, (by simp only [go_sem]; try exact rfl), by simp [go_sem], _, .inr (.inl rfl), ?_⟩
  simp
theorem clean_ok (l : List Kept) (hl : SmallK l) : FnOK Try.prog 54 [.sl (l.map keptRow)] [] (fun r _ => r = .sl ((l.filter fun k => !k.dirty).map keptRow)) := by
  refine fn_of_cwW tabOK (Go.Proofs.Try.func54) rfl (fun C => ?_)
  simp only [Go.Proofs.Try.ntmps54, Go.Proofs.Try.results54, go_sem]
  refine cw_go tabOK 99 (by simp only [go_sem]; try exact rfl) (by simp [go_sem]) ?_
  refine cw_callG [] 978 rfl rfl (by simp only [go_sem]; try exact rfl) (by simp [go_sem]) ⟨_, Go.Proofs.Try.func45, by kernel_rfl, rfl⟩ (by simp only [go_sem, Bool.false_or, Bool.or_true, Bool.true_or, if_true]; try exact rfl) (kown_okH l hl) (by simp [go_sem]) (by simp [go_sem]) (by simp [go_sem]) (by simp only [go_sem]) (by simp [go_sem]) (by simp only [go_sem, Bool.false_or, Bool.or_true, Bool.true_or, Bool.or_false, ↓reduceIte]; exact rfl) ?_
  refine cw_go tabOK 99 (by simp only [go_sem]; try exact rfl) (by simp [go_sem]) ?_
  refine cw_callG [1000] 100 rfl rfl (by simp only [go_sem]; try exact rfl) (by simp [go_sem]) ⟨_, Go.Proofs.Try.func109, by kernel_rfl, rfl⟩ (by simp only [go_sem, Bool.false_or, Bool.or_true, Bool.true_or, if_true]; try exact rfl) (kept_deleteFunc l hl.len 1000 ⟨_, Go.Proofs.Try.func112, by kernel_rfl, rfl⟩ rfl (by decide) (fun x _ => clean1_ok x)) (by simp [go_sem]) (by simp [go_sem]) (by simp [go_sem]) (by simp only [go_sem]) (by simp [go_sem]) (by simp only [go_sem, Bool.false_or, Bool.or_true, Bool.true_or, Bool.or_false, ↓reduceIte]; exact rfl) ?_
  refine cw_go tabOK 99 (by simp only [go_sem]; try exact rfl) (by simp [go_sem]) ?_
  refine cw_freeze 1100 rfl (by rw [List.all_append, keptRow_pure, Bool.true_and]; exact rep_pure _ rfl) ?_
  simp only [go_sem]
  refine cw_ret ⟨_, _, (by simp only [go_sem]; try exact rfl), by simp [go_sem], _, .inr (.inl rfl), ?_⟩
  have hle := List.length_filter_le (fun k : Kept => !k.dirty) l
  generalize l.filter (fun k => !k.dirty) = d at *
  rw [if_pos (by simp), take_app (by simp)]
end La

namespace La
open Go Go.Eng Go.Proofs
set_option maxRecDepth 10000
set_option linter.unusedSimpArgs false
set_option linter.unusedVariables false

theorem kplace_lt {l : List Kept} {fid : Int} {i : Nat} (h : kplace l fid = some i) : i < l.length := (List.findIdx?_eq_some_iff_getElem.1 h).1
def useK (l : List Kept) (fid now : Int) : List Kept := match kplace l fid with
  | none => l
  | some i => l.set i { l.getD i default with last := now }
theorem keptRow_at {M : List Kept} {i : Nat} (h : i < M.length) : (M.map keptRow).getD i [] = [.int .i64 (M.getD i default).node.fid, .bool (M.getD i default).node.dir, .sl ((M.getD i default).node.data.map byteRow), .sl ((M.getD i default).node.entries.map entryRow), .int .i64 (M.getD i default).node.version, .bool (M.getD i default).dirty, .int .i64 (M.getD i default).worth, .int .i64 (M.getD i default).last] := by
  rw [Fam.getD h]; rfl
theorem keptRow_set (M : List Kept) (i : Nat) (n : Kept) : (M.map keptRow).set i (keptRow n) = (M.set i n).map keptRow := by rw [List.map_set]

theorem use_ok (l : List Kept) (fid now : Int) (hl : SmallK l) : FnOK Try.prog 53 [.sl (l.map keptRow), .int .i64 fid, .int .i64 now] [] (fun r _ => r = .sl ((useK l fid now).map keptRow)) := by
  refine fn_of_cwW tabOK (Go.Proofs.Try.func53) rfl (fun C => ?_)
  simp only [Go.Proofs.Try.ntmps53, Go.Proofs.Try.results53, go_sem]
  refine cw_go tabOK 99 (by simp only [go_sem]; try exact rfl) (by simp [go_sem]) ?_
  refine cw_callG [] 978 rfl rfl (by simp only [go_sem]; try exact rfl) (by simp [go_sem]) ⟨_, Go.Proofs.Try.func45, by kernel_rfl, rfl⟩ (by simp only [go_sem, Bool.false_or, Bool.or_true, Bool.true_or, if_true]; try exact rfl) (kown_okH l hl) (by simp [go_sem]) (by simp [go_sem]) (by simp [go_sem]) (by simp only [go_sem]) (by simp [go_sem]) (by simp only [go_sem, Bool.false_or, Bool.or_true, Bool.true_or, Bool.or_false, ↓reduceIte]; exact rfl) ?_
  refine cw_go tabOK 99 (by simp only [go_sem]; try exact rfl) (by simp [go_sem]) ?_
  refine cw_view rfl rfl (by simp only [go_sem]; try exact rfl) (by simp [go_sem]) (by simp only [go_sem]; try exact rfl) (by simp [go_sem]) ⟨_, Go.Proofs.Try.func104, by kernel_rfl, rfl⟩ (kwhere_ok l fid hl.len) (by simp [go_sem]) (by simp only [go_sem]; exact rfl) ?_
  unfold useK
  cases e : kplace l fid with
  | none =>
    simp only [idxI]
    refine cw_go tabOK 99 (by simp only [go_sem]; try exact rfl) (by simp [go_sem]) ?_
    refine cw_cond (by simp only [go_sem]; try exact rfl) trivial (fun h => ?_) (fun h => ?_)
    · cases h
    refine cw_go tabOK 99 (by simp only [go_sem]; try exact rfl) (by simp [go_sem]) ?_
    refine cw_freeze 1000 rfl (keptRow_pure _) ?_
    simp only [go_sem]
    refine cw_ret ⟨_, _, (by simp only [go_sem]; try exact rfl), by simp [go_sem], _, .inr (.inl rfl), ?_⟩
    simp
  | some i =>
    have hi := kplace_lt e
    have hlen := hl.len
    have hg := keptRow_at hi
    have hs := keptRow_set l i { l.getD i default with last := now }
    simp only [keptRow] at hs
    simp only [idxI]
    refine cw_go tabOK 99 (by simp only [go_sem]; try exact rfl) (by simp [go_sem]) ?_
    refine cw_cond (by simp only [go_sem]; try exact rfl) trivial (fun h => ?_) (fun h => ?_)
    · refine cw_go tabOK 99 (by simp only [go_sem, hg, hs]; try exact rfl) ?_ ?_
      · simp [hg]; omega
      refine cw_freeze 1000 rfl (keptRow_pure _) ?_
      simp only [go_sem]
      refine cw_ret ⟨_, _, (by simp only [go_sem]; try exact rfl), by simp [go_sem], _, .inr (.inl rfl), ?_⟩
      rw [← hs, List.take_of_length_le (by simp)]
      simp
    · simp at h

def staleK (at_ : List Node) (k : Kept) : Bool := !k.dirty && (!isAt at_ k.node.fid || !(((findN at_ k.node.fid).getD zeroN).version == k.node.version))
theorem fresh1_ok (at_ : List Node) (k : Kept) (hat : Small at_) : FnOK Try.prog 110 [.agg (keptRow k), .rp [.sl (at_.map nodeRow)] 0] [] (fun r _ => r = .bool (staleK at_ k)) := by
  unfold keptRow
  refine fn_of_cwW tabOK (Go.Proofs.Try.func110) rfl (fun C => ?_)
  simp only [Go.Proofs.Try.ntmps110, Go.Proofs.Try.results110, go_sem]
  refine cw_go tabOK 99 (by simp only [go_sem]; try exact rfl) (by simp [go_sem]) ?_
  refine cw_call rfl rfl (by simp only [go_sem]; try exact rfl) (by simp [go_sem]) ⟨_, Go.Proofs.Try.func33, by kernel_rfl, rfl⟩ (by simp [go_sem]) (find_ok at_ k.node.fid hat) (by simp [go_sem]) (by simp only [go_sem]; exact rfl) ?_
  simp only [go_sem, findR]
  unfold staleK
  generalize (findN at_ k.node.fid).getD zeroN = n
  generalize isAt at_ k.node.fid = b
  refine cw_go tabOK 99 (by simp only [go_sem, nodeRow]; try exact rfl) ?_ ?_
  · simp [nodeRow]
    exact fun h => ⟨h, fun hb => ⟨h, hb⟩⟩
  refine cw_ret ⟨_, _, (by simp only [go_sem]; try exact rfl), by simp [go_sem], _, .inr (.inl rfl), ?_⟩
  cases k.dirty <;> cases b <;> rfl
theorem fresh_ok (l : List Kept) (at_ : List Node) (hl : SmallK l) (hat : Small at_) : FnOK Try.prog 48 [.sl (l.map keptRow), .sl (at_.map nodeRow)] [] (fun r _ => r = .sl ((l.filter fun k => !staleK at_ k).map keptRow)) := by
  refine fn_of_cwW tabOK (Go.Proofs.Try.func48) rfl (fun C => ?_)
  simp only [Go.Proofs.Try.ntmps48, Go.Proofs.Try.results48, go_sem]
  refine cw_go tabOK 99 (by simp only [go_sem]; try exact rfl) (by simp [go_sem]) ?_
  refine cw_freeze 3 rfl (rfl) ?_
  simp only [go_sem]
  refine cw_callG [] 978 rfl rfl (by simp only [go_sem]; try exact rfl) (by simp [go_sem]) ⟨_, Go.Proofs.Try.func45, by kernel_rfl, rfl⟩ (by simp only [go_sem, Bool.false_or, Bool.or_true, Bool.true_or, if_true]; try exact rfl) (kown_okH l hl) (by simp [go_sem]) (by simp [go_sem]) (by simp [go_sem]) (by simp only [go_sem]) (by simp [go_sem]) (by simp only [go_sem, Bool.false_or, Bool.or_true, Bool.true_or, Bool.or_false, ↓reduceIte]; exact rfl) ?_
  refine cw_go tabOK 99 (by simp only [go_sem]; try exact rfl) (by simp [go_sem]) ?_
  refine cw_callG [1000] 100 rfl rfl (by simp only [go_sem]; try exact rfl) (by simp [go_sem]) ⟨_, Go.Proofs.Try.func109, by kernel_rfl, rfl⟩ (by simp only [go_sem, Bool.false_or, Bool.or_true, Bool.true_or, if_true]; try exact rfl) (kept_deleteFunc l hl.len 1000 ⟨_, Go.Proofs.Try.func110, by kernel_rfl, rfl⟩ (by simp [AV.pureB]) (by decide) (fun x _ => fresh1_ok at_ x hat)) (by simp [go_sem]) (by simp [go_sem]) (by simp [go_sem]) (by simp only [go_sem]) (by simp [go_sem]) (by simp only [go_sem, Bool.false_or, Bool.or_true, Bool.true_or, Bool.or_false, ↓reduceIte]; exact rfl) ?_
  refine cw_go tabOK 99 (by simp only [go_sem]; try exact rfl) (by simp [go_sem]) ?_
  refine cw_freeze 1100 rfl (by rw [List.all_append, keptRow_pure, Bool.true_and]; exact rep_pure _ rfl) ?_
  simp only [go_sem]
  refine cw_ret ⟨_, _, (by simp only [go_sem]; try exact rfl), by simp [go_sem], _, .inr (.inl rfl), ?_⟩
  have hle := List.length_filter_le (fun k : Kept => !staleK at_ k) l
  generalize l.filter (fun k => !staleK at_ k) = d at *
  rw [if_pos (by simp), take_app (by simp)]
end La

namespace La
open Go Go.Eng Go.Proofs
set_option maxRecDepth 10000
set_option linter.unusedSimpArgs false
set_option linter.unusedVariables false

/-- a map, by what was put into it, one behind the other -/
def mapUpto (f : Nat → Int) (g : Nat → AV) : Nat → List (Int × AV)
  | 0 => []
  | i + 1 => mput (mapUpto f g i) (f i) (g i)
theorem mapUpto_rise (f : Nat → Int) (g : Nat → AV) : ∀ i, (mapUpto f g i).Pairwise fun a b => a.1 < b.1
  | 0 => List.Pairwise.nil
  | i + 1 => mput_rise (mapUpto_rise f g i)
theorem mapUpto_none {f : Nat → Int} {g : Nat → AV} {k : Int} : ∀ {i}, (∀ j, j < i → f j ≠ k) → mget (mapUpto f g i) k = none
  | 0, _ => rfl
  | i + 1, h => by
    rw [mapUpto, mget_mput (mapUpto_rise f g i), if_neg (fun e => h i (by omega) e.symm)]
    exact mapUpto_none fun j hj => h j (by omega)
theorem mapUpto_some {f : Nat → Int} {g : Nat → AV} {k : Int} : ∀ {i j}, j < i → f j = k → (∀ m, j < m → m < i → f m ≠ k) → mget (mapUpto f g i) k = some (g j)
  | 0, _, h, _, _ => by omega
  | i + 1, j, h, he, hl => by
    rw [mapUpto, mget_mput (mapUpto_rise f g i)]
    by_cases hj : j = i
    · subst hj; rw [if_pos he.symm]
    · rw [if_neg (fun e => hl i (by omega) (by omega) e.symm)]
      exact mapUpto_some (by omega) he fun m h1 h2 => hl m h1 (by omega)

def fidK (l : List Kept) (i : Nat) : Int := (l.getD i default).node.fid
/-- no two of one fid, as far as 'n' -/
def UnlikeN (l : List Kept) (n : Nat) : Prop := ∀ i, i < n → ∀ j, j < i → fidK l j ≠ fidK l i
instance (l : List Kept) (n : Nat) : Decidable (UnlikeN l n) := by unfold UnlikeN; infer_instance
def unlikeB (l : List Kept) : Bool := decide (UnlikeN l l.length)

theorem unlike_ok (l : List Kept) (hlen : l.length ≤ 100000000) : FnOK Try.prog 41 [.sl (l.map keptRow)] [] (fun r _ => r = .bool (unlikeB l)) := by
  refine fn_of_cwW tabOK (Go.Proofs.Try.func41) rfl (fun C => ?_)
  simp only [Go.Proofs.Try.ntmps41, Go.Proofs.Try.results41, go_sem]
  refine cw_go tabOK 99 (by simp only [go_sem]; try exact rfl) (by simp [go_sem]) ?_
  refine cw_loopS (fun i : Nat => i ≤ l.length ∧ UnlikeN l i) (fun i => l.length - i) (fun i => [(3, .mp 6), (5, .any), (9, .int .i64 i), (10, .any), (11, .any), (12, .any), (13, .any), (14, .any), (15, .any), (16, .any), (17, .any), (18, .any), (19, .any), (20, .any), (21, .any), (22, .any)])
    (fun i => [(6, .map (mapUpto (fidK l) (fun _ => .bool true) i))]) 0 ⟨by omega, fun i h => by omega⟩ ?_ fun i hi => ?_
  · simp only [go_sem]
    exact le_sub (by simp [go_sem]) (by simp [go_sem, mapUpto]) (by simp only [go_sem])
  obtain ⟨hi, hu⟩ := hi
  simp only [go_sem]
  refine cw_go tabOK 99 (by simp only [go_sem]; try exact rfl) (by simp [go_sem]) ?_
  refine cw_cond (by simp only [go_sem]; try exact rfl) trivial (fun h => ?_) (fun h => ?_)
  · have hlt : i < l.length := by simp at h; omega
    have hg : (l.map keptRow).getD i [] = keptRow (l.getD i default) := Fam.getD hlt
    have hf : fidK l i = (l.getD i default).node.fid := rfl
    have hw : IntKind.i64.wrap ((i : Int) + 1) = ((i + 1 : Nat) : Int) := by rw [Eng.wrap_small (by omega) (by omega)]; rfl
    have hput : mapUpto (fidK l) (fun _ => AV.bool true) (i + 1) = mput (mapUpto (fidK l) (fun _ => AV.bool true) i) (l.getD i default).node.fid (.bool true) := rfl
    by_cases hin : ∃ j, j < i ∧ fidK l j = fidK l i
    · obtain ⟨j, hj, he⟩ := hin
      have hget : mget (mapUpto (fidK l) (fun _ => AV.bool true) i) (l.getD i default).node.fid = some (.bool true) := mapUpto_some hj he fun m h1 h2 h3 => hu m h2 j h1 (he.trans h3.symm)
      have hno : unlikeB l = false := decide_eq_false fun hall => hall i hlt j hj he
      generalize l.getD i default = n at *
      refine cw_go tabOK 99 (by simp only [go_sem, hg, keptRow, hget]; try exact rfl) ?_ ?_
      · simp [hg, keptRow, hlt]
      refine cw_condT (by simp only [go_sem]; try exact rfl) trivial (by simp [hget]) ?_
      refine cw_go tabOK 99 (by simp only [go_sem]; try exact rfl) (by simp [go_sem]) ?_
      refine cw_ret ⟨_, _, (by simp only [go_sem]; try exact rfl), by simp [go_sem], _, .inr (.inl rfl), ?_⟩
      rw [hno]
    · have hget : mget (mapUpto (fidK l) (fun _ => AV.bool true) i) (l.getD i default).node.fid = none := mapUpto_none fun j hj he => hin ⟨j, hj, he⟩
      have hu' : UnlikeN l (i + 1) := fun a ha b hb => by
        by_cases hai : a = i
        · subst hai; exact fun e => hin ⟨b, hb, e⟩
        · exact hu a (by omega) b hb
      generalize l.getD i default = n at *
      refine cw_go tabOK 99 (by simp only [go_sem, hg, keptRow, hget]; try exact rfl) ?_ ?_
      · simp [hg, keptRow, hlt]
      refine cw_condF (by simp only [go_sem]; try exact rfl) trivial (by simp [hget]) ?_
      refine cw_go tabOK 99 (by simp only [go_sem, hw]; try exact rfl) ?_ ?_
      · simp [AV.deepB, AV.pureB]
      refine cw_back ⟨i + 1, ⟨by omega, hu'⟩, by omega, le_sub ?_ ?_ ?_⟩
      · simp [go_sem]
      · simp [go_sem, hput]
      · simp only [go_sem]
  · have e : i = l.length := by simp at h; omega
    subst e
    refine cw_go tabOK 99 (by simp only [go_sem]; try exact rfl) (by simp [go_sem]) ?_
    refine cw_ret ⟨_, _, (by simp only [go_sem]; try exact rfl), by simp [go_sem], _, .inr (.inl rfl), ?_⟩
    unfold unlikeB
    rw [decide_eq_true hu]

def fidN (l : List Node) (i : Nat) : Int := (l.getD i default).fid
def mapUN (l : List Node) (i : Nat) : List (Int × AV) := mapUpto (fidN l) (fun i => .agg (nodeRow (l.getD i default))) i
def mapN (l : List Node) : List (Int × AV) := mapUN l l.length
theorem of_ok (l : List Node) (hlen : l.length ≤ 100000000) : FnOK Try.prog 26 [.sl (l.map nodeRow)] [] (fun r H => r = .mp 6 ∧ ∀ i b, hget [(6, .map (mapN l))] i = some b → hget H i = some b) := by
  refine fn_of_cwW tabOK (Go.Proofs.Try.func26) rfl (fun C => ?_)
  simp only [Go.Proofs.Try.ntmps26, Go.Proofs.Try.results26, go_sem]
  refine cw_go tabOK 99 (by simp only [go_sem]; try exact rfl) (by simp [go_sem]) ?_
  refine cw_loopS (fun i : Nat => i ≤ l.length) (fun i => l.length - i) (fun i => [(3, .mp 6), (5, .any), (9, .int .i64 i), (10, .any), (11, .any), (12, .any), (13, .any), (14, .any), (15, .any), (16, .any), (17, .any)])
    (fun i => [(6, .map (mapUN l i))]) 0 (by omega) ?_ fun i hi => ?_
  · simp only [go_sem]
    exact le_sub (by simp [go_sem]) (by simp [go_sem, mapUN, mapUpto]) (by simp only [go_sem])
  simp only [go_sem]
  refine cw_go tabOK 99 (by simp only [go_sem]; try exact rfl) (by simp [go_sem]) ?_
  refine cw_cond (by simp only [go_sem]; try exact rfl) trivial (fun h => ?_) (fun h => ?_)
  · have hlt : i < l.length := by simp at h; omega
    have hg : (l.map nodeRow).getD i [] = nodeRow (l.getD i default) := Fam.getD hlt
    have hw : IntKind.i64.wrap ((i : Int) + 1) = ((i + 1 : Nat) : Int) := by rw [Eng.wrap_small (by omega) (by omega)]; rfl
    have hput : mapUN l (i + 1) = mput (mapUN l i) (l.getD i default).fid (.agg (nodeRow (l.getD i default))) := rfl
    generalize l.getD i default = n at *
    refine cw_go tabOK 99 (by simp only [go_sem, hg, nodeRow, hw]; try exact rfl) ?_ ?_
    · simp [hg, nodeRow, hlt, AV.deepB, AV.pureB]
    refine cw_back ⟨i + 1, by omega, by omega, le_sub ?_ ?_ ?_⟩
    · simp [go_sem]
    · simp [go_sem, hput, nodeRow]
    · simp only [go_sem]
  · have e : i = l.length := by simp at h; omega
    subst e
    refine cw_go tabOK 99 (by simp only [go_sem]; try exact rfl) (by simp [go_sem]) ?_
    refine cw_ret ⟨_, _, (by simp only [go_sem]; try exact rfl), by simp [go_sem], _, .inr (.inl rfl), ?_⟩
    exact ⟨rfl, fun i b hb => hb⟩

theorem mapN_get {l : List Node} (h : Up l) (k : Int) : mget (mapN l) k = (findN l k).map fun n => .agg (nodeRow n) := by
  unfold mapN mapUN
  cases e : findN l k with
  | none =>
    have hn := (findN_none h).1 e
    exact mapUpto_none fun j hj => hn _ (getD_mem hj)
  | some n =>
    obtain ⟨hm, hf⟩ := (findN_some h).1 e
    obtain ⟨j, hj⟩ := List.getElem?_of_mem hm
    have hjl : j < l.length := (List.getElem?_eq_some_iff.1 hj).1
    have hjd := getD_of hj
    rw [mapUpto_some (j := j) hjl (by unfold fidN; rw [hjd]; exact hf) fun m h1 h2 h3 => by
      have := h.lt h1 h2
      unfold fidN at h3
      rw [hjd, hf, h3] at this
      omega]
    simp only [Option.map_some, hjd]
end La

namespace La
open Go Go.Eng Go.Proofs

structure JS where
  l : List Node
  next : Int
  version : Int
  own : List (Int × Int)
  ours : List (Int × Bool)
  lost : List (Int × Bool)

def atF (m : List (Int × Int)) (f : Int) : Int := if hasI m f = true then getI m f else f
def restsB (j : JS) (a : Act) : Bool := (fids a).any (getB j.lost)
def staleB (j : JS) (r : Rec) (a : Act) : Bool :=
  if ((a.kind ≠ 3 ∧ a.kind ≠ 4) ∨ r.version < 0) ∨ getB j.ours a.fid = true then false
  else match findN j.l a.fid with
    | none => true
    | some n => n.version != r.version
/-- the log's own fids, with that of a record that makes something -/
def own1 (j : JS) (r : Rec) : List (Int × Int) := if madeB r.act = true then mput j.own r.act.fid j.next else j.own
/-- the act as it is here -/
def actJ (j : JS) (r : Rec) : Act := { r.act with fid := atF (own1 j r) r.act.fid, dir := atF (own1 j r) r.act.dir, to := if r.act.kind = 5 then atF (own1 j r) r.act.to else r.act.to }
noncomputable def oneE (j : JS) (r : Rec) : Int :=
  if restsB j r.act = true then 14
  else if madeB r.act = true ∧ (hasI j.own r.act.fid = true ∨ r.act.fid ≥ 0) then 2
  else if staleB { j with own := own1 j r } r (actJ j r) = true then 13
  else applyE j.l (actJ j r)
noncomputable def oneJ (j : JS) (r : Rec) : JS :=
  if restsB j r.act = true then j
  else if madeB r.act = true ∧ (hasI j.own r.act.fid = true ∨ r.act.fid ≥ 0) then j
  else if staleB { j with own := own1 j r } r (actJ j r) = true then { j with own := own1 j r }
  else if applyE j.l (actJ j r) ≠ 0 then { j with own := if madeB r.act = true then mdel (own1 j r) r.act.fid else own1 j r }
  else { j with l := applyL j.l (actJ j r) j.version, next := if madeB r.act = true then j.next + 1 else j.next, version := j.version + 1, own := own1 j r }
def oneA (j : JS) (r : Rec) : Act :=
  if restsB j r.act = true then r.act
  else if madeB r.act = true ∧ (hasI j.own r.act.fid = true ∨ r.act.fid ≥ 0) then r.act
  else actJ j r
noncomputable def oneV (j : JS) (r : Rec) : Verdict := ⟨oneE j r, if oneE j r = 0 then (actJ j r).fid else 0⟩

/-- where Judge is: what judges, the verdicts, the acts that were done -/
structure JG where
  j : JS
  vs : List Verdict
  done : List Act
def lose (j : JS) (f : Int) : JS := { j with lost := mput j.lost f true }
def oursP (m : List (Int × Bool)) (l : List Int) : List (Int × Bool) := l.foldl (fun m f => mput m f true) m
noncomputable def stepJ (s : JG) (r : Rec) : JG :=
  if oneE s.j r = 0 then ⟨{ oneJ s.j r with ours := oursP (oneJ s.j r).ours (fids (oneA s.j r)) }, s.vs ++ [oneV s.j r], s.done ++ [oneA s.j r]⟩
  else ⟨lose (oneJ s.j r) r.act.fid, s.vs ++ [oneV s.j r], s.done⟩
def startJ (l : List Node) (next version : Int) : JG := ⟨⟨l, next, version, [], [], []⟩, [], []⟩
noncomputable def judgeJ (l : List Node) (next version : Int) (log : List Rec) : JG := log.foldl stepJ (startJ l next version)
/-- a server behind a log -/
noncomputable def takeS (s : Srv) (c : Int) (log : List Rec) : Srv :=
  ⟨(judgeJ s.tree s.next ((s.past.length + 1 : Nat) : Int) log).j.l, (judgeJ s.tree s.next ((s.past.length + 1 : Nat) : Int) log).j.next, s.past ++ (judgeJ s.tree s.next ((s.past.length + 1 : Nat) : Int) log).done.map fun a => ⟨c, a⟩⟩

/-! ### What was done is what is there -/
inductive Hist : List Past → List Node → Prop
  | nil : Hist [] [rootN]
  | snoc {p : List Past} {t : List Node} (c : Int) (a : Act) (h : Hist p t) (ha : ActFit a) (he : applyE t a = 0) : Hist (p ++ [⟨c, a⟩]) (applyL t a ((p.length + 1 : Nat) : Int))
theorem Hist.good {p : List Past} {t : List Node} (h : Hist p t) : Good t := by
  induction h with
  | nil => exact good_root
  | snoc c a h ha he ih => exact good_apply ih _ _ he
theorem Hist.st {p : List Past} {t : List Node} (h : Hist p t) : ∃ st : Nat → List Node, st 0 = [rootN] ∧ st p.length = t ∧
    ∀ i, i < p.length → Good (st i) ∧ ActFit (p.getD i default).act ∧ applyE (st i) (p.getD i default).act = 0 ∧ st (i + 1) = applyL (st i) (p.getD i default).act ((i + 1 : Nat) : Int) := by
  induction h with
  | nil => exact ⟨fun _ => [rootN], rfl, rfl, fun i hi => by simp at hi⟩
  | @snoc p t c a h ha he ih =>
    obtain ⟨st, h0, h1, h2⟩ := ih
    refine ⟨fun i => if i ≤ p.length then st i else applyL t a ((p.length + 1 : Nat) : Int), ?_, ?_, fun i hi => ?_⟩
    · simp [h0]
    · show (if (p ++ [(⟨c, a⟩ : Past)]).length ≤ p.length then _ else _) = _
      rw [if_neg (by simp)]
    · have hl : (p ++ [(⟨c, a⟩ : Past)]).length = p.length + 1 := by simp
      rw [hl] at hi
      by_cases e : i < p.length
      · have hg : (p ++ [(⟨c, a⟩ : Past)]).getD i default = p.getD i default := by
          rw [List.getD_eq_getElem?_getD, List.getElem?_append_left e, List.getD_eq_getElem?_getD]
        rw [hg]
        simp only [show i ≤ p.length by omega, if_true, show i + 1 ≤ p.length by omega]
        exact h2 i e
      · have e2 : i = p.length := by omega
        subst e2
        have hg : (p ++ [(⟨c, a⟩ : Past)]).getD p.length default = ⟨c, a⟩ := by
          rw [List.getD_eq_getElem?_getD, List.getElem?_append_right (Nat.le_refl _)]; simp
        rw [hg]
        simp only [Nat.le_refl, if_true, show ¬ p.length + 1 ≤ p.length by omega, if_false, h1]
        exact ⟨h.good, ha, he, trivial⟩

/-- small names and bytes -/
theorem actJ_fit {j : JS} {r : Rec} (h : ActFit r.act) : ActFit (actJ j r) := ⟨h.name, h.toName, h.data⟩
structure JInv (p : List Past) (c : Int) (k : Nat) (n0 : Int) (s : JG) : Prop where
  hist : Hist (p ++ s.done.map fun a => ⟨c, a⟩) s.j.l
  version : s.j.version = ((p.length + s.done.length + 1 : Nat) : Int)
  len : s.done.length ≤ k
  vlen : s.vs.length = k
  next : n0 ≤ s.j.next ∧ s.j.next ≤ n0 + k

theorem JInv.step {p : List Past} {c : Int} {k : Nat} {n0 : Int} {s : JG} (h : JInv p c k n0 s) {r : Rec} (hr : ActFit r.act) : JInv p c (k + 1) n0 (stepJ s r) := by
  unfold stepJ
  have h1 := h.next
  have h2 := h.len
  have h3 := h.vlen
  by_cases he : oneE s.j r = 0
  · rw [if_pos he]
    unfold oneE at he
    split at he
    · omega
    · rename_i c1
      split at he
      · omega
      · rename_i c2
        split at he
        · omega
        · rename_i c3
          have hJ : oneJ s.j r = { s.j with l := applyL s.j.l (actJ s.j r) s.j.version, next := if madeB r.act = true then s.j.next + 1 else s.j.next, version := s.j.version + 1, own := own1 s.j r } := by
            unfold oneJ; rw [if_neg c1, if_neg c2, if_neg c3, if_neg (by simp [he])]
          have hA : oneA s.j r = actJ s.j r := by unfold oneA; rw [if_neg c1, if_neg c2]
          rw [hJ, hA]
          refine ⟨?_, ?_, ?_, ?_, ?_⟩
          · have := Hist.snoc c (actJ s.j r) h.hist (actJ_fit hr) he
            rw [List.length_append, List.length_map, ← h.version] at this
            simpa using this
          · have := h.version
            simp only [List.length_append, List.length_cons, List.length_nil]
            omega
          · simp only [List.length_append, List.length_cons, List.length_nil]; omega
          · simp only [List.length_append, List.length_cons, List.length_nil]; omega
          · simp only
            split <;> omega
  · rw [if_neg he]
    have hJ : (oneJ s.j r).l = s.j.l ∧ (oneJ s.j r).next = s.j.next ∧ (oneJ s.j r).version = s.j.version := by
      unfold oneJ
      unfold oneE at he
      split
      · exact ⟨rfl, rfl, rfl⟩
      · rename_i c1
        rw [if_neg c1] at he
        split
        · exact ⟨rfl, rfl, rfl⟩
        · rename_i c2
          rw [if_neg c2] at he
          split
          · exact ⟨rfl, rfl, rfl⟩
          · rename_i c3
            rw [if_neg c3] at he
            rw [if_pos he]
            exact ⟨rfl, rfl, rfl⟩
    obtain ⟨j1, j2, j3⟩ := hJ
    refine ⟨?_, ?_, ?_, ?_, ?_⟩
    · show Hist _ (oneJ s.j r).l
      rw [j1]; exact h.hist
    · show (oneJ s.j r).version = _
      rw [j3]; exact h.version
    · show s.done.length ≤ k + 1; omega
    · simp only [List.length_append, List.length_cons, List.length_nil]; omega
    · show n0 ≤ (oneJ s.j r).next ∧ (oneJ s.j r).next ≤ n0 + ((k + 1 : Nat) : Int)
      rw [j2]; omega
theorem JInv.start {p : List Past} {t : List Node} (h : Hist p t) (c n0 : Int) : JInv p c 0 n0 (startJ t n0 ((p.length + 1 : Nat) : Int)) :=
  ⟨by simpa [startJ] using h, by simp [startJ], by simp [startJ], by simp [startJ], by simp [startJ]⟩
theorem JInv.judge {p : List Past} {t : List Node} (h : Hist p t) (c n0 : Int) (log : List Rec) (hl : ∀ r, r ∈ log → ActFit r.act) : JInv p c log.length n0 (judgeJ t n0 ((p.length + 1 : Nat) : Int) log) := by
  have key : ∀ (l : List Rec) (k : Nat) (s : JG), (∀ r, r ∈ l → ActFit r.act) → JInv p c k n0 s → JInv p c (k + l.length) n0 (l.foldl stepJ s) := fun l => by
    induction l with
    | nil => exact fun k s _ h => h
    | cons r l ih =>
      intro k s hl h
      have := ih (k + 1) (stepJ s r) (fun x hx => hl x (List.mem_cons_of_mem _ hx)) (h.step (hl r List.mem_cons_self))
      rw [List.foldl_cons, List.length_cons, show k + (l.length + 1) = k + 1 + l.length by omega]
      exact this
  have := key log 0 _ hl (JInv.start h c n0)
  rwa [Nat.zero_add] at this
/-- a server that came of steps -/
structure SrvOK (k : Nat) (s : Srv) : Prop where
  hist : Hist s.past s.tree
  len : s.past.length ≤ k
  next : 1 ≤ s.next ∧ s.next ≤ 1 + k
theorem SrvOK.new : SrvOK 0 ⟨[rootN], 1, []⟩ := ⟨.nil, by simp, by simp⟩
theorem SrvOK.mono {k m : Nat} {s : Srv} (h : SrvOK k s) (hk : k ≤ m) : SrvOK m s := ⟨h.hist, by have := h.len; omega, by have := h.next; omega⟩
theorem SrvOK.step {k : Nat} {s : Srv} (h : SrvOK k s) (c : Int) {a : Act} (ha : ActFit a) (he : doE s a = 0) : SrvOK (k + 1) (doS s c a) := by
  have h1 := h.len
  have h2 := h.next
  have hf : ActFit (doA s a) := by unfold doA; split; exact ⟨ha.name, ha.toName, ha.data⟩; exact ha
  refine ⟨Hist.snoc c _ h.hist hf he, by simp [doS]; omega, ?_⟩
  show 1 ≤ (if madeB a = true then s.next + 1 else s.next) ∧ (if madeB a = true then s.next + 1 else s.next) ≤ 1 + ((k + 1 : Nat) : Int)
  split <;> omega
theorem SrvOK.take {k : Nat} {s : Srv} (h : SrvOK k s) (c : Int) {log : List Rec} (hl : ∀ r, r ∈ log → ActFit r.act) : SrvOK (k + log.length) (takeS s c log) := by
  have h1 := h.len
  have h2 := h.next
  have hj := JInv.judge h.hist c s.next log hl
  have h3 := hj.len
  have h4 := hj.next
  exact ⟨hj.hist, by simp only [takeS, List.length_append, List.length_map]; omega, by show 1 ≤ (judgeJ s.tree s.next _ log).j.next ∧ (judgeJ s.tree s.next _ log).j.next ≤ _; omega⟩
end La

namespace La
open Go Go.Eng

def Edge (l : List Node) (d : Int) (s : List UInt8) (f : Int) : Prop := ∃ n, n ∈ l ∧ n.fid = d ∧ (⟨s, f⟩ : Entry) ∈ n.entries
def FidIn (l : List Node) (f : Int) : Prop := ∃ n, n ∈ l ∧ n.fid = f
structure Loc (n : Node) : Prop where
  eup : EUp n.entries
  file : n.dir = false → n.entries = []
  dirD : n.dir = true → n.data = []
structure Wh (l : List Node) : Prop where
  good : Good l
  loc : ∀ n, n ∈ l → Loc n
  name : ∀ d s f, Edge l d s f → nameB s = true
  there : ∀ d s f, Edge l d s f → FidIn l f
  noroot : ∀ d s f, Edge l d s f → f ≠ 0
  par : ∀ f, FidIn l f → f ≠ 0 → ∃ d s, Edge l d s f
  one : ∀ d s d' s' f, Edge l d s f → Edge l d' s' f → d = d' ∧ s = s'
  root : ∃ n, n ∈ l ∧ n.fid = 0 ∧ n.dir = true

theorem up_same {l : List Node} (h : Up l) {a b : Node} (ha : a ∈ l) (hb : b ∈ l) (hf : a.fid = b.fid) : a = b := by
  have h1 := (findN_some h).2 ⟨ha, rfl⟩
  have h2 := (findN_some h).2 ⟨hb, hf.symm⟩
  rw [h1] at h2; injection h2
theorem edge_at {l : List Node} (h : Up l) {n : Node} (hn : n ∈ l) {s : List UInt8} {f : Int} : Edge l n.fid s f ↔ (⟨s, f⟩ : Entry) ∈ n.entries :=
  ⟨fun ⟨m, hm, hf, he⟩ => by rw [up_same h hm hn hf] at he; exact he, fun he => ⟨n, hn, rfl, he⟩⟩
theorem edge_put {l : List Node} (h : Up l) (n : Node) {d : Int} {s : List UInt8} {f : Int} : Edge (putN l n) d s f ↔ (d = n.fid ∧ (⟨s, f⟩ : Entry) ∈ n.entries) ∨ (d ≠ n.fid ∧ Edge l d s f) := by
  obtain ⟨_, h2⟩ := putN_up h n
  constructor
  · rintro ⟨m, hm, rfl, he⟩
    rcases (h2 m).1 hm with rfl | ⟨hm, hne⟩
    · exact .inl ⟨rfl, he⟩
    · exact .inr ⟨hne, m, hm, rfl, he⟩
  · rintro (⟨rfl, he⟩ | ⟨hne, m, hm, rfl, he⟩)
    · exact ⟨n, (h2 n).2 (.inl rfl), rfl, he⟩
    · exact ⟨m, (h2 m).2 (.inr ⟨hm, hne⟩), rfl, he⟩
theorem fid_put {l : List Node} (h : Up l) (n : Node) {f : Int} : FidIn (putN l n) f ↔ f = n.fid ∨ FidIn l f := by
  obtain ⟨_, h2⟩ := putN_up h n
  constructor
  · rintro ⟨m, hm, rfl⟩
    rcases (h2 m).1 hm with rfl | ⟨hm, hne⟩
    · exact .inl rfl
    · exact .inr ⟨m, hm, rfl⟩
  · rintro (rfl | ⟨m, hm, rfl⟩)
    · exact ⟨n, (h2 n).2 (.inl rfl), rfl⟩
    · by_cases hne : m.fid = n.fid
      · exact ⟨n, (h2 n).2 (.inl rfl), hne.symm⟩
      · exact ⟨m, (h2 m).2 (.inr ⟨hm, hne⟩), rfl⟩
theorem edge_drop {l : List Node} (k : Int) {d : Int} {s : List UInt8} {f : Int} : Edge (dropN l k) d s f ↔ Edge l d s f ∧ d ≠ k := by
  constructor
  · rintro ⟨m, hm, rfl, he⟩
    have := List.mem_filter.1 hm
    exact ⟨⟨m, this.1, rfl, he⟩, by simpa using this.2⟩
  · rintro ⟨⟨m, hm, rfl, he⟩, hk⟩
    exact ⟨m, List.mem_filter.2 ⟨hm, by simpa using hk⟩, rfl, he⟩
theorem fid_drop {l : List Node} (k : Int) {f : Int} : FidIn (dropN l k) f ↔ FidIn l f ∧ f ≠ k := by
  constructor
  · rintro ⟨m, hm, rfl⟩
    have := List.mem_filter.1 hm
    exact ⟨⟨m, this.1, rfl⟩, by simpa using this.2⟩
  · rintro ⟨⟨m, hm, rfl⟩, hk⟩
    exact ⟨m, List.mem_filter.2 ⟨hm, by simpa using hk⟩, rfl⟩
theorem enter_mem {l : List Entry} (h : EUp l) {s0 : List UInt8} (hs : isE l s0 = false) (f0 : Int) {s : List UInt8} {f : Int} : (⟨s, f⟩ : Entry) ∈ enterE l s0 f0 ↔ (s = s0 ∧ f = f0) ∨ (⟨s, f⟩ : Entry) ∈ l := by
  rw [(enterE_up h hs f0).2.1]
  simp
theorem leave_mem {l : List Entry} {s0 s : List UInt8} {f : Int} : (⟨s, f⟩ : Entry) ∈ leaveE l s0 ↔ (⟨s, f⟩ : Entry) ∈ l ∧ s ≠ s0 := by
  unfold leaveE
  rw [List.mem_filter]
  simp
theorem leave_up {l : List Entry} (h : EUp l) (s : List UInt8) : EUp (leaveE l s) := h.sublist List.filter_sublist

theorem roomE_free {n : Node} {s : List UInt8} (h : roomE n s = 0) : nameB s = true ∧ isE n.entries s = false := by
  unfold roomE at h
  split at h
  · rename_i h1
    split at h
    · omega
    · rename_i h2
      exact ⟨h1, by simpa using h2⟩
  · omega
theorem fid_of_find {l : List Node} {k : Int} {n : Node} (hu : Up l) (h : findN l k = some n) : FidIn l k := by
  obtain ⟨h1, h2⟩ := (findN_some hu).1 h
  exact ⟨n, h1, h2⟩
theorem notIn_of {l : List Node} {k : Int} (hu : Up l) (h : isAt l k = false) : ¬ FidIn l k := by
  rintro ⟨m, hm, rfl⟩
  have := (findN_some hu).2 ⟨hm, rfl⟩
  rw [isAt_of this] at h; cases h

theorem wh_make {l : List Node} (h : Wh l) (a : Act) (v : Int) (he : makeE l a = 0) : Wh (makeL l a v) := by
  have hg := good_make h.good a v he
  have hu := h.good.up
  have hL : makeL l a v = putN (putN l { enterN (getN l a.dir) a.name a.fid with version := v }) (madeN a v) := by unfold makeL; rw [if_pos he]
  unfold makeE at he
  split at he
  case isFalse hd => exact absurd he hd
  rename_i hd
  obtain ⟨n, hf, hgn, hdir⟩ := dirE_zero hd
  rw [hgn] at he hL
  obtain ⟨hn, hnk⟩ := (findN_some hu).1 hf
  split at he
  case isFalse hr => exact absurd he hr
  rename_i hro
  obtain ⟨hnm, hfree⟩ := roomE_free hro
  split at he
  · omega
  rename_i hnew
  have hno : isAt l a.fid = false ∧ a.fid ≠ 0 := by simpa using hnew
  have hnin := notIn_of hu hno.1
  have hl := h.loc n hn
  have hu1 := (putN_up hu { enterN n a.name a.fid with version := v }).1
  have hnf : n.fid ≠ a.fid := fun e => hnin ⟨n, hn, e⟩
  rw [hL] at hg ⊢
  have hE : ∀ d s f, Edge (putN (putN l { enterN n a.name a.fid with version := v }) (madeN a v)) d s f ↔ Edge l d s f ∨ (d = n.fid ∧ s = a.name ∧ f = a.fid) := fun d s f => by
    rw [edge_put hu1, edge_put hu]
    show (d = a.fid ∧ (⟨s, f⟩ : Entry) ∈ []) ∨ (d ≠ a.fid ∧ ((d = n.fid ∧ (⟨s, f⟩ : Entry) ∈ enterE n.entries a.name a.fid) ∨ (d ≠ n.fid ∧ Edge l d s f))) ↔ _
    rw [enter_mem hl.eup hfree]
    constructor
    · rintro (⟨_, h0⟩ | ⟨h1, ⟨rfl, h2 | h2⟩ | ⟨h2, h3⟩⟩)
      · cases h0
      · exact .inr ⟨rfl, h2⟩
      · exact .inl ⟨n, hn, rfl, h2⟩
      · exact .inl h3
    · rintro (h1 | ⟨rfl, rfl, rfl⟩)
      · refine .inr ⟨fun e => ?_, ?_⟩
        · obtain ⟨m, hm, hmf, _⟩ := h1
          exact hnin ⟨m, hm, hmf.trans e⟩
        · by_cases hd : d = n.fid
          · subst hd; exact .inl ⟨rfl, .inr ((edge_at hu hn).1 h1)⟩
          · exact .inr ⟨hd, h1⟩
      · exact .inr ⟨hnf, .inl ⟨rfl, .inl ⟨rfl, rfl⟩⟩⟩
  have hF : ∀ f, FidIn (putN (putN l { enterN n a.name a.fid with version := v }) (madeN a v)) f ↔ f = a.fid ∨ FidIn l f := fun f => by
    rw [fid_put hu1, fid_put hu]
    show f = a.fid ∨ f = n.fid ∨ FidIn l f ↔ _
    constructor
    · rintro (h | rfl | h)
      · exact .inl h
      · exact .inr ⟨n, hn, rfl⟩
      · exact .inr h
    · rintro (h | h)
      · exact .inl h
      · exact .inr (.inr h)
  refine ⟨hg, fun x hx => ?_, fun d s f hd => ?_, fun d s f hd => ?_, fun d s f hd => ?_, fun f hf h0 => ?_, fun d s d' s' f h1 h2 => ?_, ?_⟩
  · rcases pmem hx with rfl | hx
    · exact ⟨by unfold EUp; simp [madeN], fun _ => rfl, fun _ => rfl⟩
    · rcases pmem hx with rfl | hx
      · exact ⟨(enterE_up hl.eup hfree a.fid).1, fun h0 => (by
          have h0 : n.dir = false := h0
          rw [hdir] at h0; cases h0), hl.dirD⟩
      · exact h.loc x hx
  · rcases (hE d s f).1 hd with h1 | ⟨_, rfl, _⟩
    · exact h.name d s f h1
    · exact hnm
  · rcases (hE d s f).1 hd with h1 | ⟨_, _, rfl⟩
    · exact (hF f).2 (.inr (h.there d s f h1))
    · exact (hF _).2 (.inl rfl)
  · rcases (hE d s f).1 hd with h1 | ⟨_, _, rfl⟩
    · exact h.noroot d s f h1
    · exact hno.2
  · rcases (hF f).1 hf with rfl | hf
    · exact ⟨n.fid, a.name, (hE _ _ _).2 (.inr ⟨rfl, rfl, rfl⟩)⟩
    · obtain ⟨d, s, h1⟩ := h.par f hf h0
      exact ⟨d, s, (hE _ _ _).2 (.inl h1)⟩
  · rcases (hE d s f).1 h1 with h1 | ⟨rfl, rfl, rfl⟩
    · rcases (hE d' s' f).1 h2 with h2 | ⟨rfl, rfl, rfl⟩
      · exact h.one d s d' s' f h1 h2
      · exact absurd (h.there _ _ _ h1) hnin
    · rcases (hE d' s' _).1 h2 with h2 | ⟨rfl, rfl, _⟩
      · exact absurd (h.there _ _ _ h2) hnin
      · exact ⟨rfl, rfl⟩
  · obtain ⟨m, hm, hm0, hmd⟩ := h.root
    have hmem : ∀ x, x ∈ putN l { enterN n a.name a.fid with version := v } → x.fid ≠ a.fid → x ∈ putN (putN l { enterN n a.name a.fid with version := v }) (madeN a v) := fun x hx hne => ((putN_up hu1 (madeN a v)).2 x).2 (.inr ⟨hx, hne⟩)
    by_cases hmn : m.fid = n.fid
    · refine ⟨{ enterN n a.name a.fid with version := v }, hmem _ (((putN_up hu _).2 _).2 (.inl rfl)) hnf, hmn.symm.trans hm0, hdir⟩
    · exact ⟨m, hmem _ (((putN_up hu _).2 _).2 (.inr ⟨hm, hmn⟩)) (by rw [hm0]; exact fun e => hno.2 e.symm), hm0, hmd⟩

theorem wh_store {l : List Node} (h : Wh l) (a : Act) (v : Int) (he : storeE l a = 0) : Wh (storeL l a v) := by
  have hg := good_store h.good a v he
  have hu := h.good.up
  have hL : storeL l a v = putN l { getN l a.fid with data := a.data, version := v } := by unfold storeL; rw [if_pos he]
  unfold storeE at he
  cases hf : findN l a.fid with
  | none => rw [hf] at he; simp at he
  | some n =>
    rw [hf] at he
    simp only at he
    obtain ⟨hn, hnk⟩ := (findN_some hu).1 hf
    have hgn : getN l a.fid = n := by unfold getN; rw [hf]; rfl
    rw [hgn] at hL
    split at he
    · omega
    rename_i hdir
    rw [hL] at hg ⊢
    have hE : ∀ d s f, Edge (putN l { n with data := a.data, version := v }) d s f ↔ Edge l d s f := fun d s f => by
      rw [edge_put hu]
      show (d = n.fid ∧ (⟨s, f⟩ : Entry) ∈ n.entries) ∨ (d ≠ n.fid ∧ Edge l d s f) ↔ _
      constructor
      · rintro (⟨rfl, h1⟩ | ⟨_, h1⟩)
        · exact ⟨n, hn, rfl, h1⟩
        · exact h1
      · intro h1
        by_cases hd : d = n.fid
        · subst hd; exact .inl ⟨rfl, (edge_at hu hn).1 h1⟩
        · exact .inr ⟨hd, h1⟩
    have hF : ∀ f, FidIn (putN l { n with data := a.data, version := v }) f ↔ FidIn l f := fun f => by
      rw [fid_put hu]
      show f = n.fid ∨ FidIn l f ↔ _
      constructor
      · rintro (rfl | h)
        · exact ⟨n, hn, rfl⟩
        · exact h
      · exact .inr
    refine ⟨hg, fun x hx => ?_, fun d s f hd => h.name d s f ((hE _ _ _).1 hd), fun d s f hd => (hF _).2 (h.there d s f ((hE _ _ _).1 hd)), fun d s f hd => h.noroot d s f ((hE _ _ _).1 hd), fun f hf h0 => ?_, fun d s d' s' f h1 h2 => h.one d s d' s' f ((hE _ _ _).1 h1) ((hE _ _ _).1 h2), ?_⟩
    · rcases pmem hx with rfl | hx
      · have hl := h.loc n hn
        exact ⟨hl.eup, hl.file, fun h0 => absurd h0 hdir⟩
      · exact h.loc x hx
    · obtain ⟨d, s, h1⟩ := h.par f ((hF f).1 hf) h0
      exact ⟨d, s, (hE _ _ _).2 h1⟩
    · obtain ⟨m, hm, hm0, hmd⟩ := h.root
      refine ⟨m, ((putN_up hu _).2 m).2 (.inr ⟨hm, fun e => ?_⟩), hm0, hmd⟩
      have : m = n := up_same hu hm hn e
      subst this
      exact hdir hmd

theorem named_edge {l : List Node} (h : Wh l) {a : Act} (he : namedE l a = 0) : ∃ n, findN l a.dir = some n ∧ getN l a.dir = n ∧ n ∈ l ∧ n.fid = a.dir ∧ n.dir = true ∧ Edge l a.dir a.name a.fid := by
  unfold namedE at he
  split at he
  case isFalse hd => exact absurd he hd
  rename_i hd
  obtain ⟨n, hf, hgn, hdir⟩ := dirE_zero hd
  obtain ⟨hn, hnk⟩ := (findN_some h.good.up).1 hf
  rw [hgn] at he
  cases e : entryN n a.name with
  | none => rw [e] at he; simp at he
  | some f =>
    rw [e] at he
    simp only at he
    split at he
    case isFalse hd => omega
    rename_i hff
    subst hff
    exact ⟨n, hf, hgn, hn, hnk, hdir, n, hn, hnk, (entryN_some (h.loc n hn).eup).1 e⟩

theorem edge_left {l : List Node} (hu : Up l) {n : Node} (hn : n ∈ l) (s0 : List UInt8) (v : Int) {d : Int} {s : List UInt8} {f : Int} : Edge (putN l { leaveN n s0 with version := v }) d s f ↔ Edge l d s f ∧ ¬ (d = n.fid ∧ s = s0) := by
  rw [edge_put hu]
  show (d = n.fid ∧ (⟨s, f⟩ : Entry) ∈ leaveE n.entries s0) ∨ (d ≠ n.fid ∧ Edge l d s f) ↔ _
  rw [leave_mem]
  constructor
  · rintro (⟨rfl, h1, h2⟩ | ⟨h1, h2⟩)
    · exact ⟨⟨n, hn, rfl, h1⟩, fun h => h2 h.2⟩
    · exact ⟨h2, fun h => h1 h.1⟩
  · rintro ⟨h1, h2⟩
    by_cases hd : d = n.fid
    · subst hd; exact .inl ⟨rfl, (edge_at hu hn).1 h1, fun e => h2 ⟨rfl, e⟩⟩
    · exact .inr ⟨hd, h1⟩

theorem wh_remove {l : List Node} (h : Wh l) (a : Act) (v : Int) (he : removeE l a = 0) : Wh (removeL l a v) := by
  have hg := good_remove h.good a v he
  have hu := h.good.up
  have hL : removeL l a v = dropN (putN l { leaveN (getN l a.dir) a.name with version := v }) a.fid := by unfold removeL; rw [if_pos he]
  unfold removeE at he
  split at he
  case isFalse hd => exact absurd he hd
  rename_i hnd
  obtain ⟨n, hf, hgn, hn, hnk, hdir, hed⟩ := named_edge h hnd
  rw [hgn] at hL
  cases hx : findN l a.fid with
  | none => rw [hx] at he; simp at he
  | some x =>
    rw [hx] at he
    simp only at he
    obtain ⟨hxm, hxf⟩ := (findN_some hu).1 hx
    have hxe : x.entries = [] := by
      cases e : x.entries with
      | nil => rfl
      | cons p q => rw [e] at he; simp at he
    rw [hL] at hg ⊢
    have hnoE : ∀ s f, ¬ Edge l a.fid s f := fun s f h1 => by
      rw [← hxf] at h1
      have := (edge_at hu hxm).1 h1
      rw [hxe] at this; cases this
    have hE : ∀ d s f, Edge (dropN (putN l { leaveN n a.name with version := v }) a.fid) d s f ↔ Edge l d s f ∧ ¬ (d = a.dir ∧ s = a.name) := fun d s f => by
      rw [edge_drop, edge_left hu hn, hnk]
      constructor
      · exact fun h => h.1
      · exact fun h => ⟨h, fun e => by subst e; exact hnoE s f h.1⟩
    have hF : ∀ f, FidIn (dropN (putN l { leaveN n a.name with version := v }) a.fid) f ↔ FidIn l f ∧ f ≠ a.fid := fun f => by
      rw [fid_drop, fid_put hu]
      show (f = n.fid ∨ FidIn l f) ∧ f ≠ a.fid ↔ _
      constructor
      · rintro ⟨rfl | h, h1⟩
        · exact ⟨⟨n, hn, rfl⟩, h1⟩
        · exact ⟨h, h1⟩
      · rintro ⟨h, h1⟩
        exact ⟨.inr h, h1⟩
    have hup1 := (putN_up hu { leaveN n a.name with version := v })
    refine ⟨hg, fun x hx => ?_, fun d s f hd => h.name d s f ((hE _ _ _).1 hd).1, fun d s f hd => (hF _).2 ⟨h.there d s f ((hE _ _ _).1 hd).1, fun e => ?_⟩, fun d s f hd => h.noroot d s f ((hE _ _ _).1 hd).1, fun f hf h0 => ?_, fun d s d' s' f h1 h2 => h.one d s d' s' f ((hE _ _ _).1 h1).1 ((hE _ _ _).1 h2).1, ?_⟩
    · rcases pmem (List.mem_filter.1 hx).1 with rfl | hx
      · have hl := h.loc n hn
        exact ⟨leave_up hl.eup _, fun h0 => by
          show leaveE n.entries a.name = []
          rw [hl.file h0]; rfl, hl.dirD⟩
      · exact h.loc x hx
    · subst e
      obtain ⟨h1, h2⟩ := (hE _ _ _).1 hd
      exact h2 (h.one _ _ _ _ _ h1 hed)
    · obtain ⟨h1, h2⟩ := (hF f).1 hf
      obtain ⟨d, s, h3⟩ := h.par f h1 h0
      refine ⟨d, s, (hE _ _ _).2 ⟨h3, fun e => ?_⟩⟩
      obtain ⟨rfl, rfl⟩ := e
      obtain ⟨m, hm, hmf, hme⟩ := hed
      obtain ⟨m', hm', hmf', hme'⟩ := h3
      have : m = m' := up_same hu hm hm' (hmf.trans hmf'.symm)
      subst this
      have := (h.loc m hm).eup.same hme hme' rfl
      injection this with _ h5
      exact h2 h5.symm
    · obtain ⟨m, hm, hm0, hmd⟩ := h.root
      have h0 : (0 : Int) ≠ a.fid := fun e => h.noroot _ _ _ hed e.symm
      by_cases hmn : m.fid = n.fid
      · exact ⟨{ leaveN n a.name with version := v }, List.mem_filter.2 ⟨(hup1.2 _).2 (.inl rfl), by
          show (!(n.fid == a.fid)) = true
          rw [← hmn, hm0]; simpa using h0⟩, hmn.symm.trans hm0, hdir⟩
      · exact ⟨m, List.mem_filter.2 ⟨(hup1.2 _).2 (.inr ⟨hm, hmn⟩), by rw [hm0]; simpa using h0⟩, hm0, hmd⟩

theorem wh_rename {l : List Node} (h : Wh l) (a : Act) (v : Int) (he : renameE l a = 0) : Wh (renameL l a v) := by
  have hg := good_rename h.good a v he
  have hu := h.good.up
  have hL : renameL l a v = putN (if a.to = a.dir then l else putN l { leaveN (getN l a.dir) a.name with version := v }) { enterN (toN l a) a.toName a.fid with version := v } := by unfold renameL; rw [if_pos he]
  unfold renameE at he
  split at he
  case isFalse hd => exact absurd he hd
  rename_i hnd
  obtain ⟨n, hf, hgn, hn, hnk, hdir, hed⟩ := named_edge h hnd
  split at he
  case isFalse hd => exact absurd he hd
  rename_i hdt
  obtain ⟨t, htf, htg, htdir⟩ := dirE_zero hdt
  obtain ⟨htm, htk⟩ := (findN_some hu).1 htf
  split at he
  case isFalse hd => exact absurd he hd
  rename_i hro
  obtain ⟨hnm, hfree⟩ := roomE_free hro
  rw [hgn] at hL
  rw [hL] at hg ⊢
  -- the directory that gets the name
  have hT : (toN l a).fid = a.to ∧ (toN l a).dir = true ∧ EUp (toN l a).entries ∧ ((toN l a).dir = true → (toN l a).data = []) ∧ ∀ s f, (⟨s, f⟩ : Entry) ∈ (toN l a).entries ↔ Edge l a.to s f ∧ ¬ (a.to = a.dir ∧ s = a.name) := by
    unfold toN
    split
    · rename_i htd
      rw [hgn]
      have hl := h.loc n hn
      refine ⟨hnk.trans htd.symm, hdir, leave_up hl.eup _, hl.dirD, fun s f => ?_⟩
      show (⟨s, f⟩ : Entry) ∈ leaveE n.entries a.name ↔ _
      rw [leave_mem, htd, ← hnk, edge_at hu hn]
      simp
    · rename_i htd
      rw [htg]
      have hl := h.loc t htm
      refine ⟨htk, htdir, hl.eup, hl.dirD, fun s f => ?_⟩
      rw [← htk, edge_at hu htm]
      constructor
      · exact fun h => ⟨h, fun e => htd (htk.symm.trans e.1)⟩
      · exact fun h => h.1
  obtain ⟨hTf, hTd, hTe, hTda, hTm⟩ := hT
  generalize hl1 : (if a.to = a.dir then l else putN l { leaveN n a.name with version := v }) = l1 at hg ⊢
  have hu1 : Up l1 := by subst hl1; split; exact hu; exact (putN_up hu _).1
  have hE1 : ∀ d s f, d ≠ a.to → (Edge l1 d s f ↔ Edge l d s f ∧ ¬ (d = a.dir ∧ s = a.name)) := fun d s f hd => by
    subst hl1
    split
    · rename_i htd
      exact ⟨fun h => ⟨h, fun e => hd (e.1.trans htd.symm)⟩, fun h => h.1⟩
    · rw [edge_left hu hn, hnk]
  have hF1 : ∀ f, FidIn l1 f ↔ FidIn l f := fun f => by
    subst hl1
    split
    · exact Iff.rfl
    · rw [fid_put hu]
      show f = n.fid ∨ FidIn l f ↔ _
      exact ⟨fun h => h.elim (fun e => ⟨n, hn, e.symm⟩) id, .inr⟩
  have hE : ∀ d s f, Edge (putN l1 { enterN (toN l a) a.toName a.fid with version := v }) d s f ↔ (Edge l d s f ∧ ¬ (d = a.dir ∧ s = a.name)) ∨ (d = a.to ∧ s = a.toName ∧ f = a.fid) := fun d s f => by
    rw [edge_put hu1]
    show (d = (toN l a).fid ∧ (⟨s, f⟩ : Entry) ∈ enterE (toN l a).entries a.toName a.fid) ∨ (d ≠ (toN l a).fid ∧ Edge l1 d s f) ↔ _
    rw [enter_mem hTe hfree, hTm, hTf]
    constructor
    · rintro (⟨rfl, h1 | h1⟩ | ⟨h1, h2⟩)
      · exact .inr ⟨rfl, h1⟩
      · exact .inl h1
      · exact .inl ((hE1 d s f h1).1 h2)
    · rintro (h1 | ⟨rfl, h1⟩)
      · by_cases hd : d = a.to
        · subst hd; exact .inl ⟨rfl, .inr h1⟩
        · exact .inr ⟨hd, (hE1 d s f hd).2 h1⟩
      · exact .inl ⟨rfl, .inl h1⟩
  have hF : ∀ f, FidIn (putN l1 { enterN (toN l a) a.toName a.fid with version := v }) f ↔ FidIn l f := fun f => by
    rw [fid_put hu1, hF1]
    show f = (toN l a).fid ∨ FidIn l f ↔ _
    rw [hTf]
    exact ⟨fun h => h.elim (fun e => ⟨t, htm, htk.trans e.symm⟩) id, .inr⟩
  have hthere := h.there _ _ _ hed
  -- who leads to the fid that moves: its old place alone
  have hold : ∀ d s, Edge l d s a.fid → d = a.dir ∧ s = a.name := fun d s h1 => h.one _ _ _ _ _ h1 hed
  refine ⟨hg, fun x hx => ?_, fun d s f hd => ?_, fun d s f hd => ?_, fun d s f hd => ?_, fun f hf h0 => ?_, fun d s d' s' f h1 h2 => ?_, ?_⟩
  · rcases pmem hx with rfl | hx
    · exact ⟨(enterE_up hTe hfree a.fid).1, fun h0 => (by
        have h0 : (toN l a).dir = false := h0
        rw [hTd] at h0; cases h0), hTda⟩
    · subst hl1
      split at hx
      · exact h.loc x hx
      · rcases pmem hx with rfl | hx
        · have hl := h.loc n hn
          exact ⟨leave_up hl.eup _, fun h0 => by
            show leaveE n.entries a.name = []
            rw [hl.file h0]; rfl, hl.dirD⟩
        · exact h.loc x hx
  · rcases (hE d s f).1 hd with h1 | ⟨_, rfl, _⟩
    · exact h.name d s f h1.1
    · exact hnm
  · rcases (hE d s f).1 hd with h1 | ⟨_, _, rfl⟩
    · exact (hF f).2 (h.there d s f h1.1)
    · exact (hF _).2 hthere
  · rcases (hE d s f).1 hd with h1 | ⟨_, _, rfl⟩
    · exact h.noroot d s f h1.1
    · exact h.noroot _ _ _ hed
  · by_cases hff : f = a.fid
    · subst hff
      exact ⟨a.to, a.toName, (hE _ _ _).2 (.inr ⟨rfl, rfl, rfl⟩)⟩
    · obtain ⟨d, s, h1⟩ := h.par f ((hF f).1 hf) h0
      refine ⟨d, s, (hE _ _ _).2 (.inl ⟨h1, fun e => ?_⟩)⟩
      obtain ⟨rfl, rfl⟩ := e
      obtain ⟨m, hm, hmf, hme⟩ := hed
      obtain ⟨m', hm', hmf', hme'⟩ := h1
      have : m = m' := up_same hu hm hm' (hmf.trans hmf'.symm)
      subst this
      have := (h.loc m hm).eup.same hme hme' rfl
      injection this with _ h5
      exact hff h5.symm
  · rcases (hE d s f).1 h1 with h1 | ⟨rfl, rfl, rfl⟩
    · rcases (hE d' s' f).1 h2 with h2 | ⟨rfl, rfl, rfl⟩
      · exact h.one d s d' s' f h1.1 h2.1
      · exact absurd (hold d s h1.1) h1.2
    · rcases (hE d' s' _).1 h2 with h2 | ⟨rfl, rfl, _⟩
      · exact absurd (hold d' s' h2.1) h2.2
      · exact ⟨rfl, rfl⟩
  · obtain ⟨m, hm, hm0, hmd⟩ := h.root
    by_cases hmt : m.fid = a.to
    · exact ⟨_, ((putN_up hu1 _).2 _).2 (.inl rfl), hTf.trans (hmt.symm.trans hm0), hTd⟩
    · have hml1 : ∃ x, x ∈ l1 ∧ x.fid = 0 ∧ x.dir = true := by
        subst hl1
        split
        · exact ⟨m, hm, hm0, hmd⟩
        · by_cases hmn : m.fid = n.fid
          · exact ⟨{ leaveN n a.name with version := v }, ((putN_up hu _).2 _).2 (.inl rfl), hmn.symm.trans hm0, hdir⟩
          · exact ⟨m, ((putN_up hu _).2 _).2 (.inr ⟨hm, hmn⟩), hm0, hmd⟩
      obtain ⟨x, hx, hx0, hxd⟩ := hml1
      exact ⟨x, ((putN_up hu1 _).2 _).2 (.inr ⟨hx, by
        show x.fid ≠ (toN l a).fid
        rw [hTf, hx0, ← hm0]; exact hmt⟩), hx0, hxd⟩

theorem wh_apply {l : List Node} (h : Wh l) (a : Act) (v : Int) (he : applyE l a = 0) : Wh (applyL l a v) := by
  unfold applyE at he
  unfold applyL
  split at he
  · rename_i h1; rw [if_pos h1]; exact wh_make h a v he
  · rename_i h1
    rw [if_neg h1]
    split at he
    · rename_i h2; rw [if_pos h2]; exact wh_make h a v he
    · rename_i h2
      rw [if_neg h2]
      split at he
      · rename_i h3; rw [if_pos h3]; exact wh_store h a v he
      · rename_i h3
        rw [if_neg h3]
        split at he
        · rename_i h4; rw [if_pos h4]; exact wh_remove h a v he
        · rename_i h4
          rw [if_neg h4]
          split at he
          · rename_i h5; rw [if_pos h5]; exact wh_rename h a v he
          · omega
theorem wh_root : Wh [rootN] := by
  have hE : ∀ d s f, ¬ Edge [rootN] d s f := fun d s f ⟨n, hn, _, he⟩ => by rw [List.mem_singleton.1 hn] at he; cases he
  exact ⟨good_root, fun n hn => by rw [List.mem_singleton.1 hn]; exact ⟨by unfold EUp; simp [rootN], fun _ => rfl, fun _ => rfl⟩, fun d s f h => absurd h (hE d s f), fun d s f h => absurd h (hE d s f), fun d s f h => absurd h (hE d s f),
    fun f ⟨n, hn, hf⟩ h0 => by rw [List.mem_singleton.1 hn] at hf; exact absurd hf.symm h0, fun d s d' s' f h => absurd h (hE d s f), ⟨rootN, List.mem_singleton.2 rfl, rfl, rfl⟩⟩
theorem Hist.whole {p : List Past} {t : List Node} (h : Hist p t) : Wh t := by
  induction h with
  | nil => exact wh_root
  | snoc c a h ha he ih => exact wh_apply ih _ _ he
end La

namespace La
open Go Go.Eng

/-- nodes by fids -/
def mapDU (l : List Node) : Nat → List (Int × Node)
  | 0 => []
  | i + 1 => mput (mapDU l i) (fidN l i) (l.getD i default)
def mapD (l : List Node) : List (Int × Node) := mapDU l l.length
theorem mapUN_eq (l : List Node) : ∀ i, mapUN l i = mN (mapDU l i)
  | 0 => rfl
  | i + 1 => by
    have ih := mapUN_eq l i
    show mput (mapUN l i) (fidN l i) _ = _
    rw [ih, mN_put]; rfl
theorem mapN_eq (l : List Node) : mapN l = mN (mapD l) := mapUN_eq l l.length
theorem mapD_rise (l : List Node) : RiseM (mapD l) := by
  have : ∀ i, RiseM (mapDU l i) := fun i => by
    induction i with
    | zero => exact List.Pairwise.nil
    | succ i ih => exact mput_rise ih
  exact this _
theorem mapD_get {l : List Node} (h : Up l) (k : Int) : mget (mapD l) k = findN l k := by
  have h1 := mapN_get h k
  rw [mapN_eq, mN_get] at h1
  cases e : mget (mapD l) k with
  | none =>
    rw [e] at h1
    cases e2 : findN l k with
    | none => rfl
    | some n => rw [e2] at h1; cases h1
  | some m =>
    rw [e] at h1
    cases e2 : findN l k with
    | none => rw [e2] at h1; cases h1
    | some n =>
      rw [e2] at h1
      simp only [Option.map_some, Option.some.injEq, AV.agg.injEq] at h1
      -- the same nodes, as both come from the list
      have hm : ∀ i, i ≤ l.length → ∀ p, p ∈ mapDU l i → p.2 ∈ l ∧ p.2.fid = p.1 := fun i => by
        induction i with
        | zero => intro _ p hp; cases hp
        | succ i ih =>
          intro hi p hp
          have hr : RiseM (mapDU l i) := by
            have : ∀ j, RiseM (mapDU l j) := fun j => by
              induction j with
              | zero => exact List.Pairwise.nil
              | succ j ihj => exact mput_rise ihj
            exact this i
          rcases (mem_mput hr p.1 p.2).1 hp with ⟨h1, h2⟩ | ⟨_, h2⟩
          · rw [h1, h2]; exact ⟨getD_mem (by omega), rfl⟩
          · exact ih (by omega) p h2
      obtain ⟨q1, q2⟩ := hm _ (Nat.le_refl _) _ (mget_mem e)
      rw [← e2]
      exact ((findN_some h).2 ⟨q1, q2⟩).symm

theorem mapDU_rise (l : List Node) : ∀ i, RiseM (mapDU l i)
  | 0 => List.Pairwise.nil
  | i + 1 => mput_rise (mapDU_rise l i)
theorem mapDU_mem (l : List Node) : ∀ i, i ≤ l.length → ∀ p, p ∈ mapDU l i → p.2 ∈ l
  | 0, _, p, hp => by cases hp
  | i + 1, hi, p, hp => by
    rcases (mem_mput (mapDU_rise l i) p.1 p.2).1 hp with ⟨h1, h2⟩ | ⟨_, h2⟩
    · rw [h2]; exact getD_mem (by omega)
    · exact mapDU_mem l i (by omega) p h2
theorem mapDU_len (l : List Node) : ∀ i, (mapDU l i).length ≤ i
  | 0 => Nat.le_refl _
  | i + 1 => by
    have h1 := mapDU_len l i
    have h2 := mput_length (n := fidN l i) (v := l.getD i default) (mapDU_rise l i)
    show (mput (mapDU l i) (fidN l i) (l.getD i default)).length ≤ i + 1
    rw [h2]
    cases (mget (mapDU l i) (fidN l i)).isSome <;> simp <;> omega
theorem flat_len {α : Type} {f : α → List Int} {k : Nat} : ∀ {l : List α}, (∀ x, x ∈ l → (f x).length ≤ k) → (l.flatMap f).length ≤ k * l.length
  | [], _ => by simp
  | x :: r, h => by
    have h1 := flat_len (l := r) fun y hy => h y (List.mem_cons_of_mem _ hy)
    have h2 := h x List.mem_cons_self
    simp only [List.flatMap_cons, List.length_append, List.length_cons, Nat.mul_add, Nat.mul_one]
    omega
theorem allF_small {l : List Node} {k : Nat} (h : ∀ n, n ∈ l → n.entries.length ≤ k) : (allF (mapD l)).length ≤ k * l.length := by
  have h1 : (allF (mapD l)).length ≤ k * (mapD l).length := flat_len fun p hp => by
    rw [List.length_map]; exact h _ (mapDU_mem l _ (Nat.le_refl _) p hp)
  exact Nat.le_trans h1 (Nat.mul_le_mul_left _ (mapDU_len l _))
theorem le_sumR (r : Int → Nat) : ∀ (l : List Node) (n : Node), n ∈ l → r n.fid ≤ (l.map fun n => r n.fid).sum
  | [], n, h => by cases h
  | m :: l, n, h => by
    simp only [List.map_cons, List.sum_cons]
    rcases List.mem_cons.1 h with rfl | h
    · omega
    · have := le_sumR r l n h; omega
theorem wh_reach {l : List Node} (h : Wh l) {f : Int} (hf : FidIn l f) : MReach (mapD l) 0 f := by
  obtain ⟨r, hr⟩ := h.good.falls
  have key : ∀ (k : Nat) (f : Int), FidIn l f → (l.map fun n => r n.fid).sum - r f ≤ k → MReach (mapD l) 0 f := fun k => by
    induction k with
    | zero =>
      intro f hf hk
      by_cases h0 : f = 0
      · subst h0; exact .refl
      · obtain ⟨d, s, n, hn, hd, he⟩ := h.par f hf h0
        have h1 := hr n hn _ he
        have h2 := le_sumR r l n hn
        simp only at h1
        omega
    | succ k ih =>
      intro f hf hk
      by_cases h0 : f = 0
      · subst h0; exact .refl
      · obtain ⟨d, s, n, hn, hd, he⟩ := h.par f hf h0
        have h1 := hr n hn _ he
        have h2 := le_sumR r l n hn
        simp only at h1
        exact .step (ih n.fid ⟨n, hn, rfl⟩ (by omega)) (by rw [mapD_get h.good.up]; exact (findN_some h.good.up).2 ⟨hn, rfl⟩) he
  exact key _ f hf (Nat.le_refl _)

/-! ### How often a fid is an entry -/
def incM (m : List (Int × Int)) (f : Int) : List (Int × Int) := mput m f (getI m f + 1)
def timesM (fs : List Int) : List (Int × Int) := fs.foldl incM []
def cntF (f : Int) (fs : List Int) : Nat := (fs.filter fun x => x == f).length
theorem timesM_snoc (fs : List Int) (f : Int) : timesM (fs ++ [f]) = incM (timesM fs) f := by unfold timesM; rw [List.foldl_append]; rfl
theorem foldl_inc : ∀ (fs : List Int) (m : List (Int × Int)), RiseM m → RiseM (fs.foldl incM m) ∧ ∀ f, getI (fs.foldl incM m) f = getI m f + cntF f fs
  | [], m, h => ⟨h, fun f => by simp [cntF]⟩
  | x :: fs, m, h => by
    obtain ⟨h1, h2⟩ := foldl_inc fs (incM m x) (mput_rise h)
    refine ⟨h1, fun f => ?_⟩
    rw [List.foldl_cons, h2]
    have hg : getI (incM m x) f = if f = x then getI m x + 1 else getI m f := by
      unfold incM getI
      rw [mget_mput h]
      split <;> rfl
    rw [hg]
    unfold cntF
    rw [List.filter_cons]
    by_cases e : f = x
    · subst e; simp; omega
    · rw [if_neg e, if_neg (by simpa using fun h => e h.symm)]
theorem timesM_get (fs : List Int) (f : Int) : getI (timesM fs) f = cntF f fs := by
  have := (foldl_inc fs [] List.Pairwise.nil).2 f
  unfold timesM
  rw [this]; simp [getI, mget]
theorem cntF_le (f : Int) (fs : List Int) : cntF f fs ≤ fs.length := List.length_filter_le _ _
theorem cntF_none {f : Int} {fs : List Int} (h : f ∉ fs) : cntF f fs = 0 := by
  unfold cntF
  rw [List.filter_eq_nil_iff.2 fun x hx => by
    intro hx2
    rw [eq_of_beq hx2] at hx
    exact h hx]; rfl
theorem cntF_one {f : Int} : ∀ {fs : List Int}, fs.Nodup → f ∈ fs → cntF f fs = 1
  | [], _, h => by cases h
  | x :: fs, hn, h => by
    rw [List.nodup_cons] at hn
    unfold cntF
    rw [List.filter_cons]
    by_cases e : x = f
    · subst e
      have := cntF_none hn.1
      unfold cntF at this
      simp [this]
    · rw [if_neg (by simpa using e)]
      rcases List.mem_cons.1 h with h | h
      · exact absurd h.symm e
      · exact cntF_one hn.2 h
def fidsE (n : Node) : List Int := n.entries.map (·.fid)
def allFids (l : List Node) : List Int := l.flatMap fidsE
theorem wh_nodup {l : List Node} (h : Wh l) : (allFids l).Nodup := by
  unfold allFids List.Nodup
  rw [List.pairwise_flatMap]
  refine ⟨fun n hn => ?_, ?_⟩
  · unfold fidsE
    rw [List.pairwise_map]
    refine ((h.loc n hn).eup).imp_of_mem fun {a b} ha hb hlt e => ?_
    have := (h.one n.fid a.name n.fid b.name a.fid ⟨n, hn, rfl, ha⟩ ⟨n, hn, rfl, by rw [e]; exact hb⟩).2
    rw [this] at hlt
    exact sirr _ hlt
  · refine (h.good.up).imp_of_mem fun {a b} ha hb hlt x hx y hy e => ?_
    obtain ⟨p, hp, rfl⟩ := List.mem_map.1 hx
    obtain ⟨q, hq, rfl⟩ := List.mem_map.1 hy
    have := (h.one a.fid p.name b.fid q.name p.fid ⟨a, ha, rfl, hp⟩ ⟨b, hb, rfl, by rw [e]; exact hq⟩).1
    omega
theorem allFids_mem {l : List Node} {f : Int} : f ∈ allFids l ↔ ∃ d s, Edge l d s f := by
  unfold allFids fidsE
  rw [List.mem_flatMap]
  constructor
  · rintro ⟨n, hn, he⟩
    obtain ⟨e, he2, rfl⟩ := List.mem_map.1 he
    exact ⟨n.fid, e.name, n, hn, rfl, he2⟩
  · rintro ⟨d, s, n, hn, _, he⟩
    exact ⟨n, hn, List.mem_map.2 ⟨_, he, rfl⟩⟩
theorem wh_zero {l : List Node} (h : Wh l) : cntF 0 (allFids l) = 0 := cntF_none fun hm => by
  obtain ⟨d, s, he⟩ := allFids_mem.1 hm
  exact h.noroot d s 0 he rfl
theorem wh_one {l : List Node} (h : Wh l) {f : Int} (hf : FidIn l f) (h0 : f ≠ 0) : cntF f (allFids l) = 1 := cntF_one (wh_nodup h) (allFids_mem.2 (h.par f hf h0))
theorem wh_dir {l : List Node} (h : Wh l) {n : Node} (hn : n ∈ l) (h0 : n.fid = 0) : n.dir = true := by
  obtain ⟨m, hm, hm0, hmd⟩ := h.root
  rw [up_same h.good.up hn hm (h0.trans hm0.symm)]; exact hmd
end La

namespace La
open Go Go.Eng Go.Proofs
set_option maxRecDepth 10000
set_option linter.unusedSimpArgs false
set_option linter.unusedVariables false

theorem rise_ext {α : Type} : ∀ {a b : List (Int × α)}, RiseM a → RiseM b → (∀ p, p ∈ a ↔ p ∈ b) → a = b
  | [], [], _, _, _ => rfl
  | [], q :: b, _, _, h => absurd ((h q).2 List.mem_cons_self) (by simp)
  | p :: a, [], _, _, h => absurd ((h p).1 List.mem_cons_self) (by simp)
  | p :: a, q :: b, ha, hb, h => by
    have ha' := List.pairwise_cons.1 ha
    have hb' := List.pairwise_cons.1 hb
    have hpq : p = q := by
      rcases List.mem_cons.1 ((h p).1 List.mem_cons_self) with e | e
      · exact e
      · rcases List.mem_cons.1 ((h q).2 List.mem_cons_self) with e2 | e2
        · exact e2.symm
        · have h1 := hb'.1 p e
          have h2 := ha'.1 q e2
          omega
    subst hpq
    refine congrArg _ (rise_ext ha'.2 hb'.2 fun r => ?_)
    constructor
    · intro hr
      rcases List.mem_cons.1 ((h r).1 (List.mem_cons_of_mem _ hr)) with e | e
      · subst e; exact absurd (ha'.1 _ hr) (by omega)
      · exact e
    · intro hr
      rcases List.mem_cons.1 ((h r).2 (List.mem_cons_of_mem _ hr)) with e | e
      · subst e; exact absurd (hb'.1 _ hr) (by omega)
      · exact e
def seenM {α : Type} (m : List (Int × α)) (seen : List Int) : List (Int × α) := m.filter fun p => seen.contains p.1
theorem seenM_put {α : Type} {m : List (Int × α)} (h : RiseM m) {n : Int} {v : α} (hm : (n, v) ∈ m) {seen : List Int} : mput (seenM m seen) n v = seenM m (n :: seen) := by
  have hr : RiseM (seenM m seen) := h.filter _
  refine rise_ext (mput_rise hr) (h.filter _) fun p => ?_
  obtain ⟨k, x⟩ := p
  rw [mem_mput hr]
  unfold seenM
  simp only [List.mem_filter, List.contains_cons, Bool.or_eq_true, beq_iff_eq]
  constructor
  · rintro (⟨rfl, rfl⟩ | ⟨h1, h2, h3⟩)
    · exact ⟨hm, .inl rfl⟩
    · exact ⟨h2, .inr h3⟩
  · rintro ⟨h1, h2⟩
    by_cases e : k = n
    · subst e
      have a1 := mget_of_mem h h1
      have a2 := mget_of_mem h hm
      rw [a1] at a2; injection a2 with a2
      exact .inl ⟨rfl, a2⟩
    · rcases h2 with h2 | h2
      · exact absurd h2 e
      · exact .inr ⟨e, h1, h2⟩
theorem seenM_all {α : Type} {m : List (Int × α)} {seen : List Int} (h : ∀ p, p ∈ m → p.1 ∈ seen) : seenM m seen = m := by
  unfold seenM
  exact List.filter_eq_self.2 fun p hp => by simpa using h p hp
def leftM {α : Type} : List (Int × α) → List Int → Nat
  | [], _ => 0
  | p :: r, seen => (if p.1 ∈ seen then 0 else 1) + leftM r seen
theorem leftM_le {α : Type} (n : Int) (seen : List Int) : ∀ m : List (Int × α), leftM m (n :: seen) ≤ leftM m seen
  | [] => Nat.le_refl _
  | p :: r => by
    have ih := leftM_le n seen r
    unfold leftM
    by_cases h : p.1 ∈ seen
    · rw [if_pos h, if_pos (List.mem_cons_of_mem _ h)]; omega
    · rw [if_neg h]; split <;> omega
theorem leftM_lt {α : Type} {n : Int} {v : α} {seen : List Int} : ∀ {m : List (Int × α)}, (n, v) ∈ m → n ∉ seen → leftM m (n :: seen) < leftM m seen
  | [], h, _ => by cases h
  | p :: r, h, hs => by
    have hle := leftM_le n seen r
    unfold leftM
    rcases List.mem_cons.1 h with rfl | h
    · rw [if_pos List.mem_cons_self, if_neg hs]; omega
    · have ih := leftM_lt h hs
      by_cases h2 : p.1 ∈ seen
      · rw [if_pos h2, if_pos (List.mem_cons_of_mem _ h2)]; omega
      · rw [if_neg h2]; split <;> omega
theorem seenM_nil {α : Type} (m : List (Int × α)) : seenM m [] = [] := by unfold seenM; simp
theorem mN_mem {m : List (Int × Node)} {n : Int} {v : AV} (h : (n, v) ∈ mN m) : ∃ nd, v = .agg (nodeRow nd) ∧ (n, nd) ∈ m := by
  obtain ⟨p, hp, e⟩ := List.mem_map.1 h
  injection e with e1 e2
  exact ⟨p.2, e2.symm, by rw [← e1]; exact hp⟩
theorem mN_has {m : List (Int × Node)} {n : Int} {nd : Node} (h : (n, nd) ∈ m) : (n, AV.agg (nodeRow nd)) ∈ mN m := List.mem_map.2 ⟨_, h, rfl⟩
theorem mN_len (m : List (Int × Node)) : (mN m).length = m.length := by simp [mN]
theorem mN_nil : ([] : List (Int × AV)) = mN [] := rfl

set_option maxHeartbeats 2000000 in
theorem with_ok (m : List (Int × Node)) (n : Node) (hr : RiseM m) : FnOK Try.prog 76 [.rm (mN m), .agg (nodeRow n)] [] (fun r _ => r = .rm (mN (mput m n.fid n))) := by
  unfold nodeRow
  refine fn_of_cwW tabOK (Go.Proofs.Try.func76) rfl (fun C => ?_)
  simp only [Go.Proofs.Try.ntmps76, Go.Proofs.Try.results76, go_sem]
  refine cw_go tabOK 99 (by simp only [go_sem]; try exact rfl) (by simp [go_sem]) ?_
  refine cw_range tabOK rfl rfl rfl (by simp only [go_sem]; try exact rfl) (by simp only [go_sem]; try exact rfl) (by simp only [go_sem]; try exact rfl) ?_
  refine cw_go tabOK 99 (by simp only [go_sem]; try exact rfl) (by simp [go_sem]) ?_
  refine cw_loopS (fun _ : List Int => True) (fun seen => leftM m seen) (fun _ => [(6, .any), (7, .any), (11, .any), (12, .any), (13, .any), (14, .any), (15, .any), (16, .any), (17, .any), (18, .any)]) (fun seen => [(8, .map (mN (seenM m seen))), (10, .iter (mN m) seen)]) [] trivial ?_ fun seen _ => ?_
  · simp only [go_sem]
    exact le_sub (by simp [go_sem]) (by simp [go_sem, seenM_nil, mN_nil]) (by simp [go_sem])
  simp only [go_sem]
  refine cw_goR 99 (by simp only [go_sem]; try exact rfl) ?_
  refine cw_next rfl rfl (by simp only [go_sem]; try exact rfl) (by simp only [go_sem]; try exact rfl) (fun hall => ?_) (fun n v hnv hns => ?_)
  · have hsa : seenM m seen = m := seenM_all fun p hp => hall (p.1, .agg (nodeRow p.2)) (mN_has hp)
    rw [hsa]
    simp only [go_sem]
    refine cw_go tabOK 99 (by simp only [go_sem]; try exact rfl) (by simp [go_sem]) ?_
    refine cw_condF (by simp only [go_sem]; try exact rfl) trivial (rfl) ?_
    refine cw_go tabOK 99 (by simp only [go_sem]; try exact rfl) ?_ ?_
    · simp [AV.deepB, AV.pureB]
    rw [show AV.agg [.int .i64 n.fid, .bool n.dir, .sl (n.data.map byteRow), .sl (n.entries.map entryRow), .int .i64 n.version] = .agg (nodeRow n) from rfl, mN_put]
    refine cw_freezeM 8 rfl ?_
    simp only [go_sem]
    refine cw_ret ⟨_, _, (by simp only [go_sem]; try exact rfl), by simp [go_sem], _, .inr (.inl rfl), ?_⟩
    rfl
  · obtain ⟨nd, rfl, hmem⟩ := mN_mem hnv
    have hpt := seenM_put hr hmem (seen := seen)
    have hlt := leftM_lt hmem hns
    simp only [go_sem]
    refine cw_go tabOK 99 (by simp only [go_sem]; try exact rfl) (by simp [go_sem]) ?_
    refine cw_condT (by simp only [go_sem]; try exact rfl) trivial (rfl) ?_
    refine cw_goR 99 (by simp only [go_sem]; try exact rfl) ?_
    refine cw_entry rfl rfl (by simp only [go_sem]; try exact rfl) (by simp only [go_sem]; try exact rfl) (hnv) ?_
    simp only [go_sem]
    refine cw_go tabOK 99 (by simp only [go_sem, nodeRow]; try exact rfl) ?_ ?_
    · simp [nodeRow, AV.deepB, AV.pureB]
    refine cw_back ⟨n :: seen, hlt, le_sub ?_ ?_ ?_⟩
    · simp [go_sem]
    · simp [go_sem, ← hpt, ← mN_put, nodeRow]
    · simp [go_sem]
theorem mdel_seen {α : Type} {m : List (Int × α)} (h : RiseM m) {n : Int} {v : α} (hm : (n, v) ∈ m) (seen : List Int) (fid : Int) :
    (n ≠ fid → mput (mdel (seenM m seen) fid) n v = mdel (seenM m (n :: seen)) fid) ∧ (n = fid → mdel (seenM m seen) fid = mdel (seenM m (n :: seen)) fid) := by
  have hr : RiseM (seenM m seen) := h.filter _
  refine ⟨fun hne => ?_, fun he => ?_⟩
  · rw [← seenM_put h hm]
    refine rise_ext (mput_rise (mdel_rise hr)) (mdel_rise (mput_rise hr)) fun p => ?_
    obtain ⟨k, x⟩ := p
    rw [mem_mput (mdel_rise hr)]
    unfold mdel
    rw [List.mem_filter, List.mem_filter, mem_mput hr]
    simp only [Bool.not_eq_true', beq_eq_false_iff_ne]
    constructor
    · rintro (⟨rfl, rfl⟩ | ⟨h1, h2, h3⟩)
      · exact ⟨.inl ⟨rfl, rfl⟩, hne⟩
      · exact ⟨.inr ⟨h1, h2⟩, h3⟩
    · rintro ⟨⟨rfl, rfl⟩ | ⟨h1, h2⟩, h3⟩
      · exact .inl ⟨rfl, rfl⟩
      · exact .inr ⟨h1, h2, h3⟩
  · subst he
    unfold mdel seenM
    rw [List.filter_filter, List.filter_filter]
    refine List.filter_congr fun p _ => ?_
    simp only [List.contains_cons]
    cases h1 : (p.1 == n) <;> simp
theorem mdel_nil {α : Type} (fid : Int) : mdel ([] : List (Int × α)) fid = [] := rfl
set_option maxHeartbeats 2000000 in
theorem without_ok (m : List (Int × Node)) (fid : Int) (hr : RiseM m) : FnOK Try.prog 80 [.rm (mN m), .int .i64 fid] [] (fun r _ => r = .rm (mN (mdel m fid))) := by
  refine fn_of_cwW tabOK (Go.Proofs.Try.func80) rfl (fun C => ?_)
  simp only [Go.Proofs.Try.ntmps80, Go.Proofs.Try.results80, go_sem]
  refine cw_go tabOK 99 (by simp only [go_sem]; try exact rfl) (by simp [go_sem]) ?_
  refine cw_range tabOK rfl rfl rfl (by simp only [go_sem]; try exact rfl) (by simp only [go_sem]; try exact rfl) (by simp only [go_sem]; try exact rfl) ?_
  refine cw_go tabOK 99 (by simp only [go_sem]; try exact rfl) (by simp [go_sem]) ?_
  refine cw_loopS (fun _ : List Int => True) (fun seen => leftM m seen) (fun _ => [(6, .any), (7, .any), (11, .any), (12, .any), (13, .any), (14, .any), (15, .any), (16, .any), (17, .any), (18, .any), (19, .any), (20, .any), (21, .any)]) (fun seen => [(8, .map (mN (mdel (seenM m seen) fid))), (10, .iter (mN m) seen)]) [] trivial ?_ fun seen _ => ?_
  · simp only [go_sem]
    exact le_sub (by simp [go_sem]) (by simp [go_sem, seenM_nil, mdel_nil, mN_nil]) (by simp [go_sem])
  simp only [go_sem]
  refine cw_goR 99 (by simp only [go_sem]; try exact rfl) ?_
  refine cw_next rfl rfl (by simp only [go_sem]; try exact rfl) (by simp only [go_sem]; try exact rfl) (fun hall => ?_) (fun n v hnv hns => ?_)
  · have hsa : seenM m seen = m := seenM_all fun p hp => hall (p.1, .agg (nodeRow p.2)) (mN_has hp)
    rw [hsa]
    simp only [go_sem]
    refine cw_go tabOK 99 (by simp only [go_sem]; try exact rfl) (by simp [go_sem]) ?_
    refine cw_condF (by simp only [go_sem]; try exact rfl) trivial (rfl) ?_
    refine cw_go tabOK 99 (by simp only [go_sem]; try exact rfl) (by simp [go_sem]) ?_
    refine cw_freezeM 8 rfl ?_
    simp only [go_sem]
    refine cw_ret ⟨_, _, (by simp only [go_sem]; try exact rfl), by simp [go_sem], _, .inr (.inl rfl), ?_⟩
    rfl
  · obtain ⟨nd, rfl, hmem⟩ := mN_mem hnv
    obtain ⟨hp1, hp2⟩ := mdel_seen hr hmem seen fid
    have hlt := leftM_lt hmem hns
    simp only [go_sem]
    refine cw_go tabOK 99 (by simp only [go_sem]; try exact rfl) (by simp [go_sem]) ?_
    refine cw_condT (by simp only [go_sem]; try exact rfl) trivial (rfl) ?_
    refine cw_goR 99 (by simp only [go_sem]; try exact rfl) ?_
    refine cw_entry rfl rfl (by simp only [go_sem]; try exact rfl) (by simp only [go_sem]; try exact rfl) (hnv) ?_
    simp only [go_sem]
    refine cw_go tabOK 99 (by simp only [go_sem, nodeRow]; try exact rfl) ?_ ?_
    · simp [nodeRow]
    by_cases hf : n = fid
    · have hp2 := hp2 hf
      refine cw_condF (by simp only [go_sem]; try exact rfl) trivial (by simp [hf]) ?_
      refine cw_go tabOK 99 (by simp only [go_sem]; try exact rfl) (by simp [go_sem]) ?_
      refine cw_back ⟨n :: seen, hlt, le_sub ?_ ?_ ?_⟩
      · simp [go_sem]
      · simp [go_sem, ← hp2]
      · simp [go_sem]
    · have hp1 := hp1 hf
      refine cw_condT (by simp only [go_sem]; try exact rfl) trivial (by simpa using hf) ?_
      refine cw_go tabOK 99 (by simp only [go_sem, nodeRow]; try exact rfl) ?_ ?_
      · simp [nodeRow, AV.deepB, AV.pureB]
      refine cw_back ⟨n :: seen, hlt, le_sub ?_ ?_ ?_⟩
      · simp [go_sem]
      · simp [go_sem, ← hp1, ← mN_put, nodeRow]
      · simp [go_sem]

/-! ### Names in a directory -/
def rEntryE (l : List Entry) (s : List UInt8) : Option Entry := l.find? fun e => e.name == s
def rEntryR (l : List Entry) (s : List UInt8) : AV := match rEntryE l s with
  | some e => .tup [.int .i64 e.fid, .bool true]
  | none => .tup [.int .i64 0, .bool false]
theorem find_none_take {l : List Entry} {s : List UInt8} (h : ∀ e, e ∈ l → (e.name == s) = false) : rEntryE l s = none := List.find?_eq_none.2 fun e he => by rw [h e he]; simp
theorem find_some_at {l : List Entry} {s : List UInt8} {i : Nat} (hi : i < l.length) (h : ∀ e, e ∈ l.take i → (e.name == s) = false) (hs : ((l.getD i default).name == s) = true) : rEntryE l s = some (l.getD i default) := by
  unfold rEntryE
  have e : l = l.take i ++ (l.getD i default :: l.drop (i + 1)) := by rw [← drop_getD hi, List.take_append_drop]
  conv => lhs; rw [e]
  rw [List.find?_append, List.find?_eq_none.2 (fun e he => by rw [h e he]; simp), Option.none_or, List.find?_cons, hs]
theorem rentry_ok (n : Node) (s : List UInt8) (hn : n.entries.length ≤ 100000000) : FnOK Try.prog 78 [.agg (nodeRow n), .str s] [] (fun r _ => r = rEntryR n.entries s) := by
  unfold rEntryR nodeRow
  refine fn_of_cwW tabOK (Go.Proofs.Try.func78) rfl (fun C => ?_)
  simp only [Go.Proofs.Try.ntmps78, Go.Proofs.Try.results78, go_sem]
  refine cw_go tabOK 99 (by simp only [go_sem]; try exact rfl) (by simp [go_sem]) ?_
  refine cw_loopS (fun i : Nat => i ≤ n.entries.length ∧ ∀ e, e ∈ n.entries.take i → (e.name == s) = false) (fun i => n.entries.length - i) (fun i => [(7, .any), (11, .int .i64 i), (12, .any), (13, .any), (14, .any), (15, .any), (16, .any), (17, .any), (18, .any), (19, .any), (20, .any), (21, .any)]) (fun _ => []) 0 ⟨by omega, by simp⟩ ?_ fun i hi => ?_
  · simp only [go_sem]
    exact le_sub (by simp [go_sem]) (by simp [go_sem]) (by simp [go_sem])
  obtain ⟨hi, hno⟩ := hi
  simp only [go_sem]
  refine cw_go tabOK 99 (by simp only [go_sem]; try exact rfl) (by simp [go_sem]) ?_
  refine cw_cond (by simp only [go_sem]; try exact rfl) trivial (fun h => ?_) (fun h => ?_)
  · have hlt : i < n.entries.length := by simp at h; omega
    have hg : (n.entries.map entryRow).getD i [] = entryRow (n.entries.getD i default) := Fam.getD hlt
    have hw : IntKind.i64.wrap ((i : Int) + 1) = ((i + 1 : Nat) : Int) := by rw [Eng.wrap_small (by omega) (by omega)]; rfl
    have hfs := @find_some_at n.entries s i hlt hno
    have htk := take_succ_getD hlt
    generalize n.entries.getD i default = e at *
    refine cw_go tabOK 99 (by simp only [go_sem, hg, entryRow]; try exact rfl) ?_ ?_
    · simp [hg, entryRow, hlt]
    cases hb : (e.name == s) with
    | true =>
      rw [hfs hb]
      refine cw_condT (by simp only [go_sem]; try exact rfl) trivial (by simp) ?_
      refine cw_go tabOK 99 (by simp only [go_sem]; try exact rfl) (by simp [go_sem]) ?_
      refine cw_ret ⟨_, _, (by simp only [go_sem]; try exact rfl), by simp [go_sem], _, .inr (.inl rfl), ?_⟩
      rfl
    | false =>
      refine cw_condF (by simp only [go_sem]; try exact rfl) trivial (by simp) ?_
      refine cw_go tabOK 99 (by simp only [go_sem, hw]; try exact rfl) (by simp [go_sem, hw]) ?_
      refine cw_back ⟨i + 1, ⟨by omega, ?_⟩, by omega, le_sub ?_ ?_ ?_⟩
      · rw [htk]
        intro x hx
        rcases List.mem_append.1 hx with hx | hx
        · exact hno x hx
        · rw [List.mem_singleton.1 hx]; exact hb
      · simp [go_sem]
      · simp [go_sem]
      · simp [go_sem]
  · have e : i = n.entries.length := by simp at h; omega
    subst e
    rw [List.take_length] at hno
    rw [find_none_take hno]
    refine cw_go tabOK 99 (by simp only [go_sem]; try exact rfl) (by simp [go_sem]) ?_
    refine cw_ret ⟨_, _, (by simp only [go_sem]; try exact rfl), by simp [go_sem], _, .inr (.inl rfl), ?_⟩
    rfl
def rLeaveE (l : List Entry) (s : List UInt8) : List Entry := l.filter fun e => !(e.name == s)
def rLeaveN (n : Node) (s : List UInt8) : Node := { n with entries := rLeaveE n.entries s }
theorem rleave_ok (n : Node) (s : List UInt8) (hn : n.entries.length ≤ 100000000) : FnOK Try.prog 79 [.agg (nodeRow n), .str s] [] (fun r _ => r = .agg (nodeRow (rLeaveN n s))) := by
  have hz : rLeaveE (n.entries.take n.entries.length) s = rLeaveE n.entries s := by rw [List.take_length]
  unfold rLeaveN nodeRow
  simp only
  rw [← hz]
  refine fn_of_cwW tabOK (Go.Proofs.Try.func79) rfl (fun C => ?_)
  simp only [Go.Proofs.Try.ntmps79, Go.Proofs.Try.results79, go_sem]
  refine cw_go tabOK 99 (by simp only [go_sem]; try exact rfl) (by simp [go_sem]) ?_
  refine cw_le (le_empty 22 115 2 (by simp only [go_sem]; try exact rfl)) ?_
  simp only [go_sem]
  refine cw_loopS (fun i : Nat => i ≤ n.entries.length) (fun i => n.entries.length - i) (fun i => [(5, .osl 22 2 0 (rLeaveE (n.entries.take i) s).length), (7, .any), (11, .int .i64 i), (12, .any), (13, .any), (14, .any), (15, .any), (16, .any), (17, .any), (18, .any), (19, .any), (20, .any), (21, .any), (22, .any), (23, .any)]) (fun i => [(22, .cells 115 2 ((rLeaveE (n.entries.take i) s).map entryRow))]) 0 (by omega) ?_ fun i hi => ?_
  · simp only [go_sem]
    exact le_sub (by simp [go_sem, rLeaveE]) (by simp [go_sem, rLeaveE]) (by simp [go_sem])
  simp only [go_sem]
  refine cw_go tabOK 99 (by simp only [go_sem]; try exact rfl) (by simp [go_sem]) ?_
  refine cw_cond (by simp only [go_sem]; try exact rfl) trivial (fun h => ?_) (fun h => ?_)
  · have hlt : i < n.entries.length := by simp at h; omega
    have hg : (n.entries.map entryRow).getD i [] = entryRow (n.entries.getD i default) := Fam.getD hlt
    have hw : IntKind.i64.wrap ((i : Int) + 1) = ((i + 1 : Nat) : Int) := by rw [Eng.wrap_small (by omega) (by omega)]; rfl
    have htk : rLeaveE (n.entries.take (i + 1)) s = if ((n.entries.getD i default).name == s) = true then rLeaveE (n.entries.take i) s else rLeaveE (n.entries.take i) s ++ [n.entries.getD i default] := by
      rw [take_succ_getD hlt]; unfold rLeaveE
      rw [List.filter_append, List.filter_cons]
      cases ((n.entries.getD i default).name == s) <;> simp
    have hll : (rLeaveE (n.entries.take i) s).length ≤ i := by
      have := List.length_filter_le (fun e : Entry => !(e.name == s)) (n.entries.take i)
      unfold rLeaveE
      simp only [List.length_take] at this
      omega
    generalize n.entries.getD i default = e at *
    refine cw_go tabOK 99 (by simp only [go_sem, hg, entryRow]; try exact rfl) ?_ ?_
    · simp [hg, entryRow, hlt]
    cases hb : (e.name == s) with
    | true =>
      rw [hb, if_pos rfl] at htk
      refine cw_condF (by simp only [go_sem]; try exact rfl) trivial (by simp) ?_
      refine cw_go tabOK 99 (by simp only [go_sem, hw]; try exact rfl) (by simp [go_sem, hw]) ?_
      refine cw_back ⟨i + 1, by omega, by omega, le_sub ?_ ?_ ?_⟩
      · simp [go_sem, htk]
      · simp [go_sem, htk]
      · simp [go_sem]
    | false =>
      rw [hb, if_neg Bool.false_ne_true] at htk
      refine cw_condT (by simp only [go_sem]; try exact rfl) trivial (by simp) ?_
      refine cw_go tabOK 99 (by simp only [go_sem, hw]; try exact rfl) ?_ ?_
      · simp [rowsOf]; omega
      refine cw_back ⟨i + 1, by omega, by omega, le_sub ?_ ?_ ?_⟩
      · simp [go_sem, htk]
      · simp [go_sem, htk, entryRow]
      · simp [go_sem]
  · have e : i = n.entries.length := by simp at h; omega
    subst e
    refine cw_go tabOK 99 (by simp only [go_sem]; try exact rfl) (by simp [go_sem]) ?_
    refine cw_freeze 22 rfl (entryRow_pure _) ?_
    simp only [go_sem]
    refine cw_ret ⟨_, _, (by simp only [go_sem]; try exact rfl), by simp [go_sem], _, .inr (.inl rfl), ?_⟩
    simp
end La

namespace La
open Go Go.Eng

theorem get_ext {α : Type} {a b : List (Int × α)} (ha : RiseM a) (hb : RiseM b) (h : ∀ k, mget a k = mget b k) : a = b :=
  rise_ext ha hb fun p => by
    obtain ⟨k, x⟩ := p
    constructor
    · intro hp; exact mget_mem (by rw [← h]; exact mget_of_mem ha hp)
    · intro hp; exact mget_mem (by rw [h]; exact mget_of_mem hb hp)
theorem mget_mdel {α : Type} {m : List (Int × α)} (h : RiseM m) (f k : Int) : mget (mdel m f) k = if k = f then none else mget m k := by
  have hd : RiseM (mdel m f) := mdel_rise h
  have hm : ∀ x, (k, x) ∈ mdel m f ↔ (k, x) ∈ m ∧ k ≠ f := fun x => by
    unfold mdel; rw [List.mem_filter]; simp
  by_cases e : k = f
  · rw [if_pos e]
    cases e1 : mget (mdel m f) k with
    | none => rfl
    | some x => exact absurd e ((hm x).1 (mget_mem e1)).2
  · rw [if_neg e]
    cases e1 : mget m k with
    | none =>
      cases e2 : mget (mdel m f) k with
      | none => rfl
      | some x =>
        have := mget_of_mem h ((hm x).1 (mget_mem e2)).1
        rw [e1] at this; cases this
    | some x => exact mget_of_mem hd ((hm x).2 ⟨mget_mem e1, e⟩)
theorem mapD_put {l : List Node} (h : Up l) (n : Node) : mput (mapD l) n.fid n = mapD (putN l n) :=
  get_ext (mput_rise (mapD_rise l)) (mapD_rise _) fun k => by
    rw [mget_mput (mapD_rise l), mapD_get h, mapD_get (putN_up h n).1, findN_put h]
theorem mapD_del {l : List Node} (h : Up l) (f : Int) : mdel (mapD l) f = mapD (dropN l f) :=
  get_ext (mdel_rise (mapD_rise l)) (mapD_rise _) fun k => by
    rw [mget_mdel (mapD_rise l), mapD_get h, mapD_get (dropN_up h f).1, findN_drop h]
theorem mapD_eq {l : List Node} (h : Up l) : mapD l = l.map fun n => (n.fid, n) := by
  refine rise_ext (mapD_rise l) ?_ fun p => ?_
  · exact List.pairwise_map.2 h
  · obtain ⟨k, x⟩ := p
    rw [List.mem_map]
    constructor
    · intro hp
      have := mget_of_mem (mapD_rise l) hp
      rw [mapD_get h] at this
      obtain ⟨h1, h2⟩ := (findN_some h).1 this
      exact ⟨x, h1, by rw [h2]⟩
    · rintro ⟨n, hn, e⟩
      injection e with e1 e2
      subst e1 e2
      exact mget_mem (by rw [mapD_get h]; exact (findN_some h).2 ⟨hn, rfl⟩)
theorem mapD_len {l : List Node} (h : Up l) : (mapD l).length = l.length := by rw [mapD_eq h, List.length_map]

theorem rEntry_entryN {n : Node} (h : EUp n.entries) (s : List UInt8) : rEntryR n.entries s = match entryN n s with | some f => .tup [.int .i64 f, .bool true] | none => .tup [.int .i64 0, .bool false] := by
  unfold rEntryR
  cases e : rEntryE n.entries s with
  | none =>
    have : entryN n s = none := (entryN_none h).2 fun x hx hn => by
      have := List.find?_eq_none.1 e x hx
      simp [hn] at this
    rw [this]
  | some x =>
    have hx : x ∈ n.entries := List.mem_of_find?_eq_some e
    have hs : x.name = s := by have := List.find?_some e; simpa using this
    have : entryN n s = some x.fid := (entryN_some h).2 (by rw [← hs]; exact hx)
    rw [this]

def entS (s : List UInt8) (f : Int) (q : Bool × List Entry) (e : Entry) : Bool × List Entry := if (!q.1 && Op.bytesLess s e.name) = true then (true, q.2 ++ [⟨s, f⟩] ++ [e]) else (q.1, q.2 ++ [e])
def entT (s : List UInt8) (f : Int) (l : List Entry) : Bool × List Entry := l.foldl (entS s f) (false, [])
def rEnterE (l : List Entry) (s : List UInt8) (f : Int) : List Entry := if (entT s f (rLeaveE l s)).1 = true then (entT s f (rLeaveE l s)).2 else (entT s f (rLeaveE l s)).2 ++ [⟨s, f⟩]
def rEnterN (n : Node) (s : List UInt8) (f : Int) : Node := { n with entries := rEnterE n.entries s f }
theorem entT_len (s : List UInt8) (f : Int) (l : List Entry) : (entT s f l).2.length ≤ 2 * l.length := by
  have : ∀ (l : List Entry) (q : Bool × List Entry), (l.foldl (entS s f) q).2.length ≤ q.2.length + 2 * l.length := fun l => by
    induction l with
    | nil => intro q; simp
    | cons e r ih =>
      intro q
      have h1 := ih (entS s f q e)
      have h2 : (entS s f q e).2.length ≤ q.2.length + 2 := by unfold entS; split <;> simp
      rw [List.foldl_cons, List.length_cons]
      omega
  have := this l (false, [])
  simpa [entT] using this
theorem entT_snoc (s : List UInt8) (f : Int) (l : List Entry) (e : Entry) : entT s f (l ++ [e]) = entS s f (entT s f l) e := by unfold entT; rw [List.foldl_append]; rfl

theorem entS_low (s : List UInt8) (f : Int) : ∀ (l : List Entry) (b : Bool) (q : List Entry), (∀ e, e ∈ l → e.name < s) → l.foldl (entS s f) (b, q) = (b, q ++ l)
  | [], b, q, _ => by simp
  | e :: r, b, q, h => by
    have h1 := h e List.mem_cons_self
    have h2 : Op.bytesLess s e.name = false := by
      rw [less_iff]
      exact decide_eq_false fun h3 => sirr _ (strans h1 h3)
    rw [List.foldl_cons, show entS s f (b, q) e = (b, q ++ [e]) from by simp [entS, h2], entS_low s f r b _ fun x hx => h x (List.mem_cons_of_mem _ hx)]
    simp
theorem entS_true (s : List UInt8) (f : Int) : ∀ (l : List Entry) (q : List Entry), l.foldl (entS s f) (true, q) = (true, q ++ l)
  | [], q => by simp
  | e :: r, q => by
    rw [List.foldl_cons, show entS s f (true, q) e = (true, q ++ [e]) from by simp [entS], entS_true s f r]
    simp
theorem rEnter_enter {l : List Entry} (h : EUp l) {s : List UInt8} (hs : isE l s = false) (f : Int) : rEnterE l s f = enterE l s f := by
  obtain ⟨h1, h2⟩ := h.parts hs
  have hlv : rLeaveE l s = l := by
    unfold rLeaveE
    refine List.filter_eq_self.2 fun e he => ?_
    have : e.name ≠ s := fun hn => by
      have := (isE_iff h s).2 ⟨e, he, hn⟩
      rw [hs] at this; cases this
    simpa using this
  unfold rEnterE
  rw [hlv]
  unfold enterE
  rw [hs, if_neg (show ¬ (false = true) by simp)]
  have hl : entT s f l = (l.drop (eplace l s)).foldl (entS s f) (false, l.take (eplace l s)) := by
    unfold entT
    conv => lhs; rw [← List.take_append_drop (eplace l s) l]
    rw [List.foldl_append, entS_low s f _ false [] h1]
    simp
  rw [hl]
  generalize hd : l.drop (eplace l s) = d at h2 ⊢
  cases d with
  | nil => simp
  | cons e r =>
    have h3 : Op.bytesLess s e.name = true := by rw [less_iff]; exact decide_eq_true (h2 e List.mem_cons_self)
    rw [List.foldl_cons, show entS s f (false, l.take (eplace l s)) e = (true, l.take (eplace l s) ++ [⟨s, f⟩] ++ [e]) from by simp [entS, h3], entS_true]
    simp
theorem rEnterN_enterN {n : Node} (h : EUp n.entries) {s : List UInt8} (hs : isE n.entries s = false) (f : Int) : rEnterN n s f = enterN n s f := by
  unfold rEnterN enterN; rw [rEnter_enter h hs]

open Classical in
noncomputable def rRenameE (l : List Node) (a : Act) : Int := if namedE l a = 0 then (if dirE l a.to = 0 then (if roomE (toN l a) a.toName = 0 then (if isAt l a.fid = true then (if decide (MReach (mapD l) a.fid a.to) = true then 11 else 0) else 12) else roomE (toN l a) a.toName) else dirE l a.to) else namedE l a
noncomputable def rRenameL (l : List Node) (a : Act) (v : Int) : List Node := if rRenameE l a = 0 then putN (if a.to = a.dir then l else putN l { leaveN (getN l a.dir) a.name with version := v }) { enterN (toN l a) a.toName a.fid with version := v } else l
noncomputable def rApplyE (l : List Node) (a : Act) : Int := if a.kind = 1 then makeE l a else if a.kind = 2 then makeE l a else if a.kind = 3 then storeE l a else if a.kind = 4 then removeE l a else if a.kind = 5 then rRenameE l a else 1
noncomputable def rApplyL (l : List Node) (a : Act) (v : Int) : List Node := if a.kind = 1 then makeL l a v else if a.kind = 2 then makeL l a v else if a.kind = 3 then storeL l a v else if a.kind = 4 then removeL l a v else if a.kind = 5 then rRenameL l a v else l
noncomputable def rApplyA (l : List Node) (a : Act) (v : Int) : AV := if rApplyE l a = 0 then .tup [.rm (mN (mapD (rApplyL l a v))), .int .i64 0] else .tup [.nilm, .int .i64 (rApplyE l a)]

/-- trees as the reference's are: nodes rise, names rise in each -/
structure Ri (l : List Node) : Prop where
  up : Up l
  eup : ∀ n, n ∈ l → EUp n.entries
theorem Ri.find {l : List Node} (h : Ri l) (k : Int) : EUp (getN l k).entries := by
  unfold getN
  cases e : findN l k with
  | none => exact List.Pairwise.nil
  | some n => exact h.eup n ((findN_some h.up).1 e).1
theorem Ri.put {l : List Node} (h : Ri l) {n : Node} (hn : EUp n.entries) : Ri (putN l n) :=
  ⟨(putN_up h.up n).1, fun m hm => by
    rcases pmem hm with rfl | hm
    · exact hn
    · exact h.eup m hm⟩
theorem Ri.drop {l : List Node} (h : Ri l) (f : Int) : Ri (dropN l f) := ⟨(dropN_up h.up f).1, fun m hm => h.eup m (((dropN_up h.up f).2 m).1 hm).1⟩
theorem Ri.to {l : List Node} (h : Ri l) (a : Act) : EUp (toN l a).entries := by
  unfold toN
  split
  · exact leave_up (h.find _) _
  · exact h.find _
theorem Ri.apply {l : List Node} (h : Ri l) (a : Act) (v : Int) : Ri (rApplyL l a v) := by
  have hmk : Ri (makeL l a v) := by
    unfold makeL
    split
    · rename_i he
      unfold makeE at he
      split at he
      · split at he
        · rename_i hr
          refine (h.put ?_).put List.Pairwise.nil
          exact (enterE_up (h.find _) (roomE_free hr).2 _).1
        · rename_i hr; exact absurd he hr
      · rename_i hr; exact absurd he hr
    · exact h
  unfold rApplyL
  split
  · exact hmk
  · split
    · exact hmk
    · split
      · unfold storeL
        split
        · exact h.put (h.find _)
        · exact h
      · split
        · unfold removeL
          split
          · exact (h.put (leave_up (h.find _) _)).drop _
          · exact h
        · split
          · unfold rRenameL
            split
            · rename_i he
              have hr : roomE (toN l a) a.toName = 0 := by
                unfold rRenameE at he
                split at he
                · split at he
                  · split at he
                    · assumption
                    · rename_i hr; exact absurd he hr
                  · rename_i hr; exact absurd he hr
                · rename_i hr; exact absurd he hr
              refine Ri.put ?_ (enterE_up (h.to a) (roomE_free hr).2 _).1
              split
              · exact h
              · exact h.put (leave_up (h.find _) _)
            · exact h
          · exact h
end La

namespace La
open Go Go.Eng

/-! ### When an act goes -/
theorem room0 (n : Node) (s : List UInt8) : roomE n s = 0 ↔ nameB s = true ∧ isE n.entries s = false ∧ n.entries.length < 6 := by
  unfold roomE
  cases nameB s <;> cases isE n.entries s <;> simp <;> omega
theorem dir0 (l : List Node) (k : Int) : dirE l k = 0 ↔ ∃ d, findN l k = some d ∧ d.dir = true := by
  unfold dirE
  cases e : findN l k with
  | none => simp
  | some d => cases hd : d.dir <;> simp [hd]
theorem getN_of {l : List Node} {k : Int} {d : Node} (h : findN l k = some d) : getN l k = d := by unfold getN; rw [h]; rfl
theorem make0 (l : List Node) (a : Act) : makeE l a = 0 ↔ ∃ d, findN l a.dir = some d ∧ d.dir = true ∧ roomE d a.name = 0 ∧ findN l a.fid = none ∧ a.fid ≠ 0 ∧ l.length < 24 := by
  unfold makeE
  constructor
  · intro h
    by_cases h1 : dirE l a.dir = 0
    · rw [if_pos h1] at h
      obtain ⟨d, hd, hdd⟩ := (dir0 _ _).1 h1
      rw [getN_of hd] at h
      by_cases h2 : roomE d a.name = 0
      · rw [if_pos h2] at h
        by_cases h3 : (isAt l a.fid || a.fid == 0) = true
        · rw [if_pos h3] at h; cases h
        · rw [if_neg h3] at h
          by_cases h4 : l.length ≥ 24
          · rw [if_pos h4] at h; cases h
          · rw [isAt_eq] at h3
            cases e : findN l a.fid with
            | none => rw [e] at h3; exact ⟨d, hd, hdd, h2, rfl, by simpa using h3, by omega⟩
            | some x => rw [e] at h3; simp at h3
      · rw [if_neg h2] at h; exact absurd h h2
    · rw [if_neg h1] at h; exact absurd h h1
  · rintro ⟨d, hd, hdd, h2, h3, h4, h5⟩
    rw [if_pos ((dir0 _ _).2 ⟨d, hd, hdd⟩), getN_of hd, if_pos h2, if_neg (by rw [isAt_eq, h3]; simpa using h4), if_neg (by omega)]
theorem store0 (l : List Node) (a : Act) : storeE l a = 0 ↔ ∃ x, findN l a.fid = some x ∧ x.dir = false ∧ a.data.length ≤ 20 := by
  unfold storeE
  cases e : findN l a.fid with
  | none => simp
  | some x => cases hd : x.dir <;> simp [hd]
theorem named0 (l : List Node) (a : Act) : namedE l a = 0 ↔ ∃ d, findN l a.dir = some d ∧ d.dir = true ∧ entryN d a.name = some a.fid := by
  unfold namedE
  constructor
  · intro h
    by_cases h1 : dirE l a.dir = 0
    · rw [if_pos h1] at h
      obtain ⟨d, hd, hdd⟩ := (dir0 _ _).1 h1
      rw [getN_of hd] at h
      refine ⟨d, hd, hdd, ?_⟩
      cases e : entryN d a.name with
      | none => rw [e] at h; cases h
      | some f =>
        rw [e] at h
        by_cases hf : f = a.fid
        · rw [hf]
        · simp only [hf, if_false] at h; cases h
    · rw [if_neg h1] at h; exact absurd h h1
  · rintro ⟨d, hd, hdd, h2⟩
    rw [if_pos ((dir0 _ _).2 ⟨d, hd, hdd⟩), getN_of hd, h2]
    simp
theorem remove0 (l : List Node) (a : Act) : removeE l a = 0 ↔ ∃ d x, findN l a.dir = some d ∧ d.dir = true ∧ entryN d a.name = some a.fid ∧ findN l a.fid = some x ∧ x.entries = [] := by
  unfold removeE
  constructor
  · intro h
    by_cases h1 : namedE l a = 0
    · rw [if_pos h1] at h
      obtain ⟨d, hd, hdd, h2⟩ := (named0 _ _).1 h1
      cases e : findN l a.fid with
      | none => rw [e] at h; cases h
      | some x =>
        rw [e] at h
        simp only at h
        by_cases hx : x.entries.length > 0
        · rw [if_pos hx] at h; cases h
        · exact ⟨d, x, hd, hdd, h2, rfl, List.eq_nil_of_length_eq_zero (by omega)⟩
    · rw [if_neg h1] at h; exact absurd h h1
  · rintro ⟨d, x, hd, hdd, h2, h3, h4⟩
    rw [if_pos ((named0 _ _).2 ⟨d, hd, hdd, h2⟩), h3]
    simp [h4]
def toD (a : Act) (d t : Node) : Node := if a.to = a.dir then leaveN d a.name else t
theorem toN_of {l : List Node} {a : Act} {d t : Node} (hd : findN l a.dir = some d) (ht : findN l a.to = some t) : toN l a = toD a d t := by
  unfold toN toD; rw [getN_of hd, getN_of ht]
theorem rename0 (l : List Node) (a : Act) : rRenameE l a = 0 ↔ ∃ d t x, findN l a.dir = some d ∧ d.dir = true ∧ entryN d a.name = some a.fid ∧ findN l a.to = some t ∧ t.dir = true ∧ roomE (toD a d t) a.toName = 0 ∧ findN l a.fid = some x ∧ ¬ MReach (mapD l) a.fid a.to := by
  unfold rRenameE
  constructor
  · intro h
    by_cases h1 : namedE l a = 0
    · rw [if_pos h1] at h
      obtain ⟨d, hd, hdd, h2⟩ := (named0 _ _).1 h1
      by_cases h3 : dirE l a.to = 0
      · rw [if_pos h3] at h
        obtain ⟨t, ht, htd⟩ := (dir0 _ _).1 h3
        rw [toN_of hd ht] at h
        by_cases h4 : roomE (toD a d t) a.toName = 0
        · rw [if_pos h4] at h
          rw [isAt_eq] at h
          cases e : findN l a.fid with
          | none => rw [e] at h; simp at h
          | some x =>
            rw [e] at h
            refine ⟨d, t, x, hd, hdd, h2, ht, htd, h4, rfl, fun hm => ?_⟩
            simp [hm] at h
        · rw [if_neg h4] at h; exact absurd h h4
      · rw [if_neg h3] at h; exact absurd h h3
    · rw [if_neg h1] at h; exact absurd h h1
  · rintro ⟨d, t, x, hd, hdd, h2, ht, htd, h4, hx, hm⟩
    rw [if_pos ((named0 _ _).2 ⟨d, hd, hdd, h2⟩), if_pos ((dir0 _ _).2 ⟨t, ht, htd⟩), toN_of hd ht, if_pos h4, isAt_eq, hx]
    simp [hm]

/-! ### Trees alike: but for versions, some bytes, one name and its node -/
structure TP where
  f : Option Int
  dat : Int → Prop
  D : Option Int
  n : List UInt8
def entA (P : TP) (x : Node) : List Entry := if P.D = some x.fid then leaveE x.entries P.n else x.entries
structure NR (P : TP) (x y : Node) : Prop where
  fid : y.fid = x.fid
  dir : y.dir = x.dir
  data : P.dat x.fid → y.data = x.data
  ent : y.entries = entA P x
def TR (P : TP) (l l' : List Node) : Prop := ∀ k, (P.f = some k → findN l' k = none) ∧ (P.f ≠ some k → (findN l k = none ∧ findN l' k = none) ∨ ∃ x y, findN l k = some x ∧ findN l' k = some y ∧ NR P x y)
theorem TR.at {P : TP} {l l' : List Node} (h : TR P l l') {k : Int} (hk : P.f ≠ some k) {x : Node} (hx : findN l k = some x) : ∃ y, findN l' k = some y ∧ NR P x y := by
  rcases (h k).2 hk with ⟨h1, _⟩ | ⟨x', y, h1, h2, h3⟩
  · rw [hx] at h1; cases h1
  · rw [hx] at h1; injection h1 with h1; subst h1; exact ⟨y, h2, h3⟩
theorem TR.no {P : TP} {l l' : List Node} (h : TR P l l') {k : Int} (hx : findN l k = none) : findN l' k = none := by
  by_cases hk : P.f = some k
  · exact (h k).1 hk
  · rcases (h k).2 hk with ⟨_, h1⟩ | ⟨x', y, h1, h2, h3⟩
    · exact h1
    · rw [hx] at h1; cases h1
theorem TR.back {P : TP} {l l' : List Node} (h : TR P l l') {k : Int} {y : Node} (hy : findN l' k = some y) : P.f ≠ some k ∧ ∃ x, findN l k = some x ∧ NR P x y := by
  have hk : P.f ≠ some k := fun hk => by rw [(h k).1 hk] at hy; cases hy
  refine ⟨hk, ?_⟩
  rcases (h k).2 hk with ⟨_, h1⟩ | ⟨x', y', h1, h2, h3⟩
  · rw [hy] at h1; cases h1
  · rw [hy] at h2; injection h2 with h2; subst h2; exact ⟨x', h1, h3⟩
theorem TR.put {P : TP} {l l' : List Node} (hu : Up l) (hu' : Up l') (h : TR P l l') {x y : Node} (hn : NR P x y) (hk : P.f ≠ some x.fid) : TR P (putN l x) (putN l' y) := fun k => by
  rw [findN_put hu, findN_put hu', hn.fid]
  by_cases e : k = x.fid
  · subst e
    exact ⟨fun h1 => absurd h1 hk, fun _ => .inr ⟨x, y, by rw [if_pos rfl], by rw [if_pos rfl], hn⟩⟩
  · rw [if_neg e, if_neg e]; exact h k
theorem TR.drop {P : TP} {l l' : List Node} (hu : Up l) (hu' : Up l') (h : TR P l l') (g : Int) : TR P (dropN l g) (dropN l' g) := fun k => by
  rw [findN_drop hu, findN_drop hu']
  by_cases e : k = g
  · rw [if_pos e, if_pos e]; exact ⟨fun _ => rfl, fun _ => .inl ⟨rfl, rfl⟩⟩
  · rw [if_neg e, if_neg e]; exact h k
theorem sub_len : ∀ (a b : List Int), a.Pairwise (· < ·) → b.Pairwise (· < ·) → (∀ x, x ∈ a → x ∈ b) → a.length ≤ b.length
  | [], b, _, _, _ => by simp
  | x :: a, b, ha, hb, h => by
    obtain ⟨b1, b2, rfl⟩ := List.append_of_mem (h x List.mem_cons_self)
    have ha' := List.pairwise_cons.1 ha
    have hb' := List.pairwise_append.1 hb
    have := sub_len a b2 ha'.2 (List.pairwise_cons.1 hb'.2.1).2 fun z hz => by
      have h1 := ha'.1 z hz
      rcases List.mem_append.1 (h z (List.mem_cons_of_mem _ hz)) with h2 | h2
      · have := hb'.2.2 z h2 x List.mem_cons_self; omega
      · rcases List.mem_cons.1 h2 with h3 | h3
        · omega
        · exact h3
    simp only [List.length_append, List.length_cons]
    omega
theorem TR.len {P : TP} {l l' : List Node} (hu : Up l) (hu' : Up l') (h : TR P l l') : l'.length ≤ l.length := by
  have hp : ∀ {m : List Node}, Up m → (m.map fun n => n.fid).Pairwise (· < ·) := fun hm => List.pairwise_map.2 hm
  have := sub_len (l'.map fun n => n.fid) (l.map fun n => n.fid) (hp hu') (hp hu) fun k hk => by
    obtain ⟨y, hy, rfl⟩ := List.mem_map.1 hk
    obtain ⟨_, x, hx, hn⟩ := h.back ((findN_some hu').2 ⟨hy, rfl⟩)
    obtain ⟨h1, h2⟩ := (findN_some hu).1 hx
    exact List.mem_map.2 ⟨x, h1, h2⟩
  simpa using this

theorem entA_sub {P : TP} {x : Node} {e : Entry} (h : e ∈ entA P x) : e ∈ x.entries := by
  unfold entA at h
  split at h
  · exact leaveE_mem h
  · exact h
theorem TR.reach {P : TP} {l l' : List Node} (hu : Up l) (hu' : Up l') (h : TR P l l') {a b : Int} (hr : MReach (mapD l') a b) : MReach (mapD l) a b := by
  induction hr with
  | refl => exact .refl
  | step hr hn he ih =>
    rw [mapD_get hu'] at hn
    obtain ⟨_, x, hx, hxy⟩ := h.back hn
    rw [hxy.ent] at he
    exact .step ih (by rw [mapD_get hu]; exact hx) (entA_sub he)

theorem eup_ext : ∀ {a b : List Entry}, EUp a → EUp b → (∀ e, e ∈ a ↔ e ∈ b) → a = b
  | [], [], _, _, _ => rfl
  | [], q :: b, _, _, h => absurd ((h q).2 List.mem_cons_self) (by simp)
  | p :: a, [], _, _, h => absurd ((h p).1 List.mem_cons_self) (by simp)
  | p :: a, q :: b, ha, hb, h => by
    have ha' := List.pairwise_cons.1 ha
    have hb' := List.pairwise_cons.1 hb
    have hpq : p = q := by
      rcases List.mem_cons.1 ((h p).1 List.mem_cons_self) with e | e
      · exact e
      · rcases List.mem_cons.1 ((h q).2 List.mem_cons_self) with e2 | e2
        · exact e2.symm
        · exact absurd (strans (hb'.1 p e) (ha'.1 q e2)) (sirr _)
    subst hpq
    refine congrArg _ (eup_ext ha'.2 hb'.2 fun r => ?_)
    constructor
    · intro hr
      rcases List.mem_cons.1 ((h r).1 (List.mem_cons_of_mem _ hr)) with e | e
      · subst e; exact absurd (ha'.1 _ hr) (sirr _)
      · exact e
    · intro hr
      rcases List.mem_cons.1 ((h r).2 (List.mem_cons_of_mem _ hr)) with e | e
      · subst e; exact absurd (hb'.1 _ hr) (sirr _)
      · exact e
theorem leave_leave (l : List Entry) (s t : List UInt8) : leaveE (leaveE l s) t = leaveE (leaveE l t) s := by
  unfold leaveE
  rw [List.filter_filter, List.filter_filter]
  exact List.filter_congr fun e _ => Bool.and_comm _ _
theorem leave_enter {l : List Entry} (h : EUp l) {s t : List UInt8} (hs : isE l s = false) (hst : s ≠ t) (f : Int) : leaveE (enterE l s f) t = enterE (leaveE l t) s f ∧ isE (leaveE l t) s = false := by
  have hl : EUp (leaveE l t) := leave_up h t
  have hi : isE (leaveE l t) s = false := by
    cases e : isE (leaveE l t) s with
    | false => rfl
    | true =>
      obtain ⟨x, hx, hn⟩ := (isE_iff hl s).1 e
      rw [(isE_iff h s).2 ⟨x, leaveE_mem hx, hn⟩] at hs
      cases hs
  refine ⟨?_, hi⟩
  obtain ⟨a1, a2, _⟩ := enterE_up h hs f
  obtain ⟨b1, b2, _⟩ := enterE_up hl hi f
  refine eup_ext (leave_up a1 t) b1 fun e => ?_
  obtain ⟨m, g⟩ := e
  rw [b2, leave_mem, a2, leave_mem]
  constructor
  · rintro ⟨h1 | h1, h2⟩
    · exact .inl h1
    · exact .inr ⟨h1, h2⟩
  · rintro (h1 | ⟨h1, h2⟩)
    · exact ⟨.inl h1, by injection h1 with h3 _; rw [h3]; exact hst⟩
    · exact ⟨.inr h1, h2⟩

/-- a name of a directory that may be touched -/
def Free (P : TP) (d : Int) (s : List UInt8) : Prop := ¬ (P.D = some d ∧ s = P.n)
theorem NR.entry {P : TP} {x y : Node} (h : NR P x y) (hx : EUp x.entries) {s : List UInt8} (hf : Free P x.fid s) : entryN y s = entryN x s := by
  have hy : EUp y.entries := by
    rw [h.ent]; unfold entA
    split
    · exact leave_up hx _
    · exact hx
  have hm : ∀ g, (⟨s, g⟩ : Entry) ∈ y.entries ↔ (⟨s, g⟩ : Entry) ∈ x.entries := fun g => by
    rw [h.ent]; unfold entA
    split
    · rename_i hD
      rw [leave_mem]
      exact ⟨fun h1 => h1.1, fun h1 => ⟨h1, fun h2 => hf ⟨hD, h2⟩⟩⟩
    · exact Iff.rfl
  cases e : entryN x s with
  | some g => exact (entryN_some hy).2 ((hm g).2 ((entryN_some hx).1 e))
  | none =>
    refine (entryN_none hy).2 fun z hz hn => ?_
    obtain ⟨zn, zf⟩ := z
    simp only at hn
    subst hn
    exact (entryN_none hx).1 e _ ((hm zf).1 hz) rfl
theorem NR.isE {P : TP} {x y : Node} (h : NR P x y) (hx : EUp x.entries) {s : List UInt8} (hf : Free P x.fid s) : isE y.entries s = isE x.entries s := by
  have := h.entry hx hf
  have h1 : ∀ n : Node, La.isE n.entries s = (entryN n s).isSome := fun n => by
    unfold entryN; split
    · rename_i h; rw [h]; rfl
    · rename_i h; simpa using h
  rw [h1, h1, this]
theorem NR.elen {P : TP} {x y : Node} (h : NR P x y) : y.entries.length ≤ x.entries.length := by
  rw [h.ent]; unfold entA
  split
  · exact leaveE_len _ _
  · exact Nat.le_refl _
theorem NR.room {P : TP} {x y : Node} (h : NR P x y) (hx : EUp x.entries) {s : List UInt8} (hf : Free P x.fid s) (hr : roomE x s = 0) : roomE y s = 0 := by
  obtain ⟨h1, h2, h3⟩ := (room0 _ _).1 hr
  exact (room0 _ _).2 ⟨h1, by rw [h.isE hx hf]; exact h2, by have := h.elen; omega⟩
theorem NR.leave {P : TP} {x y : Node} (h : NR P x y) (s : List UInt8) (v : Int) : NR P { leaveN x s with version := v } { leaveN y s with version := v } := by
  refine ⟨h.fid, h.dir, h.data, ?_⟩
  show leaveE y.entries s = entA P { leaveN x s with version := v }
  rw [h.ent]; unfold entA
  show leaveE (if P.D = some x.fid then _ else _) s = if P.D = some x.fid then leaveE (leaveE x.entries s) P.n else leaveE x.entries s
  split
  · exact leave_leave _ _ _
  · rfl
theorem NR.enter {P : TP} {x y : Node} (h : NR P x y) (hx : EUp x.entries) {s : List UInt8} (hi : La.isE x.entries s = false) (hf : Free P x.fid s) (g : Int) (v : Int) : NR P { enterN x s g with version := v } { enterN y s g with version := v } := by
  refine ⟨h.fid, h.dir, h.data, ?_⟩
  show enterE y.entries s g = entA P { enterN x s g with version := v }
  rw [h.ent]; unfold entA
  show enterE (if P.D = some x.fid then _ else _) s g = if P.D = some x.fid then leaveE (enterE x.entries s g) P.n else enterE x.entries s g
  split
  · rename_i hD
    exact (leave_enter hx hi (fun e => hf ⟨hD, e⟩) g).1.symm
  · rfl
theorem NR.leave' {P : TP} {x y : Node} (h : NR P x y) (s : List UInt8) : NR P (leaveN x s) (leaveN y s) := by
  refine ⟨h.fid, h.dir, h.data, ?_⟩
  show leaveE y.entries s = entA P (leaveN x s)
  rw [h.ent]; unfold entA
  show leaveE (if P.D = some x.fid then _ else _) s = if P.D = some x.fid then leaveE (leaveE x.entries s) P.n else leaveE x.entries s
  split
  · exact leave_leave _ _ _
  · rfl

structure Can (P : TP) (a : Act) : Prop where
  fids : ∀ k, k ∈ fids a → P.f ≠ some k
  name : a.kind ≠ 3 → Free P a.dir a.name
  toName : a.kind = 5 → Free P a.to a.toName
theorem fids_fid (a : Act) : a.fid ∈ fids a := by unfold fids; split <;> (try split) <;> simp
theorem fids_dir {a : Act} (h : a.kind ≠ 3) : a.dir ∈ fids a := by unfold fids; rw [if_neg h]; split <;> simp
theorem fids_to {a : Act} (h : a.kind = 5) : a.to ∈ fids a := by unfold fids; rw [if_neg (by omega), if_pos h]; simp

theorem tr_make {P : TP} {l l' : List Node} (hl : Ri l) (hl' : Ri l') (h : TR P l l') {a : Act} (hk : a.kind ≠ 3) (hc : Can P a) (he : makeE l a = 0) : makeE l' a = 0 ∧ TR P (makeL l a 0) (makeL l' a 0) := by
  obtain ⟨d, hd, hdd, hr, hn, h0, hlen⟩ := (make0 _ _).1 he
  have kd := hc.fids _ (fids_dir hk)
  have kf := hc.fids _ (fids_fid a)
  obtain ⟨d', hd', hdn⟩ := h.at kd hd
  have hdf := ((findN_some hl.up).1 hd).2
  have hde := hl.eup d ((findN_some hl.up).1 hd).1
  have hfr : Free P d.fid a.name := by rw [hdf]; exact hc.name hk
  have he' : makeE l' a = 0 := (make0 _ _).2 ⟨d', hd', by rw [hdn.dir]; exact hdd, hdn.room hde hfr hr, h.no hn, h0, by have := h.len hl.up hl'.up; omega⟩
  refine ⟨he', ?_⟩
  unfold makeL
  rw [if_pos he, if_pos he', getN_of hd, getN_of hd']
  have hen := hdn.enter hde ((room0 _ _).1 hr).2.1 hfr a.fid 0
  refine TR.put (putN_up hl.up _).1 (putN_up hl'.up _).1 (TR.put hl.up hl'.up h hen (by show P.f ≠ some d.fid; rw [hdf]; exact kd)) ⟨rfl, rfl, fun _ => rfl, ?_⟩ kf
  unfold entA madeN
  split <;> rfl
theorem tr_store {P : TP} {l l' : List Node} (hl : Ri l) (hl' : Ri l') (h : TR P l l') {a : Act} (hc : Can P a) (he : storeE l a = 0) : storeE l' a = 0 ∧ TR P (storeL l a 0) (storeL l' a 0) := by
  obtain ⟨x, hx, hxd, hn⟩ := (store0 _ _).1 he
  have kf := hc.fids _ (fids_fid a)
  obtain ⟨y, hy, hxy⟩ := h.at kf hx
  have hxf := ((findN_some hl.up).1 hx).2
  have he' : storeE l' a = 0 := (store0 _ _).2 ⟨y, hy, by rw [hxy.dir]; exact hxd, hn⟩
  refine ⟨he', ?_⟩
  unfold storeL
  rw [if_pos he, if_pos he', getN_of hx, getN_of hy]
  exact TR.put hl.up hl'.up h ⟨hxy.fid, hxy.dir, fun _ => rfl, hxy.ent⟩ (by show P.f ≠ some x.fid; rw [hxf]; exact kf)
theorem tr_remove {P : TP} {l l' : List Node} (hl : Ri l) (hl' : Ri l') (h : TR P l l') {a : Act} (hk : a.kind ≠ 3) (hc : Can P a) (he : removeE l a = 0) : removeE l' a = 0 ∧ TR P (removeL l a 0) (removeL l' a 0) := by
  obtain ⟨d, x, hd, hdd, hen, hx, hxe⟩ := (remove0 _ _).1 he
  have kd := hc.fids _ (fids_dir hk)
  have kf := hc.fids _ (fids_fid a)
  obtain ⟨d', hd', hdn⟩ := h.at kd hd
  obtain ⟨y, hy, hxy⟩ := h.at kf hx
  have hdf := ((findN_some hl.up).1 hd).2
  have hde := hl.eup d ((findN_some hl.up).1 hd).1
  have hfr : Free P d.fid a.name := by rw [hdf]; exact hc.name hk
  have hye : y.entries = [] := by
    have := hxy.elen
    rw [hxe] at this
    exact List.eq_nil_of_length_eq_zero (by simpa using this)
  have he' : removeE l' a = 0 := (remove0 _ _).2 ⟨d', y, hd', by rw [hdn.dir]; exact hdd, by rw [hdn.entry hde hfr]; exact hen, hy, hye⟩
  refine ⟨he', ?_⟩
  unfold removeL
  rw [if_pos he, if_pos he', getN_of hd, getN_of hd']
  exact TR.drop (putN_up hl.up _).1 (putN_up hl'.up _).1 (TR.put hl.up hl'.up h (hdn.leave _ _) (by show P.f ≠ some d.fid; rw [hdf]; exact kd)) _
theorem tr_rename {P : TP} {l l' : List Node} (hl : Ri l) (hl' : Ri l') (h : TR P l l') {a : Act} (hk : a.kind = 5) (hc : Can P a) (he : rRenameE l a = 0) : rRenameE l' a = 0 ∧ TR P (rRenameL l a 0) (rRenameL l' a 0) := by
  obtain ⟨d, t, x, hd, hdd, hen, ht, htd, hr, hx, hm⟩ := (rename0 _ _).1 he
  have kd := hc.fids _ (fids_dir (a := a) (by omega))
  have kf := hc.fids _ (fids_fid a)
  have kt := hc.fids _ (fids_to hk)
  obtain ⟨d', hd', hdn⟩ := h.at kd hd
  obtain ⟨t', ht', htn⟩ := h.at kt ht
  obtain ⟨y, hy, hxy⟩ := h.at kf hx
  have hdf := ((findN_some hl.up).1 hd).2
  have hde := hl.eup d ((findN_some hl.up).1 hd).1
  have htf := ((findN_some hl.up).1 ht).2
  have hte := hl.eup t ((findN_some hl.up).1 ht).1
  have hfr : Free P d.fid a.name := by rw [hdf]; exact hc.name (by omega)
  have hTn : NR P (toD a d t) (toD a d' t') := by
    unfold toD
    split
    · exact hdn.leave' _
    · exact htn
  have hTf : (toD a d t).fid = a.to := by
    unfold toD
    split
    · rename_i e; rw [e]; exact hdf
    · exact htf
  have hTe : EUp (toD a d t).entries := by
    unfold toD
    split
    · exact leave_up hde _
    · exact hte
  have hfT : Free P (toD a d t).fid a.toName := by rw [hTf]; exact hc.toName hk
  have he' : rRenameE l' a = 0 := (rename0 _ _).2 ⟨d', t', y, hd', by rw [hdn.dir]; exact hdd, by rw [hdn.entry hde hfr]; exact hen, ht', by rw [htn.dir]; exact htd, hTn.room hTe hfT hr, hy, fun hm' => hm (h.reach hl.up hl'.up hm')⟩
  refine ⟨he', ?_⟩
  unfold rRenameL
  rw [if_pos he, if_pos he', toN_of hd ht, toN_of hd' ht', getN_of hd, getN_of hd']
  have hen2 := hTn.enter hTe ((room0 _ _).1 hr).2.1 hfT a.fid 0
  have hkT : P.f ≠ some (toD a d t).fid := by rw [hTf]; exact kt
  by_cases e : a.to = a.dir
  · rw [if_pos e, if_pos e]
    exact TR.put hl.up hl'.up h hen2 hkT
  · rw [if_neg e, if_neg e]
    exact TR.put (putN_up hl.up _).1 (putN_up hl'.up _).1 (TR.put hl.up hl'.up h (hdn.leave _ _) (by show P.f ≠ some d.fid; rw [hdf]; exact kd)) hen2 hkT

theorem kind_of {l : List Node} {a : Act} (he : rApplyE l a = 0) : a.kind = 1 ∨ a.kind = 2 ∨ a.kind = 3 ∨ a.kind = 4 ∨ a.kind = 5 := by
  unfold rApplyE at he
  by_cases k1 : a.kind = 1; · exact .inl k1
  by_cases k2 : a.kind = 2; · exact .inr (.inl k2)
  by_cases k3 : a.kind = 3; · exact .inr (.inr (.inl k3))
  by_cases k4 : a.kind = 4; · exact .inr (.inr (.inr (.inl k4)))
  by_cases k5 : a.kind = 5; · exact .inr (.inr (.inr (.inr k5)))
  rw [if_neg k1, if_neg k2, if_neg k3, if_neg k4, if_neg k5] at he
  cases he
theorem ap_make (l : List Node) {a : Act} (k : a.kind = 1 ∨ a.kind = 2) (v : Int) : rApplyE l a = makeE l a ∧ rApplyL l a v = makeL l a v := by
  unfold rApplyE rApplyL
  rcases k with k | k <;> simp [k]
theorem ap_store (l : List Node) {a : Act} (k : a.kind = 3) (v : Int) : rApplyE l a = storeE l a ∧ rApplyL l a v = storeL l a v := by unfold rApplyE rApplyL; simp [k]
theorem ap_remove (l : List Node) {a : Act} (k : a.kind = 4) (v : Int) : rApplyE l a = removeE l a ∧ rApplyL l a v = removeL l a v := by unfold rApplyE rApplyL; simp [k]
theorem ap_rename (l : List Node) {a : Act} (k : a.kind = 5) (v : Int) : rApplyE l a = rRenameE l a ∧ rApplyL l a v = rRenameL l a v := by unfold rApplyE rApplyL; simp [k]

theorem tr_apply {P : TP} {l l' : List Node} (hl : Ri l) (hl' : Ri l') (h : TR P l l') {a : Act} (hc : Can P a) (he : rApplyE l a = 0) : rApplyE l' a = 0 ∧ TR P (rApplyL l a 0) (rApplyL l' a 0) := by
  have hm : a.kind = 1 ∨ a.kind = 2 → rApplyE l' a = 0 ∧ TR P (rApplyL l a 0) (rApplyL l' a 0) := fun k => by
    rw [(ap_make l k 0).1] at he
    rw [(ap_make l k 0).2, (ap_make l' k 0).1, (ap_make l' k 0).2]
    exact tr_make hl hl' h (by omega) hc he
  rcases kind_of he with k | k | k | k | k
  · exact hm (.inl k)
  · exact hm (.inr k)
  · rw [(ap_store l k 0).1] at he
    rw [(ap_store l k 0).2, (ap_store l' k 0).1, (ap_store l' k 0).2]
    exact tr_store hl hl' h hc he
  · rw [(ap_remove l k 0).1] at he
    rw [(ap_remove l k 0).2, (ap_remove l' k 0).1, (ap_remove l' k 0).2]
    exact tr_remove hl hl' h (by omega) hc he
  · rw [(ap_rename l k 0).1] at he
    rw [(ap_rename l k 0).2, (ap_rename l' k 0).1, (ap_rename l' k 0).2]
    exact tr_rename hl hl' h k hc he
end La

namespace La
open Go Go.Eng

noncomputable def runR : List Act → List Node → Option (List Node)
  | [], l => some l
  | a :: al, l => if rApplyE l a = 0 then runR al (rApplyL l a 0) else none
theorem runR_cons {a : Act} {al : List Act} {l m : List Node} : runR (a :: al) l = some m ↔ rApplyE l a = 0 ∧ runR al (rApplyL l a 0) = some m := by
  rw [runR]
  by_cases h : rApplyE l a = 0 <;> simp [h]
theorem runR_app : ∀ {al bs : List Act} {l m : List Node}, runR (al ++ bs) l = some m ↔ ∃ p, runR al l = some p ∧ runR bs p = some m
  | [], bs, l, m => by simp [runR]
  | a :: al, bs, l, m => by
    rw [List.cons_append, runR_cons, runR_app]
    constructor
    · rintro ⟨h, p, h1, h2⟩; exact ⟨p, runR_cons.2 ⟨h, h1⟩, h2⟩
    · rintro ⟨p, h1, h2⟩; obtain ⟨h, h1⟩ := runR_cons.1 h1; exact ⟨h, p, h1, h2⟩
theorem runR_ri : ∀ {al : List Act} {l m : List Node}, Ri l → runR al l = some m → Ri m
  | [], l, m, hl, h => by rw [runR] at h; injection h with h; subst h; exact hl
  | a :: al, l, m, hl, h => by
    obtain ⟨_, h2⟩ := runR_cons.1 h
    exact runR_ri (hl.apply a 0) h2

/-! ### alike but for versions -/
def PE : TP := ⟨none, fun _ => True, none, []⟩
theorem can_PE (a : Act) : Can PE a := ⟨fun _ _ h => (by cases h), fun _ h => (by cases h.1), fun _ h => (by cases h.1)⟩
theorem NR.refl (x : Node) : NR PE x x := ⟨rfl, rfl, fun _ => rfl, rfl⟩
theorem TR.refl (l : List Node) : TR PE l l := fun k => ⟨fun h => (by cases h), fun _ => by
  cases h : findN l k with
  | none => exact .inl ⟨rfl, rfl⟩
  | some x => exact .inr ⟨x, x, rfl, rfl, NR.refl x⟩⟩
theorem TR.symm {l l' : List Node} (h : TR PE l l') : TR PE l' l := fun k => ⟨fun h => (by cases h), fun hk => by
  rcases (h k).2 hk with ⟨h1, h2⟩ | ⟨x, y, h1, h2, h3⟩
  · exact .inl ⟨h2, h1⟩
  · exact .inr ⟨y, x, h2, h1, h3.fid.symm, h3.dir.symm, fun _ => (h3.data trivial).symm, h3.ent.symm⟩⟩
theorem TR.trans {l m n : List Node} (h : TR PE l m) (g : TR PE m n) : TR PE l n := fun k => ⟨fun h => (by cases h), fun hk => by
  rcases (h k).2 hk with ⟨h1, h2⟩ | ⟨x, y, h1, h2, h3⟩
  · exact .inl ⟨h1, g.no h2⟩
  · obtain ⟨z, h4, h5⟩ := g.at hk h2
    exact .inr ⟨x, z, h1, h4, h5.fid.trans h3.fid, h5.dir.trans h3.dir, fun _ => (h5.data trivial).trans (h3.data trivial), (h5.ent : z.entries = y.entries).trans h3.ent⟩⟩

/-! ### a store that is left out -/
theorem skip_store {P : TP} {l l' : List Node} (hl : Ri l) (h : TR P l l') {a : Act} (hk : a.kind = 3) (he : rApplyE l a = 0) (hf : P.f = some a.fid ∨ ¬ P.dat a.fid) : TR P (rApplyL l a 0) l' := by
  rw [(ap_store l hk 0).1] at he
  rw [(ap_store l hk 0).2]
  obtain ⟨x, hx, hxd, hn⟩ := (store0 _ _).1 he
  have hxf := ((findN_some hl.up).1 hx).2
  unfold storeL
  rw [if_pos he, getN_of hx]
  intro k
  refine ⟨(h k).1, fun hk2 => ?_⟩
  rw [findN_put hl.up]
  by_cases e : k = x.fid
  · have e2 : ({ x with data := a.data, version := 0 } : Node).fid = x.fid := rfl
    rw [e2, if_pos e]
    rw [e, hxf] at hk2
    obtain ⟨y, hy, hxy⟩ := h.at hk2 hx
    refine .inr ⟨_, y, rfl, by rw [e, hxf]; exact hy, hxy.fid, hxy.dir, fun hd => ?_, hxy.ent⟩
    rcases hf with hf | hf
    · exact absurd hf hk2
    · exact absurd (by rw [← hxf]; exact hd) hf
  · have e2 : ({ x with data := a.data, version := 0 } : Node).fid = x.fid := rfl
    rw [e2, if_neg e]; exact (h k).2 hk2

theorem run_filter {P : TP} (keep : Rec → Bool) : ∀ (L : List Rec) {l l' m : List Node}, Ri l → Ri l' → TR P l l' → runR (L.map (·.act)) l = some m → (∀ r, r ∈ L → keep r = true → Can P r.act) →
    (∀ r, r ∈ L → keep r = false → r.act.kind = 3 ∧ (P.f = some r.act.fid ∨ ¬ P.dat r.act.fid)) → ∃ m', runR ((L.filter keep).map (·.act)) l' = some m' ∧ TR P m m'
  | [], l, l', m, _, _, h, hm, _, _ => by
    rw [List.map_nil, runR] at hm; injection hm with hm; subst hm
    exact ⟨l', by rw [List.filter_nil, List.map_nil, runR], h⟩
  | r :: L, l, l', m, hl, hl', h, hm, hc, hs => by
    obtain ⟨he, hm2⟩ := runR_cons.1 hm
    by_cases hk : keep r = true
    · obtain ⟨he', h2⟩ := tr_apply hl hl' h (hc r List.mem_cons_self hk) he
      obtain ⟨m', h3, h4⟩ := run_filter keep L (hl.apply _ _) (hl'.apply _ _) h2 hm2 (fun x hx => hc x (List.mem_cons_of_mem _ hx)) (fun x hx => hs x (List.mem_cons_of_mem _ hx))
      exact ⟨m', by rw [List.filter_cons, if_pos hk, List.map_cons, runR_cons]; exact ⟨he', h3⟩, h4⟩
    · have hk := Bool.eq_false_iff.2 hk
      obtain ⟨k3, hf⟩ := hs r List.mem_cons_self hk
      obtain ⟨m', h3, h4⟩ := run_filter keep L (hl.apply _ _) hl' (skip_store hl h k3 he hf) hm2 (fun x hx => hc x (List.mem_cons_of_mem _ hx)) (fun x hx => hs x (List.mem_cons_of_mem _ hx))
      exact ⟨m', by rw [List.filter_cons, if_neg (by rw [hk]; simp)]; exact h3, h4⟩

/-! ### one store for all -/
def PW (f : Int) : TP := ⟨none, fun k => k ≠ f, none, []⟩
theorem can_PW (f : Int) (a : Act) : Can (PW f) a := ⟨fun _ _ h => (by cases h), fun _ h => (by cases h.1), fun _ h => (by cases h.1)⟩
theorem PW_refl (f : Int) (l : List Node) : TR (PW f) l l := fun k => ⟨fun h => (by cases h), fun _ => by
  cases h : findN l k with
  | none => exact .inl ⟨rfl, rfl⟩
  | some x => exact .inr ⟨x, x, rfl, rfl, rfl, rfl, fun _ => rfl, rfl⟩⟩
theorem store_fix {l l' : List Node} (hl : Ri l) (hl' : Ri l') {a : Act} (h : TR (PW a.fid) l l') (hk : a.kind = 3) (he : rApplyE l a = 0) : rApplyE l' a = 0 ∧ TR PE (rApplyL l a 0) (rApplyL l' a 0) := by
  refine ⟨(tr_apply hl hl' h (can_PW _ a) he).1, ?_⟩
  rw [(ap_store l hk 0).1] at he
  rw [(ap_store l hk 0).2, (ap_store l' hk 0).2]
  have he' : storeE l' a = 0 := (tr_store hl hl' h (can_PW _ a) he).1
  obtain ⟨x, hx, hxd, hn⟩ := (store0 _ _).1 he
  obtain ⟨y, hy, hxy⟩ := h.at (by intro h; cases h) hx
  have hxf := ((findN_some hl.up).1 hx).2
  unfold storeL
  rw [if_pos he, if_pos he', getN_of hx, getN_of hy]
  intro k
  refine ⟨fun h => (by cases h), fun _ => ?_⟩
  rw [findN_put hl.up, findN_put hl'.up]
  have e1 : ({ x with data := a.data, version := 0 } : Node).fid = a.fid := hxf
  have e2 : ({ y with data := a.data, version := 0 } : Node).fid = a.fid := by show y.fid = _; rw [hxy.fid]; exact hxf
  rw [e1, e2]
  by_cases e : k = a.fid
  · rw [if_pos e, if_pos e]
    exact .inr ⟨_, _, rfl, rfl, hxy.fid, hxy.dir, fun _ => rfl, hxy.ent⟩
  · rw [if_neg e, if_neg e]
    rcases (h k).2 (by intro h; cases h) with ⟨h1, h2⟩ | ⟨u, v, h1, h2, h3⟩
    · exact .inl ⟨h1, h2⟩
    · exact .inr ⟨u, v, h1, h2, h3.fid, h3.dir, fun _ => h3.data (by show u.fid ≠ a.fid; rw [((findN_some hl.up).1 h1).2]; exact e), h3.ent⟩

/-! ### made, and removed -/
def PU (f D : Int) (n : List UInt8) : TP := ⟨some f, fun _ => True, some D, n⟩
theorem U_start {l : List Node} (hl : Ri l) {a : Act} (hk : a.kind = 1 ∨ a.kind = 2) (he : rApplyE l a = 0) : TR (PU a.fid a.dir a.name) (rApplyL l a 0) l := by
  rw [(ap_make l hk 0).1] at he
  rw [(ap_make l hk 0).2]
  obtain ⟨d, hd, hdd, hr, hn, h0, hlen⟩ := (make0 _ _).1 he
  have hdf := ((findN_some hl.up).1 hd).2
  have hde := hl.eup d ((findN_some hl.up).1 hd).1
  unfold makeL
  rw [if_pos he, getN_of hd]
  intro k
  refine ⟨fun hk => ?_, fun hk => ?_⟩
  · injection hk with hk
    subst hk
    exact hn
  · have hk : k ≠ a.fid := fun e => hk (by rw [e]; rfl)
    rw [findN_put (putN_up hl.up _).1, findN_put hl.up]
    have e1 : (madeN a 0).fid = a.fid := rfl
    have e2 : ({ enterN d a.name a.fid with version := 0 } : Node).fid = a.dir := hdf
    rw [e1, e2, if_neg hk]
    by_cases e : k = a.dir
    · rw [if_pos e, e, hd]
      refine .inr ⟨_, d, rfl, rfl, rfl, rfl, fun _ => rfl, ?_⟩
      unfold entA
      rw [if_pos (by rw [e2]; rfl)]
      exact (enterE_up hde ((room0 _ _).1 hr).2.1 a.fid).2.2.symm
    · rw [if_neg e]
      cases h : findN l k with
      | none => exact .inl ⟨rfl, rfl⟩
      | some x =>
        refine .inr ⟨x, x, rfl, rfl, rfl, rfl, fun _ => rfl, ?_⟩
        unfold entA
        rw [if_neg]
        intro h2
        injection h2 with h2
        rw [((findN_some hl.up).1 h).2] at h2
        exact e h2.symm
theorem U_end {l l' : List Node} (hl : Ri l) {a : Act} (h : TR (PU a.fid a.dir a.name) l l') (hk : a.kind = 4) (he : rApplyE l a = 0) : TR PE (rApplyL l a 0) l' := by
  rw [(ap_remove l hk 0).1] at he
  rw [(ap_remove l hk 0).2]
  obtain ⟨d, x, hd, hdd, hen, hx, hxe⟩ := (remove0 _ _).1 he
  have hdf := ((findN_some hl.up).1 hd).2
  unfold removeL
  rw [if_pos he, getN_of hd]
  intro k
  refine ⟨fun h => (by cases h), fun _ => ?_⟩
  rw [findN_drop (putN_up hl.up _).1, findN_put hl.up]
  have e2 : ({ leaveN d a.name with version := 0 } : Node).fid = a.dir := hdf
  rw [e2]
  by_cases e : k = a.fid
  · rw [if_pos e]
    exact .inl ⟨rfl, (h k).1 (by rw [e]; rfl)⟩
  · rw [if_neg e]
    have hke : (PU a.fid a.dir a.name).f ≠ some k := fun h2 => e (by injection h2 with h2; exact h2.symm)
    by_cases e3 : k = a.dir
    · rw [if_pos e3]
      obtain ⟨y, hy, hxy⟩ := h.at hke (by rw [e3]; exact hd)
      refine .inr ⟨_, y, rfl, hy, hxy.fid, hxy.dir, fun _ => hxy.data trivial, ?_⟩
      rw [hxy.ent]
      unfold entA
      rw [if_pos (by rw [hdf]; rfl)]
      rfl
    · rw [if_neg e3]
      rcases (h k).2 hke with ⟨h1, h2⟩ | ⟨u, v, h1, h2, h3⟩
      · exact .inl ⟨h1, h2⟩
      · refine .inr ⟨u, v, h1, h2, h3.fid, h3.dir, fun _ => h3.data trivial, ?_⟩
        rw [h3.ent]
        unfold entA
        rw [if_neg]
        · rfl
        · intro h4
          injection h4 with h4
          rw [((findN_some hl.up).1 h1).2] at h4
          exact e3 h4.symm

theorem names_iff {r : Rec} {f : Int} : r.names f = true ↔ f ∈ fids r.act := by unfold Rec.names; rw [List.contains_iff_mem]
theorem free_step {l : List Node} (hl : Ri l) {a : Act} {f : Int} (he : rApplyE l a = 0) (hf : findN l f = none) (hm : ¬ ((a.kind = 1 ∨ a.kind = 2) ∧ a.fid = f)) : f ∉ fids a ∧ findN (rApplyL l a 0) f = none := by
  have hne : ∀ {k : Int} {x : Node}, findN l k = some x → k ≠ f := fun h e => by rw [e, hf] at h; cases h
  have hput : ∀ {x : Node} {m : List Node}, Up m → x.fid ≠ f → findN m f = none → findN (putN m x) f = none := fun hu hx hn => by rw [findN_put hu, if_neg (fun e => hx e.symm)]; exact hn
  have hmk : a.kind = 1 ∨ a.kind = 2 → f ∉ fids a ∧ findN (rApplyL l a 0) f = none := fun k => by
    have he := he
    rw [(ap_make l k 0).1] at he
    rw [(ap_make l k 0).2]
    obtain ⟨d, hd, hdd, hr, hn, h0, hlen⟩ := (make0 _ _).1 he
    have hdf := ((findN_some hl.up).1 hd).2
    have h1 : a.fid ≠ f := fun e => hm ⟨k, e⟩
    have h2 := hne hd
    refine ⟨?_, ?_⟩
    · unfold fids
      rw [if_neg (by omega), if_neg (by omega)]
      simp [Ne.symm h1, Ne.symm h2]
    · unfold makeL
      rw [if_pos he, getN_of hd]
      exact hput (putN_up hl.up _).1 h1 (hput hl.up (by show d.fid ≠ f; rw [hdf]; exact h2) hf)
  rcases kind_of he with k | k | k | k | k
  · exact hmk (.inl k)
  · exact hmk (.inr k)
  · rw [(ap_store l k 0).1] at he
    rw [(ap_store l k 0).2]
    obtain ⟨x, hx, hxd, hn⟩ := (store0 _ _).1 he
    have hxf := ((findN_some hl.up).1 hx).2
    refine ⟨?_, ?_⟩
    · unfold fids; rw [if_pos k]; simp [Ne.symm (hne hx)]
    · unfold storeL
      rw [if_pos he, getN_of hx]
      exact hput hl.up (by show x.fid ≠ f; rw [hxf]; exact hne hx) hf
  · rw [(ap_remove l k 0).1] at he
    rw [(ap_remove l k 0).2]
    obtain ⟨d, x, hd, hdd, hen, hx, hxe⟩ := (remove0 _ _).1 he
    have hdf := ((findN_some hl.up).1 hd).2
    refine ⟨?_, ?_⟩
    · unfold fids; rw [if_neg (by omega), if_neg (by omega)]; simp [Ne.symm (hne hx), Ne.symm (hne hd)]
    · unfold removeL
      rw [if_pos he, getN_of hd, findN_drop (putN_up hl.up _).1]
      split
      · rfl
      · exact hput hl.up (by show d.fid ≠ f; rw [hdf]; exact hne hd) hf
  · rw [(ap_rename l k 0).1] at he
    rw [(ap_rename l k 0).2]
    obtain ⟨d, t, x, hd, hdd, hen, ht, htd, hr, hx, hm⟩ := (rename0 _ _).1 he
    have hdf := ((findN_some hl.up).1 hd).2
    have htf := ((findN_some hl.up).1 ht).2
    refine ⟨?_, ?_⟩
    · unfold fids; rw [if_neg (by omega), if_pos k]; simp [Ne.symm (hne hx), Ne.symm (hne hd), Ne.symm (hne ht)]
    · unfold rRenameL
      rw [if_pos he, toN_of hd ht, getN_of hd]
      have hT : (toD a d t).fid ≠ f := by
        unfold toD
        split
        · show d.fid ≠ f; rw [hdf]; exact hne hd
        · rw [htf]; exact hne ht
      refine hput ?_ hT ?_
      · split
        · exact hl.up
        · exact (putN_up hl.up _).1
      · split
        · exact hf
        · exact hput hl.up (by show d.fid ≠ f; rw [hdf]; exact hne hd) hf
theorem free_run {f : Int} : ∀ {L : List Rec} {l m : List Node}, Ri l → runR (L.map (·.act)) l = some m → findN l f = none → (∀ r, r ∈ L → isMade f r = false) → (∀ r, r ∈ L → r.names f = false) ∧ findN m f = none
  | [], l, m, _, h, hf, _ => by rw [List.map_nil, runR] at h; injection h with h; subst h; exact ⟨fun r hr => (by cases hr), hf⟩
  | r :: L, l, m, hl, h, hf, hm => by
    obtain ⟨he, h2⟩ := runR_cons.1 h
    have hmr := hm r List.mem_cons_self
    have hnm : ¬ ((r.act.kind = 1 ∨ r.act.kind = 2) ∧ r.act.fid = f) := fun ⟨k, e⟩ => by
      unfold isMade at hmr
      rcases k with k | k <;> simp [k, e] at hmr
    obtain ⟨h3, h4⟩ := free_step hl he hf hnm
    obtain ⟨h5, h6⟩ := free_run (hl.apply _ _) h2 h4 (fun x hx => hm x (List.mem_cons_of_mem _ hx))
    refine ⟨fun x hx => ?_, h6⟩
    rcases List.mem_cons.1 hx with rfl | hx
    · cases e : x.names f with
      | false => rfl
      | true => exact absurd (names_iff.1 e) h3
    · exact h5 x hx

theorem runs_kind : ∀ {L : List Rec} {l m : List Node}, runR (L.map (·.act)) l = some m → ∀ {x : Rec}, x ∈ L → x.act.kind = 1 ∨ x.act.kind = 2 ∨ x.act.kind = 3 ∨ x.act.kind = 4 ∨ x.act.kind = 5
  | [], l, m, _, x, hx => (by cases hx)
  | r :: L, l, m, h, x, hx => by
    obtain ⟨he, h2⟩ := runR_cons.1 h
    rcases List.mem_cons.1 hx with rfl | hx
    · exact kind_of he
    · exact runs_kind h2 hx

/-- a log that runs, from the first tree, to what is there, but for versions -/
structure Shrt (l0 : List Node) (log : List Rec) (t : List Node) : Prop where
  neg : ∀ r, r ∈ log → r.act.kind = 1 ∨ r.act.kind = 2 → r.act.fid < 0
  runs : ∃ now, runR (log.map (·.act)) l0 = some now ∧ TR PE now t
  ri : Ri t
theorem Shrt.start {l0 : List Node} (h : Ri l0) : Shrt l0 [] l0 := ⟨fun r hr => (by cases hr), ⟨l0, by rw [List.map_nil, runR], TR.refl _⟩, h⟩

theorem Shrt.step {l0 : List Node} (h0 : Ri l0) (hpos : ∀ n, n ∈ l0 → 0 ≤ n.fid) {log : List Rec} {t : List Node} (h : Shrt l0 log t) {r : Rec} (hr : r.act.kind = 1 ∨ r.act.kind = 2 → r.act.fid < 0) (he : rApplyE t r.act = 0) {m : List Rec} (hm : addLog log r = some m) : Shrt l0 m (rApplyL t r.act 0) := by
  obtain ⟨now, hnow, hE⟩ := h.runs
  have hri := runR_ri h0 hnow
  obtain ⟨hen, hEn⟩ := tr_apply h.ri hri hE.symm (can_PE r.act) he
  unfold addLog at hm
  by_cases hc : cancels log r = true
  · rw [if_pos hc] at hm
    injection hm with hm
    subst hm
    unfold cancels at hc
    cases hi : log.findIdx? (isMade r.act.fid) with
    | none => rw [hi] at hc; cases hc
    | some k =>
      rw [hi] at hc
      simp only [Bool.and_eq_true, beq_iff_eq, Bool.not_eq_true'] at hc
      obtain ⟨⟨⟨hk4, hD⟩, hN⟩, hbar⟩ := hc
      obtain ⟨hkl, hmk, hno⟩ := List.findIdx?_eq_some_iff_getElem.1 hi
      have hgd : log.getD k default = log[k] := by rw [List.getD_eq_getElem?_getD, List.getElem?_eq_getElem hkl]; rfl
      rw [hgd] at hD hN hbar
      have hsp : log = log.take k ++ log[k] :: log.drop (k + 1) := by rw [← List.drop_eq_getElem_cons hkl, List.take_append_drop]
      have hpre : ∀ x, x ∈ log.take k → isMade r.act.fid x = false := fun x hx => by
        obtain ⟨j, hj⟩ := List.getElem?_of_mem hx
        rw [List.getElem?_take] at hj
        split at hj
        · rename_i hjk
          obtain ⟨hjl, hje⟩ := List.getElem?_eq_some_iff.1 hj
          have := hno j hjk
          rw [hje] at this
          simpa using this
        · cases hj
      generalize log.take k = pre at hsp hpre
      generalize log.drop (k + 1) = post at hsp hbar
      generalize log[k] = mk at hsp hmk hD hN hbar
      subst hsp
      have hmf : mk.act.fid = r.act.fid ∧ (mk.act.kind = 1 ∨ mk.act.kind = 2) := by
        unfold isMade at hmk
        simpa using hmk
      have hneg : r.act.fid < 0 := by rw [← hmf.1]; exact h.neg mk (by simp) hmf.2
      rw [List.map_append, runR_app] at hnow
      obtain ⟨p, hp1, hp2⟩ := hnow
      rw [List.map_cons, runR_cons] at hp2
      obtain ⟨hem, hp3⟩ := hp2
      have hpri := runR_ri h0 hp1
      have hf0 : findN l0 r.act.fid = none := (findN_none h0.up).2 fun x hx e => by have := hpos x hx; omega
      obtain ⟨hfr, hfp⟩ := free_run h0 hp1 hf0 hpre
      have hU := U_start hpri hmf.2 hem
      rw [hmf.1, hD, hN] at hU
      have hbar2 : ∀ x, x ∈ post → bars r.act.fid mk.act.dir mk.act.name x = false := fun x hx => by
        have := List.any_eq_false.1 hbar x hx
        simpa using this
      obtain ⟨now', hn1, hn2⟩ := run_filter (P := PU r.act.fid r.act.dir r.act.name) (fun x => !(x.names r.act.fid)) post (hpri.apply _ _) hpri hU hp3 (fun x hx hkeep => by
        have hb := hbar2 x hx
        unfold bars at hb
        rw [Bool.or_eq_false_iff] at hb
        have ht := hb.2
        rw [hD, hN] at ht
        have hnn : r.act.fid ∉ fids x.act := fun e => by rw [names_iff.2 e] at hkeep; cases hkeep
        refine ⟨fun k hk e => ?_, fun hk3 e => ?_, fun hk5 e => ?_⟩
        · injection e with e; subst e; exact hnn hk
        · obtain ⟨e1, e2⟩ := e
          injection e1 with e1
          change x.act.name = r.act.name at e2
          unfold touches at ht
          rw [← e1, e2] at ht
          split at ht
          · simp at ht
          · split at ht
            · simp at ht
            · rename_i n1 n2
              have hkk : ∀ j, x.act.kind = j → j ≠ 1 ∧ j ≠ 2 ∧ j ≠ 3 ∧ j ≠ 4 ∧ j ≠ 5 := fun j hj => ⟨fun e => n1 (.inl (hj.trans e)), fun e => n1 (.inr (.inl (hj.trans e))), fun e => hk3 (hj.trans e), fun e => n1 (.inr (.inr (hj.trans e))), fun e => n2 (hj.trans e)⟩
              exact absurd (runs_kind hp3 hx) (by have := hkk _ rfl; omega)
        · obtain ⟨e1, e2⟩ := e
          injection e1 with e1
          change x.act.toName = r.act.name at e2
          unfold touches at ht
          rw [if_neg (by omega), if_pos hk5, ← e1, e2] at ht
          simp at ht) (fun x hx hkeep => by
        have hb := hbar2 x hx
        unfold bars at hb
        rw [Bool.or_eq_false_iff] at hb
        have hn : x.names r.act.fid = true := by simpa using hkeep
        have hk3 : x.act.kind = 3 := by
          have := hb.1
          rw [hn] at this
          simpa using this
        have hfid := names_iff.1 hn
        unfold fids at hfid
        rw [if_pos hk3, List.mem_singleton] at hfid
        exact ⟨hk3, .inl (by rw [← hfid]; rfl)⟩)
      have hfl : (pre ++ mk :: post).filter (fun x => !(x.names r.act.fid)) = pre ++ post.filter (fun x => !(x.names r.act.fid)) := by
        rw [List.filter_append, List.filter_cons]
        have hmn : mk.names r.act.fid = true := names_iff.2 (by rw [← hmf.1]; exact fids_fid _)
        rw [if_neg (by simp [hmn]), List.filter_eq_self.2 (fun x hx => by rw [hfr x hx]; rfl)]
      refine ⟨fun x hx => h.neg x (List.mem_filter.1 hx).1, ⟨now', ?_, ?_⟩, h.ri.apply _ _⟩
      · rw [hfl, List.map_append, runR_app]
        exact ⟨p, hp1, hn1⟩
      · exact (hEn.trans (U_end hri hn2 hk4 hen)).symm
  · rw [if_neg hc] at hm
    by_cases hl20 : (unstored log r).length ≥ 20
    · rw [if_pos hl20] at hm; cases hm
    rw [if_neg hl20] at hm
    injection hm with hm
    subst hm
    have hneg : ∀ x, x ∈ unstored log r ++ [r] → x.act.kind = 1 ∨ x.act.kind = 2 → x.act.fid < 0 := fun x hx => by
      rcases List.mem_append.1 hx with hx | hx
      · exact h.neg x ((unstored_sub log r).subset hx)
      · rw [List.mem_singleton.1 hx]; exact hr
    refine ⟨hneg, ?_, h.ri.apply _ _⟩
    by_cases hk3 : r.act.kind = 3
    · have hus : unstored log r = log.filter fun x => !(stored r x) := by unfold unstored; rw [if_pos hk3]
      obtain ⟨m', h1, h2⟩ := run_filter (P := PW r.act.fid) (fun x => !(stored r x)) log h0 h0 (PW_refl _ _) hnow (fun x _ _ => can_PW _ _) (fun x _ hk => by
        have hs : stored r x = true := by simpa using hk
        unfold stored at hs
        simp only [Bool.and_eq_true, beq_iff_eq] at hs
        exact ⟨hs.1, .inr (by show ¬ (x.act.fid ≠ r.act.fid); simp [hs.2])⟩)
      obtain ⟨h3, h4⟩ := store_fix hri (runR_ri h0 h1) h2 hk3 hen
      refine ⟨rApplyL m' r.act 0, ?_, (hEn.trans h4).symm⟩
      rw [hus, List.map_append, runR_app]
      exact ⟨m', h1, runR_cons.2 ⟨h3, by rw [List.map_nil, runR]⟩⟩
    · have hus : unstored log r = log := by unfold unstored; rw [if_neg hk3]
      refine ⟨rApplyL now r.act 0, ?_, hEn.symm⟩
      rw [hus, List.map_append, runR_app]
      exact ⟨now, hnow, runR_cons.2 ⟨hen, by rw [List.map_nil, runR]⟩⟩
theorem Shrt.same {l0 : List Node} (h0 : Ri l0) {log : List Rec} {t now : List Node} (h : Shrt l0 log t) (hn : runR (log.map (·.act)) l0 = some now) : sameT false now t = true := by
  obtain ⟨n2, h1, h2⟩ := h.runs
  rw [hn] at h1
  injection h1 with h1
  subst h1
  refine sameT_find false (runR_ri h0 hn).up h.ri.up fun k => ?_
  rcases (h2 k).2 (by intro h; cases h) with ⟨h3, h4⟩ | ⟨x, y, h3, h4, h5⟩
  · rw [h3, h4]; trivial
  · rw [h3, h4]
    have e1 := h5.fid
    have e2 := h5.dir
    have e3 := h5.data trivial
    have e4 : y.entries = x.entries := h5.ent
    simp [sameN, e1, e2, e3, e4]
end La

namespace La
open Go Go.Eng Go.Proofs
set_option maxRecDepth 10000
set_option linter.unusedSimpArgs false
set_option linter.unusedVariables false

theorem drop_len {α : Type} {L T : List α} {off : Nat} (h : off ≤ L.length) (ht : L.drop off = T) : L.length = off + T.length := by
  have := congrArg List.length ht
  rw [List.length_drop] at this
  omega
theorem rebase {L : List Int} {off off' : Nat} (h : off ≤ L.length) (ho : off' = off ∨ off' = 0) (f : Int) :
    (((L.map intRow).drop (off - off')).take (off' + (L.length - off)) ++ [intRow f]) = (((L.drop (off - off')).take (off' + (L.length - off))) ++ [f]).map intRow ∧
    ((((L.drop (off - off')).take (off' + (L.length - off))) ++ [f]).drop off') = L.drop off ++ [f] ∧ (((L.drop (off - off')).take (off' + (L.length - off))) ++ [f]).length = off' + (L.length - off + 1) := by
  have hl : ((L.drop (off - off')).take (off' + (L.length - off))).length = off' + (L.length - off) := by simp; omega
  refine ⟨?_, ?_, ?_⟩
  · rw [List.map_append, List.map_take, List.map_drop]; rfl
  · rw [List.drop_append_of_le_length (by omega), List.drop_take, List.drop_drop]
    have e : off - off' + off' = off := by rcases ho with rfl | rfl <;> omega
    rw [e, Nat.add_sub_cancel_left]
    congr 1
    exact List.take_of_length_le (by simp)
  · rw [List.length_append, hl]; simp; omega

theorem allF_len {m : List (Int × Node)} {x : Int} {n : Node} (h : mget m x = some n) : n.entries.length ≤ (allF m).length := by
  have h1 := mget_mem h
  unfold allF
  clear h
  induction m with
  | nil => cases h1
  | cons p r ih =>
    simp only [List.flatMap_cons, List.length_append, List.length_map]
    rcases List.mem_cons.1 h1 with rfl | h1
    · simp only; omega
    · have := ih h1; omega
theorem mB_start (k : Int) : mput ([] : List (Int × AV)) k (.bool true) = mB (mput [] k true) := rfl
open Classical in
set_option maxHeartbeats 4000000 in
theorem rwithin_ok (m : List (Int × Node)) (fid inn : Int) (hsz : (allF m).length ≤ 90000000) : FnOK Try.prog 81 [.rm (mN m), .int .i64 fid, .int .i64 inn] [] (fun r _ => r = .bool (decide (MReach m inn fid))) := by
  refine fn_of_cwW tabOK (Go.Proofs.Try.func81) rfl (fun C => ?_)
  simp only [Go.Proofs.Try.ntmps81, Go.Proofs.Try.results81, go_sem]
  refine cw_go tabOK 99 (by simp only [go_sem]; try exact rfl) ?_ ?_
  · simp [go_sem, AV.deepB, AV.pureB]
  refine cw_loopS (fun s : List (Int × Bool) × Nat × List Int => s.2.1 ≤ s.2.2.length ∧ BI m inn s.1 (s.2.2.drop s.2.1)) (fun s => (s.2.2.length - s.2.1) + unseen m s.1) (fun s => [(8, .osl 15 1 s.2.1 (s.2.2.length - s.2.1)), (10, .any), (14, .any), (15, .any), (16, .any), (17, .any), (18, .any), (19, .any), (20, .any), (21, .any), (22, .any), (23, .any), (24, .any), (25, .any), (26, .any), (27, .any), (28, .any), (29, .any), (30, .any), (31, .any), (32, .any), (33, .any), (34, .any), (35, .any), (36, .any), (37, .any), (38, .any), (39, .any), (40, .any), (41, .any), (42, .any), (43, .any), (44, .any), (45, .any)])
    (fun s => [(11, .map (mB s.1)), (15, .cells 3 1 (s.2.2.map intRow))]) (mput [] inn true, 0, [inn]) ⟨by simp, BI.begin m inn⟩ ?_ fun s hs => ?_
  · simp only [go_sem]
    exact le_sub (by simp [go_sem]) (by simp [go_sem, mB_start, intRow]) (by simp [go_sem])
  obtain ⟨had, off, L⟩ := s
  obtain ⟨hoff, hbi⟩ := hs
  simp only at hoff hbi
  simp only [go_sem]
  refine cw_go tabOK 99 (by simp only [go_sem]; try exact rfl) (by simp [go_sem]) ?_
  refine cw_cond (by simp only [go_sem]; try exact rfl) trivial (fun h => ?_) (fun h => ?_)
  · have hlt : off < L.length := by simp at h; omega
    have hg : (L.map intRow).getD off [] = intRow (L.getD off default) := Fam.getD hlt
    have hdr := drop_getD hlt
    have hl1 : L.length - off = (L.drop (off + 1)).length + 1 := by rw [List.length_drop]; omega
    generalize hx : L.getD off default = x at *
    have hbi0 := hbi
    rw [hdr] at hbi0
    cases hm : mget m x with
    | none =>
      have hmg : mget (mN m) x = none := by rw [mN_get, hm]; rfl
      refine cw_go tabOK 99 (by simp only [go_sem, hg, intRow, hmg]; try exact rfl) ?_ ?_
      · simp [hg, intRow]; omega
      refine cw_loopS (fun _ : Unit => True) (fun _ => 0) (fun _ => []) (fun _ => []) () trivial ?_ fun _ _ => ?_
      · simp only [go_sem]
        exact le_sub (by simp [go_sem]) (by simp [go_sem]) (by simp [go_sem])
      simp only [go_sem]
      refine cw_go tabOK 99 (by simp only [go_sem]; try exact rfl) (by simp [go_sem]) ?_
      refine cw_cond (by simp only [go_sem]; try exact rfl) trivial (fun h => ?_) (fun h => ?_)
      · cases h
      refine cw_go tabOK 99 (by simp only [go_sem]; try exact rfl) ?_ ?_
      · simp; omega
      refine cw_back ⟨(had, off + 1, L), ⟨by simp only; omega, by simp only; exact hbi0.none hm⟩, by simp only; omega, le_sub ?_ ?_ ?_⟩
      · simp [go_sem]; omega
      · simp [go_sem]
      · simp [go_sem]
    | some n =>
      have hmg : mget (mN m) x = some (.agg (nodeRow n)) := by rw [mN_get, hm]; rfl
      have hbj := hbi0.inner hm
      have hel := allF_len hm
      have hc : (x :: L.drop (off + 1)).length + unseen m had = L.length - off + unseen m had := by simp only [List.length_cons]; omega
      rw [hc, ← hdr] at hbj
      have hcs : L.length - off + unseen m had ≤ (allF m).length + 1 := by have := hbi.size; rw [List.length_drop] at this; exact this
      refine cw_go tabOK 99 (by simp only [go_sem, hg, intRow, hmg, nodeRow]; try exact rfl) ?_ ?_
      · simp [hg, intRow, hmg, nodeRow]; omega
      refine cw_loopS (fun s : Nat × List (Int × Bool) × Nat × List Int => s.1 ≤ n.entries.length ∧ s.2.2.1 ≤ s.2.2.2.length ∧ BJ m inn x n (L.length - off + unseen m had) s.1 s.2.1 (s.2.2.2.drop s.2.2.1)) (fun s => n.entries.length - s.1)
        (fun s => [(8, .osl 15 1 s.2.2.1 (s.2.2.2.length - s.2.2.1)), (10, .any), (14, .any), (15, .any), (16, .any), (20, .any), (21, .any), (26, .int .i64 s.1), (27, .any), (28, .any), (29, .any), (30, .any), (31, .any), (32, .any), (33, .any), (34, .any), (35, .any), (36, .any), (37, .any), (38, .any), (39, .any), (40, .any), (41, .any), (42, .any), (43, .any), (44, .any), (45, .any)]) (fun s => [(11, .map (mB s.2.1)), (15, .cells 3 1 (s.2.2.2.map intRow))]) (0, had, off, L) ⟨by simp, hoff, hbj⟩ ?_ fun s hs => ?_
      · simp only [go_sem]
        exact le_sub (by simp [go_sem]) (by simp [go_sem]) (by simp [go_sem])
      obtain ⟨j, had2, off2, L2⟩ := s
      obtain ⟨hj, hoff2, hb⟩ := hs
      simp only at hj hoff2 hb
      simp only [go_sem]
      refine cw_go tabOK 99 (by simp only [go_sem]; try exact rfl) (by simp [go_sem]) ?_
      refine cw_cond (by simp only [go_sem]; try exact rfl) trivial (fun h => ?_) (fun h => ?_)
      · have hjl : j < n.entries.length := by simp at h; omega
        have hge : (n.entries.map entryRow).getD j [] = entryRow (n.entries.getD j default) := Fam.getD hjl
        have hw : IntKind.i64.wrap ((j : Int) + 1) = ((j + 1 : Nat) : Int) := by rw [Eng.wrap_small (by omega) (by omega)]; rfl
        have hskip := hb.skip hjl
        have hadd := hb.add hjl
        generalize n.entries.getD j default = f at *
        refine cw_go tabOK 99 (by simp only [go_sem, hge, entryRow]; try exact rfl) ?_ ?_
        · simp [hge, entryRow, hjl]
        cases hgb : getB had2 f.fid with
        | true =>
          refine cw_condF (by simp only [go_sem]; try exact rfl) trivial (by simp) ?_
          refine cw_go tabOK 99 (by simp only [go_sem, hw]; try exact rfl) (by simp [go_sem, hw]) ?_
          refine cw_back ⟨(j + 1, had2, off2, L2), ⟨by simp only; omega, hoff2, hskip hgb⟩, by simp only; omega, le_sub ?_ ?_ ?_⟩
          · simp [go_sem]
          · simp [go_sem]
          · simp [go_sem]
        | false =>
          refine cw_condT (by simp only [go_sem]; try exact rfl) trivial (by simp) ?_
          refine cw_goR 99 (by simp only [go_sem]; try exact rfl) ?_
          refine cw_runN tabOK 3 (by simp only [go_sem]; exact rfl) (by simp only [go_sem]; exact rfl) (by simp only [go_sem]; try exact rfl) (by simp [go_sem]) ?_
          refine cw_runN tabOK 1 (by simp only [go_sem]; exact rfl) (by simp only [go_sem]; exact rfl) (by simp only [go_sem]; try exact rfl) ?_ ?_
          · simp [AV.deepB, AV.pureB]
          refine cw_goR 99 (by simp only [go_sem]; try exact rfl) ?_
          refine cw_runN tabOK 4 (by simp only [go_sem]; exact rfl) (by simp only [go_sem]; exact rfl) (by simp only [go_sem]; try exact rfl) (by simp [go_sem]) ?_
          have hcs2 := hb.size
          rw [List.length_drop] at hcs2
          obtain ⟨q, hq⟩ := hb.head
          have hlq := drop_len hoff2 hq
          simp only [List.length_cons] at hlq
          refine cw_appendO tabOK rfl rfl (by simp only [go_sem]; try exact rfl) (by simp only [go_sem]; try exact rfl) (by simp only [go_sem]; try exact rfl) (by simp only [go_sem]; try exact rfl) (by intro _ _ _ _ h; cases h; rfl) (by simp only [go_sem]; try exact rfl) (by omega) (by simp; omega) (by simp only [go_sem]; try exact rfl) (by decide) (by simp only [go_sem]; decide) (by simp [rowsOf]) (by simp [go_sem]) (by simp [go_sem]; omega) (by simp [go_sem]) (by simp [go_sem, intRow]) fun off' ho => ?_
          obtain ⟨b1, b2, b3⟩ := rebase hoff2 ho f.fid
          have b1' : List.take (off' + (L2.length - off2)) (List.drop (off2 - off') (List.map intRow L2)) ++ [[.int .i64 f.fid]] = List.map intRow (List.take (off' + (L2.length - off2)) (List.drop (off2 - off') L2) ++ [f.fid]) := b1
          clear b1
          generalize List.take (off' + (L2.length - off2)) (List.drop (off2 - off') L2) ++ [f.fid] = L3 at *
          simp only [go_sem]
          rw [b1']
          refine cw_go tabOK 99 (by simp only [go_sem, hw]; try exact rfl) (by simp [go_sem, hw]) ?_
          refine cw_back ⟨(j + 1, mput had2 f.fid true, off', L3), ⟨by simp only; omega, by simp only; omega, by simp only; rw [b2]; exact hadd hgb⟩, by simp only; omega, le_sub ?_ ?_ ?_⟩
          · simp [go_sem]; omega
          · simp [go_sem]
          · simp [go_sem]
      · have e : j = n.entries.length := by simp at h; omega
        subst e
        obtain ⟨h1, h2⟩ := hb.pop hcs
        obtain ⟨q, hq⟩ := hb.head
        have hlq := drop_len hoff2 hq
        simp only [List.length_cons] at hlq
        refine cw_go tabOK 99 (by simp only [go_sem]; try exact rfl) ?_ ?_
        · simp; omega
        refine cw_back ⟨(had2, off2 + 1, L2), ⟨by simp only; omega, by simp only; rw [← List.drop_drop]; exact h1⟩, ?_, le_sub ?_ ?_ ?_⟩
        · simp only
          rw [List.length_drop, List.length_drop] at h2
          omega
        · simp [go_sem]; omega
        · simp [go_sem]
        · simp [go_sem]
  · have e : L.drop off = [] := List.drop_eq_nil_of_le (by simp at h; omega)
    rw [e] at hbi
    have hf := hbi.fin fid
    refine cw_go tabOK 99 (by simp only [go_sem]; try exact rfl) (by simp [go_sem]) ?_
    refine cw_ret ⟨_, _, (by simp only [go_sem]; try exact rfl), by simp [go_sem], _, .inr (.inl rfl), ?_⟩
    cases hgb : getB had fid with
    | true => rw [decide_eq_true (hf.1 hgb)]; rfl
    | false => rw [decide_eq_false fun hh => by rw [hf.2 hh] at hgb; cases hgb]; rfl
end La

namespace La
open Go Go.Eng Go.Proofs
set_option maxRecDepth 10000
set_option linter.unusedSimpArgs false
set_option linter.unusedVariables false

theorem rname_ok (s : List UInt8) (hs : s.length ≤ 100000000) : FnOK Try.prog 122 [.str s] [] (fun r _ => r = .bool (nameB s)) := by
  refine fn_of_cwW tabOK (Go.Proofs.Try.func122) rfl (fun C => ?_)
  simp only [Go.Proofs.Try.ntmps122, Go.Proofs.Try.results122, go_sem]
  refine cw_go tabOK 99 (by simp only [go_sem]; try exact rfl) (by simp [go_sem]) ?_
  refine cw_loopS (fun i : Nat => i ≤ s.length ∧ ∀ j, j < i → okC (s.getD j 0) = true) (fun i => s.length - i) (fun i => [(3, .any), (4, .any), (7, .int .i64 i), (8, .any), (9, .any), (10, .any), (11, .any), (12, .any), (13, .any), (14, .any), (15, .any), (16, .any), (17, .any), (18, .any), (19, .any), (20, .any), (21, .any), (22, .any), (23, .any), (24, .any), (25, .any), (26, .any), (27, .any), (28, .any), (29, .any), (30, .any), (31, .any), (32, .any), (33, .any), (34, .any), (35, .any), (36, .any)]) (fun _ => []) 0 ⟨by omega, by omega⟩ ?_ fun i hi => ?_
  · simp only [go_sem]
    exact le_sub (by simp [go_sem]) (by simp [go_sem]) (by simp [go_sem])
  obtain ⟨hi, hs2⟩ := hi
  simp only [go_sem]
  refine cw_go tabOK 99 (by simp only [go_sem]; try exact rfl) (by simp [go_sem]) ?_
  refine cw_cond (by simp only [go_sem]; try exact rfl) trivial (fun h => ?_) (fun h => ?_)
  · have hlt : i < s.length := by simp at h; omega
    have hw : IntKind.i64.wrap ((i : Int) + 1) = ((i + 1 : Nat) : Int) := by rw [Eng.wrap_small (by omega) (by omega)]; rfl
    have hno : okC (s.getD i 0) = false → nameB s = false := fun h0 => by
      cases e : s.all okC with
      | false => unfold nameB; rw [e, Bool.and_false]
      | true =>
        have := List.all_eq_true.1 e (s.getD i 0) (by rw [List.getD_eq_getElem?_getD, List.getElem?_eq_getElem hlt]; exact List.getElem_mem hlt)
        rw [this] at h0; cases h0
    have hyes : okC (s.getD i 0) = true → ∀ j, j < i + 1 → okC (s.getD j 0) = true := fun h0 j hj => by
      rcases Nat.lt_succ_iff_lt_or_eq.1 hj with h1 | rfl
      · exact hs2 j h1
      · exact h0
    refine cw_goR 99 (by simp only [go_sem]; try exact rfl) ?_
    refine cw_runN tabOK 2 (by simp only [go_sem]; exact rfl) (by simp only [go_sem]; exact rfl) (by simp only [go_sem]; try exact rfl) (by simp [go_sem]) ?_
    refine cw_goR 99 (by simp only [go_sem]; try exact rfl) ?_
    refine cw_runN tabOK 2 (by simp only [go_sem]; exact rfl) (by simp only [go_sem]; exact rfl) (by simp only [go_sem]; try exact rfl) (by simp [go_sem]) ?_
    refine cw_runN tabOK 1 (by simp only [go_sem]; exact rfl) (by simp only [go_sem]; exact rfl) (by simp only [go_sem]; try exact rfl) ?_ ?_
    · simp; omega
    refine cw_runN tabOK 1 (by simp only [go_sem]; exact rfl) (by simp only [go_sem]; exact rfl) (by simp only [go_sem]; try exact rfl) (by simp [go_sem]) ?_
    refine cw_goR 99 (by simp only [go_sem]; try exact rfl) ?_
    generalize s.getD i 0 = c at hno hyes
    have hc : okC c = ((decide ((c.toNat : Int) ≥ 97) && decide ((c.toNat : Int) ≤ 122)) || (decide ((c.toNat : Int) ≥ 48) && decide ((c.toNat : Int) ≤ 57))) := by
      unfold okC
      rw [Bool.eq_iff_iff]
      simp only [Bool.or_eq_true, Bool.and_eq_true, decide_eq_true_eq]
      omega
    generalize hf1 : decide ((c.toNat : Int) ≥ 97) = f1 at hc
    generalize hf2 : decide ((c.toNat : Int) ≤ 122) = f2 at hc
    generalize hf3 : decide ((c.toNat : Int) ≥ 48) = f3 at hc
    generalize hf4 : decide ((c.toNat : Int) ≤ 57) = f4 at hc
    refine cw_runN tabOK 14 (by simp only [go_sem]; exact rfl) (by simp only [go_sem]; exact rfl) (by simp only [go_sem, hf1, hf2, hf3, hf4]; try exact rfl) ?_ ?_
    · cases f1 <;> cases f2 <;> cases f3 <;> cases f4 <;> simp
    have hb : (bif (bif f1 then f2 else false) then true else (bif f3 then f4 else false)) = okC c := by
      rw [hc]; cases f1 <;> cases f2 <;> cases f3 <;> cases f4 <;> rfl
    simp only [go_sem, hb]
    refine cw_go tabOK 99 (by simp only [go_sem]; try exact rfl) (by simp [go_sem]) ?_
    refine cw_cond (by simp only [go_sem]; try exact rfl) trivial (fun h => ?_) (fun h => ?_)
    · have h0 : okC c = false := by simpa using h
      refine cw_go tabOK 99 (by simp only [go_sem]; try exact rfl) (by simp [go_sem]) ?_
      refine cw_ret ⟨_, _, (by simp only [go_sem]; try exact rfl), by simp [go_sem], _, .inr (.inl rfl), ?_⟩
      rw [hno h0]
    · have h0 : okC c = true := by simpa using h
      refine cw_go tabOK 99 (by simp only [go_sem, hw]; try exact rfl) (by simp [go_sem, hw]) ?_
      refine cw_back ⟨i + 1, ⟨by omega, hyes h0⟩, by omega, le_sub ?_ ?_ ?_⟩
      · simp [go_sem]
      · simp [go_sem]
      · simp [go_sem]
  · have e : i = s.length := by simp at h; omega
    have : s.all okC = true := List.all_eq_true.2 fun x hx => by
      obtain ⟨j, hj⟩ := List.getElem?_of_mem hx
      have := hs2 j (by rw [e]; exact (List.getElem?_eq_some_iff.1 hj).1)
      rwa [List.getD_eq_getElem?_getD, hj] at this
    refine cw_go tabOK 99 (by simp only [go_sem]; try exact rfl) (by simp [go_sem]) ?_
    refine cw_ret ⟨_, _, (by simp only [go_sem]; try exact rfl), by simp [go_sem], _, .inr (.inl rfl), ?_⟩
    unfold nameB
    rw [this, cond_and, Bool.and_true]
    have h1 : decide ((s.length : Int) > 0) = decide (1 ≤ s.length) := by rw [Bool.eq_iff_iff]; simp only [decide_eq_true_eq]; omega
    have h2 : decide ((s.length : Int) ≤ 8) = decide (s.length ≤ 8) := by rw [Bool.eq_iff_iff]; simp only [decide_eq_true_eq]; omega
    rw [h1, h2]
end La

namespace La
open Go Go.Eng Go.Proofs
set_option maxRecDepth 10000
set_option linter.unusedSimpArgs false
set_option linter.unusedVariables false

/-- WHAT IS HANDED BACK READS WITH EMPTY SLICES IN PLACE OF NIL ONES, whichever way it came. -/
theorem fn_nrmP {P : Program} {f : FuncId} {args : List AV} {H : List (Nat × Blk)} {Y : AV} (h : FnOK P f args H fun r _ => Eng.nrm r = Y) : FnOK P f args H fun r _ => r = Y := by
  intro R0 μ w0 vs hl ha hH hR
  refine (h R0 μ w0 vs hl ha hH hR).mono ?_
  rintro e' w' ⟨v, r, H', μ', S', rfl, rfl, h4, h5⟩
  exact ⟨v, _, H', μ', S', rfl, rfl, h4.nrm, h5⟩

theorem gtr_less (a b : List UInt8) : (!(Op.bytesLess a b || a == b)) = Op.bytesLess b a := by
  rw [less_iff, less_iff, Bool.eq_iff_iff]
  simp only [Bool.not_eq_true', Bool.or_eq_false_iff, decide_eq_false_iff_not, beq_eq_false_iff_ne, ne_eq, decide_eq_true_eq]
  constructor
  · rintro ⟨h1, h2⟩
    by_cases h3 : b < a
    · exact h3
    · exact absurd (stri h1 h3) h2
  · intro h
    exact ⟨fun h1 => sirr _ (strans h h1), fun h1 => by subst h1; exact sirr _ h⟩
theorem nrm_bytes (l : List UInt8) : Eng.nrmR (l.map byteRow) = l.map byteRow := by
  rw [nrmR_map, List.map_map]
  exact List.map_congr_left fun x _ => rfl
theorem nrm_ents (l : List Entry) : Eng.nrmR (l.map entryRow) = l.map entryRow := by
  rw [nrmR_map, List.map_map]
  exact List.map_congr_left fun x _ => rfl

set_option maxHeartbeats 2000000 in
theorem renter_ok (n : Node) (s : List UInt8) (f : Int) (hn : n.entries.length ≤ 10000000) : FnOK Try.prog 77 [.agg (nodeRow n), .str s, .int .i64 f] [] (fun r _ => r = .agg (nodeRow (rEnterN n s f))) := by
  have hle := rleave_ok n s (by omega)
  have hll : (rLeaveE n.entries s).length ≤ n.entries.length := List.length_filter_le _ _
  unfold rEnterN rEnterE
  unfold rLeaveN at hle
  generalize rLeaveE n.entries s = es at *
  have hz : entT s f (es.take es.length) = entT s f es := by rw [List.take_length]
  unfold nodeRow at hle ⊢
  simp only at hle ⊢
  rw [← hz]
  refine fn_of_cwW tabOK (Go.Proofs.Try.func77) rfl (fun C => ?_)
  simp only [Go.Proofs.Try.ntmps77, Go.Proofs.Try.results77, go_sem]
  refine cw_go tabOK 99 (by simp only [go_sem]; try exact rfl) (by simp [go_sem]) ?_
  refine cw_call rfl rfl (by simp only [go_sem]; try exact rfl) (by simp [go_sem]) ⟨_, Go.Proofs.Try.func79, by kernel_rfl, rfl⟩ (by simp [go_sem]) (hle) (by simp [go_sem]) (by simp only [go_sem]; exact rfl) ?_
  refine cw_go tabOK 99 (by simp only [go_sem]; try exact rfl) (by simp [go_sem]) ?_
  refine cw_le (le_empty 38 115 2 (by simp only [go_sem]; try exact rfl)) ?_
  simp only [go_sem]
  refine cw_loopS (fun i : Nat => i ≤ es.length) (fun i => es.length - i) (fun i => [(7, .osl 38 2 0 (entT s f (es.take i)).2.length), (8, .bool (entT s f (es.take i)).1), (10, .any), (17, .int .i64 i), (18, .any), (19, .any), (20, .any), (21, .any), (22, .any), (23, .any), (24, .any), (25, .any), (26, .any), (27, .any), (28, .any), (29, .any), (30, .any), (31, .any), (32, .any), (33, .any), (34, .any), (35, .any), (36, .any), (37, .any), (38, .any), (39, .any)]) (fun i => [(38, .cells 115 2 ((entT s f (es.take i)).2.map entryRow))]) 0 (by omega) ?_ fun i hi => ?_
  · simp only [go_sem]
    exact le_sub (by simp [go_sem, entT]) (by simp [go_sem, entT]) (by simp [go_sem])
  simp only [go_sem]
  refine cw_go tabOK 99 (by simp only [go_sem]; try exact rfl) (by simp [go_sem]) ?_
  refine cw_cond (by simp only [go_sem]; try exact rfl) trivial (fun h => ?_) (fun h => ?_)
  · have hlt : i < es.length := by simp at h; omega
    have hg : (es.map entryRow).getD i [] = entryRow (es.getD i default) := Fam.getD hlt
    have hw : IntKind.i64.wrap ((i : Int) + 1) = ((i + 1 : Nat) : Int) := by rw [Eng.wrap_small (by omega) (by omega)]; rfl
    have htk : entT s f (es.take (i + 1)) = entS s f (entT s f (es.take i)) (es.getD i default) := by rw [take_succ_getD hlt, entT_snoc]
    have hl2 := entT_len s f (es.take i)
    rw [List.length_take] at hl2
    generalize es.getD i default = e at *
    generalize entT s f (es.take i) = q at *
    unfold entS at htk
    have hgt := gtr_less e.name s
    refine cw_go tabOK 99 (by simp only [go_sem, hg, entryRow]; try exact rfl) ?_ ?_
    · simp [hg, entryRow, hlt]
    cases hb : (!q.1 && Op.bytesLess s e.name) with
    | true =>
      rw [hb, if_pos rfl] at htk
      refine cw_condT (by simp only [go_sem]; try exact rfl) trivial (by rw [hgt]; simpa [cond_and] using hb) ?_
      have htq : List.take q.2.length (q.2.map entryRow) = q.2.map entryRow := List.take_of_length_le (by simp)
      have htq2 : List.take (q.2.length + 1) (q.2.map entryRow ++ [[AV.str s, AV.int .i64 f]]) = q.2.map entryRow ++ [[AV.str s, AV.int .i64 f]] := List.take_of_length_le (by simp)
      refine cw_go tabOK 99 (by simp only [go_sem, hw]; try exact rfl) ?_ ?_
      · simp [rowsOf, refs, htq, htq2]
        exact ⟨by omega, by omega, fun x _ y hy => by simp only [entryRow, List.mem_cons, List.not_mem_nil, or_false] at hy; rcases hy with rfl | rfl <;> simp [refs]⟩
      refine cw_back ⟨i + 1, by omega, by omega, le_sub ?_ ?_ ?_⟩
      · simp [go_sem, htk]
      · simp [go_sem, htk, htq2, entryRow]
      · simp [go_sem]
    | false =>
      rw [hb, if_neg Bool.false_ne_true] at htk
      have htq : List.take q.2.length (q.2.map entryRow) = q.2.map entryRow := List.take_of_length_le (by simp)
      refine cw_condF (by simp only [go_sem]; try exact rfl) trivial (by rw [hgt]; simpa [cond_and] using hb) ?_
      refine cw_go tabOK 99 (by simp only [go_sem, hw]; try exact rfl) ?_ ?_
      · simp [rowsOf, refs, htq]
        omega
      refine cw_back ⟨i + 1, by omega, by omega, le_sub ?_ ?_ ?_⟩
      · simp [go_sem, htk]
      · simp [go_sem, htk, entryRow]
      · simp [go_sem]
  · have e : i = es.length := by simp at h; omega
    subst e
    have hl2 := entT_len s f (es.take es.length)
    rw [List.length_take] at hl2
    rw [hz] at hl2 ⊢
    clear hz
    generalize entT s f es = q at *
    have htq : List.take q.2.length (q.2.map entryRow) = q.2.map entryRow := List.take_of_length_le (by simp)
    refine cw_go tabOK 99 (by simp only [go_sem]; try exact rfl) (by simp [go_sem]) ?_
    refine cw_cond (by simp only [go_sem]; try exact rfl) trivial (fun h => ?_) (fun h => ?_)
    · have hq : q.1 = false := by simpa using h
      rw [if_neg (by simp [hq])]
      refine cw_go tabOK 99 (by simp only [go_sem]; try exact rfl) ?_ ?_
      · simp [rowsOf, refs, htq]
        omega
      rw [show q.2.map entryRow ++ [[AV.str s, AV.int .i64 f]] = (q.2 ++ [(⟨s, f⟩ : Entry)]).map entryRow by simp [entryRow]]
      refine cw_freeze 47 rfl (entryRow_pure _) ?_
      simp only [go_sem]
      refine cw_ret ⟨_, _, (by simp only [go_sem]; try exact rfl), by simp [go_sem], _, .inr (.inl rfl), ?_⟩
      simp [entryRow]
      exact List.take_of_length_le (by simp)
    · have hq : q.1 = true := by simpa using h
      rw [if_pos hq]
      refine cw_go tabOK 99 (by simp only [go_sem]; try exact rfl) (by simp [go_sem]) ?_
      refine cw_freeze 38 rfl (entryRow_pure _) ?_
      simp only [go_sem]
      refine cw_ret ⟨_, _, (by simp only [go_sem]; try exact rfl), by simp [go_sem], _, .inr (.inl rfl), ?_⟩
      simp

theorem apply1_ok (n : Node) (v : Int) : FnOK Try.prog 73 [.agg (nodeRow n), .rp [.int .i64 v] 0] [] (fun r _ => r = .agg (nodeRow { n with version := v })) := by
  unfold nodeRow
  refine fn_of_cwW tabOK (Go.Proofs.Try.func73) rfl (fun C => ?_)
  simp only [Go.Proofs.Try.ntmps73, Go.Proofs.Try.results73, go_sem]
  refine cw_go tabOK 99 (by simp only [go_sem]; try exact rfl) (by simp [go_sem]) ?_
  refine cw_ret ⟨_, _, (by simp only [go_sem]; try exact rfl), by simp [go_sem], _, .inr (.inl rfl), ?_⟩
  rfl

theorem rdir_raw (l : List Node) (k : Int) (hu : Up l) : FnOK Try.prog 74 [.rm (mN (mapD l)), .int .i64 k] [] (fun r _ => Eng.nrm r = .tup [.agg (nodeRow (getN l k)), .int .i64 (dirE l k)]) := by
  have hg : mget (mN (mapD l)) k = (findN l k).map fun n => AV.agg (nodeRow n) := by rw [mN_get, mapD_get hu]
  unfold getN dirE
  refine fn_of_cwW tabOK (Go.Proofs.Try.func74) rfl (fun C => ?_)
  simp only [Go.Proofs.Try.ntmps74, Go.Proofs.Try.results74, go_sem]
  cases e : findN l k with
  | none =>
    rw [e] at hg
    simp only [Option.map_none] at hg
    refine cw_go tabOK 99 (by simp only [go_sem, hg]; try exact rfl) (by simp [go_sem, hg]) ?_
    refine cw_cond (by simp only [go_sem]; try exact rfl) trivial (fun h => ?_) (fun h => ?_)
    · refine cw_go tabOK 99 (by simp only [go_sem]; try exact rfl) (by simp [go_sem]) ?_
      refine cw_ret ⟨_, _, by simp only [go_sem]; try exact rfl, by simp [go_sem], _, .inr (.inl rfl), ?_⟩
      rfl
    · cases h
  | some n =>
    rw [e] at hg
    simp only [Option.map_some] at hg
    refine cw_go tabOK 99 (by simp only [go_sem, hg, nodeRow]; try exact rfl) (by simp [go_sem, hg, nodeRow]) ?_
    refine cw_cond (by simp only [go_sem]; try exact rfl) trivial (fun h => ?_) (fun h => ?_)
    · cases h
    refine cw_go tabOK 99 (by simp only [go_sem]; try exact rfl) (by simp [go_sem]) ?_
    refine cw_cond (by simp only [go_sem]; try exact rfl) trivial (fun h => ?_) (fun h => ?_)
    · have hd : n.dir = false := by simpa using h
      refine cw_go tabOK 99 (by simp only [go_sem]; try exact rfl) (by simp [go_sem]) ?_
      refine cw_ret ⟨_, _, by simp only [go_sem]; try exact rfl, by simp [go_sem], _, .inr (.inl rfl), ?_⟩
      simp [hd, Eng.nrm, Eng.nrmL, nodeRow, nrm_bytes, nrm_ents]
    · have hd : n.dir = true := by simpa using h
      refine cw_go tabOK 99 (by simp only [go_sem]; try exact rfl) (by simp [go_sem]) ?_
      refine cw_ret ⟨_, _, by simp only [go_sem]; try exact rfl, by simp [go_sem], _, .inr (.inl rfl), ?_⟩
      simp [hd, Eng.nrm, Eng.nrmL, nodeRow, nrm_bytes, nrm_ents]
theorem rdir_ok (l : List Node) (k : Int) (hu : Up l) : FnOK Try.prog 74 [.rm (mN (mapD l)), .int .i64 k] [] (fun r _ => r = .tup [.agg (nodeRow (getN l k)), .int .i64 (dirE l k)]) := fn_nrmP (rdir_raw l k hu)

theorem isE_entryN (n : Node) (s : List UInt8) : isE n.entries s = (entryN n s).isSome := by
  unfold entryN; split
  · rename_i h; rw [h]; rfl
  · rename_i h; simpa using h

theorem rroom_ok (n : Node) (s : List UInt8) (he : EUp n.entries) (hn : n.entries.length ≤ 100000000) (hs : s.length ≤ 100000000) : FnOK Try.prog 75 [.agg (nodeRow n), .str s] [] (fun r _ => r = .int .i64 (roomE n s)) := by
  have h1 := rentry_ok n s hn
  rw [rEntry_entryN he] at h1
  have hi := isE_entryN n s
  unfold roomE
  unfold nodeRow at h1 ⊢
  have hnm := rname_ok s hs
  generalize nameB s = nb at hnm ⊢
  refine fn_of_cwW tabOK (Go.Proofs.Try.func75) rfl (fun C => ?_)
  simp only [Go.Proofs.Try.ntmps75, Go.Proofs.Try.results75, go_sem]
  refine cw_go tabOK 99 (by simp only [go_sem]; try exact rfl) (by simp [go_sem]) ?_
  cases e : entryN n s with
  | some f =>
    rw [e] at h1 hi
    refine cw_call rfl rfl (by simp only [go_sem]; try exact rfl) (by simp [go_sem]) ⟨_, Go.Proofs.Try.func78, by kernel_rfl, rfl⟩ (by simp [go_sem]) (h1) (by simp [go_sem]) (by simp only [go_sem]; exact rfl) ?_
    refine cw_go tabOK 99 (by simp only [go_sem]; try exact rfl) (by simp [go_sem]) ?_
    refine cw_callC rfl (by simp only [go_sem]; try exact rfl) (by simp only [go_sem]; try exact rfl) (by simp [go_sem]) ⟨_, Go.Proofs.Try.func122, by kernel_rfl, rfl⟩ (by simp [go_sem]) (fun hb => (hnm)) (by simp [go_sem]) (by simp only [go_sem]; exact rfl) ?_
    refine cw_go tabOK 99 (by simp only [go_sem]; try exact rfl) (by simp [go_sem]) ?_
    refine cw_cond (by simp only [go_sem]; try exact rfl) trivial (fun h => ?_) (fun h => ?_)
    · refine cw_go tabOK 99 (by simp only [go_sem]; try exact rfl) (by simp [go_sem]) ?_
      refine cw_ret ⟨_, _, (by simp only [go_sem]; try exact rfl), by simp [go_sem], _, .inr (.inl rfl), ?_⟩
      simp [hi]
    · simp at h
  | none =>
    rw [e] at h1 hi
    refine cw_call rfl rfl (by simp only [go_sem]; try exact rfl) (by simp [go_sem]) ⟨_, Go.Proofs.Try.func78, by kernel_rfl, rfl⟩ (by simp [go_sem]) (h1) (by simp [go_sem]) (by simp only [go_sem]; exact rfl) ?_
    refine cw_go tabOK 99 (by simp only [go_sem]; try exact rfl) (by simp [go_sem]) ?_
    refine cw_callC rfl (by simp only [go_sem]; try exact rfl) (by simp only [go_sem]; try exact rfl) (by simp [go_sem]) ⟨_, Go.Proofs.Try.func122, by kernel_rfl, rfl⟩ (by simp [go_sem]) (fun hb => (hnm)) (by simp [go_sem]) (by simp only [go_sem]; exact rfl) ?_
    cases nb with
    | false =>
      refine cw_go tabOK 99 (by simp only [go_sem]; try exact rfl) (by simp [go_sem]) ?_
      refine cw_cond (by simp only [go_sem]; try exact rfl) trivial (fun h => ?_) (fun h => ?_)
      · refine cw_go tabOK 99 (by simp only [go_sem]; try exact rfl) (by simp [go_sem]) ?_
        refine cw_ret ⟨_, _, (by simp only [go_sem]; try exact rfl), by simp [go_sem], _, .inr (.inl rfl), ?_⟩
        simp
      · simp at h
    | true =>
      refine cw_go tabOK 99 (by simp only [go_sem]; try exact rfl) (by simp [go_sem]) ?_
      refine cw_cond (by simp only [go_sem]; try exact rfl) trivial (fun h => ?_) (fun h => ?_)
      · simp at h
      refine cw_go tabOK 99 (by simp only [go_sem]; try exact rfl) (by simp [go_sem]) ?_
      refine cw_cond (by simp only [go_sem]; try exact rfl) trivial (fun h => ?_) (fun h => ?_)
      · have : 6 ≤ n.entries.length := by simp at h; omega
        refine cw_go tabOK 99 (by simp only [go_sem]; try exact rfl) (by simp [go_sem]) ?_
        refine cw_ret ⟨_, _, (by simp only [go_sem]; try exact rfl), by simp [go_sem], _, .inr (.inl rfl), ?_⟩
        simp [hi, this]
      · have : ¬ 6 ≤ n.entries.length := by simp at h; omega
        refine cw_go tabOK 99 (by simp only [go_sem]; try exact rfl) (by simp [go_sem]) ?_
        refine cw_ret ⟨_, _, (by simp only [go_sem]; try exact rfl), by simp [go_sem], _, .inr (.inl rfl), ?_⟩
        simp [hi, this]

structure RFit (l : List Node) (a : Act) : Prop where
  ri : Ri l
  ent : ∀ n, n ∈ l → n.entries.length ≤ 9999990
  len : l.length ≤ 100000000
  all : (allF (mapD l)).length ≤ 90000000
  name : a.name.length ≤ 100000000
  toName : a.toName.length ≤ 100000000
  data : a.data.length ≤ 100000000
theorem RFit.find {l : List Node} {a : Act} (h : RFit l a) (k : Int) : (getN l k).entries.length ≤ 9999990 := by
  unfold getN
  cases e : findN l k with
  | none => simp [zeroN]
  | some n => exact h.ent n ((findN_some h.ri.up).1 e).1




open Classical in
set_option maxHeartbeats 8000000 in
theorem rapply_ok (l : List Node) (a : Act) (v : Int) (hf : RFit l a) : FnOK Try.prog 28 [.rm (mN (mapD l)), .agg (actRow a), .int .i64 v] [] (fun r _ => r = rApplyA l a v) := by
  have hgf : ∀ k, mget (mN (mapD l)) k = (findN l k).map fun n => AV.agg (nodeRow n) := fun k => by rw [mN_get, mapD_get hf.ri.up]
  have hdir := rdir_ok l a.dir hf.ri.up
  have hdir2 := hdir
  unfold nodeRow at hdir2
  have hee := hf.ri.find a.dir
  have hel := hf.find a.dir
  unfold rApplyA
  refine fn_of_cwW tabOK (Go.Proofs.Try.func28) rfl (fun C => ?_)
  simp only [Go.Proofs.Try.ntmps28, Go.Proofs.Try.results28, go_sem]
  refine cw_goR 99 (by simp only [go_sem]; try exact rfl) ?_
  refine cw_runN tabOK 2 (by simp only [go_sem]; exact rfl) (by simp only [go_sem]; exact rfl) (by simp only [go_sem, actRow]; try exact rfl) (by simp [go_sem, actRow]) ?_
  refine cw_freeze 4 rfl (rfl) ?_
  refine cw_freeze 5 rfl (rfl) ?_
  simp only [go_sem]
  refine cw_go tabOK 99 (by simp only [go_sem]; try exact rfl) (by simp [go_sem]) ?_
  by_cases k1 : a.kind = 1
  · have hE : rApplyE l a = makeE l a := by unfold rApplyE; rw [if_pos k1]
    have hL : rApplyL l a v = makeL l a v := by unfold rApplyL; rw [if_pos k1]
    refine cw_condT (by simp only [go_sem]; try exact rfl) trivial (by simp [k1]) ?_
    refine cw_go tabOK 99 (by simp only [go_sem]; try exact rfl) (by simp [go_sem]) ?_
    refine cw_condT (by simp only [go_sem]; try exact rfl) trivial (by simp [k1]) ?_
    refine cw_go tabOK 99 (by simp only [go_sem]; try exact rfl) (by simp [go_sem]) ?_
    refine cw_call rfl rfl (by simp only [go_sem]; try exact rfl) (by simp [go_sem]) ⟨_, Go.Proofs.Try.func74, by kernel_rfl, rfl⟩ (by simp [go_sem]) (hdir2) (by simp [go_sem]) (by simp only [go_sem]; exact rfl) ?_
    refine cw_go tabOK 99 (by simp only [go_sem]; try exact rfl) (by simp [go_sem]) ?_
    refine cw_cond (by simp only [go_sem]; try exact rfl) trivial (fun h => ?_) (fun h => ?_)
    · have hd : dirE l a.dir ≠ 0 := by simpa using h
      have he : rApplyE l a = dirE l a.dir := by rw [hE]; unfold makeE; rw [if_neg hd]
      rw [he, if_neg hd]
      refine cw_go tabOK 99 (by simp only [go_sem]; try exact rfl) (by simp [go_sem]) ?_
      refine cw_ret ⟨_, _, by simp only [go_sem]; try exact rfl, by simp [go_sem], _, .inr (.inl rfl), ?_⟩
      rfl
    have hd : dirE l a.dir = 0 := by simpa using h
    refine cw_go tabOK 99 (by simp only [go_sem]; try exact rfl) (by simp [go_sem]) ?_
    refine cw_call rfl rfl (by simp only [go_sem]; try exact rfl) (by simp [go_sem]) ⟨_, Go.Proofs.Try.func75, by kernel_rfl, rfl⟩ (by simp [go_sem]) (rroom_ok (getN l a.dir) a.name hee (by omega) hf.name) (by simp [go_sem]) (by simp only [go_sem]; exact rfl) ?_
    refine cw_go tabOK 99 (by simp only [go_sem]; try exact rfl) (by simp [go_sem]) ?_
    refine cw_cond (by simp only [go_sem]; try exact rfl) trivial (fun h => ?_) (fun h => ?_)
    · have hr : roomE (getN l a.dir) a.name ≠ 0 := by simpa using h
      have he : rApplyE l a = roomE (getN l a.dir) a.name := by rw [hE]; unfold makeE; rw [if_pos hd, if_neg hr]
      rw [he, if_neg hr]
      refine cw_go tabOK 99 (by simp only [go_sem]; try exact rfl) (by simp [go_sem]) ?_
      refine cw_ret ⟨_, _, by simp only [go_sem]; try exact rfl, by simp [go_sem], _, .inr (.inl rfl), ?_⟩
      rfl
    have hr : roomE (getN l a.dir) a.name = 0 := by simpa using h
    have hg1 := hgf a.fid
    have hat := isAt_eq l a.fid
    cases hff : findN l a.fid with
    | some x =>
      rw [hff] at hg1 hat
      simp only [Option.map_some] at hg1
      have he : rApplyE l a = 13 := by rw [hE]; unfold makeE; rw [if_pos hd, if_pos hr, hat]; simp
      rw [he]
      refine cw_go tabOK 99 (by simp only [go_sem, hg1, nodeRow, cond_true, cond_false]; try exact rfl) (by simp [go_sem, hg1, nodeRow, cond_true, cond_false]) ?_
      refine cw_cond (by simp only [go_sem]; try exact rfl) trivial (fun h => ?_) (fun h => ?_)
      · refine cw_go tabOK 99 (by simp only [go_sem]; try exact rfl) (by simp [go_sem]) ?_
        refine cw_ret ⟨_, _, by simp only [go_sem]; try exact rfl, by simp [go_sem], _, .inr (.inl rfl), ?_⟩
        simp
      · cases h
    | none =>
      rw [hff] at hg1 hat
      simp only [Option.map_none] at hg1
      refine cw_go tabOK 99 (by simp only [go_sem, hg1, cond_true, cond_false]; try exact rfl) (by simp [go_sem, hg1, cond_true, cond_false]) ?_
      refine cw_cond (by simp only [go_sem]; try exact rfl) trivial (fun h => ?_) (fun h => ?_)
      · have h0 : a.fid = 0 := by simpa using h
        have he : rApplyE l a = 13 := by rw [hE]; unfold makeE; rw [if_pos hd, if_pos hr, hat]; simp [h0]
        rw [he]
        refine cw_go tabOK 99 (by simp only [go_sem]; try exact rfl) (by simp [go_sem]) ?_
        refine cw_ret ⟨_, _, by simp only [go_sem]; try exact rfl, by simp [go_sem], _, .inr (.inl rfl), ?_⟩
        simp
      have h0 : a.fid ≠ 0 := by simpa using h
      refine cw_go tabOK 99 (by simp only [go_sem, mN_len, mapD_len hf.ri.up]; try exact rfl) (by simp [go_sem, mN_len, mapD_len hf.ri.up]) ?_
      refine cw_cond (by simp only [go_sem]; try exact rfl) trivial (fun h => ?_) (fun h => ?_)
      · have h24 : l.length ≥ 24 := by simp at h; omega
        have he : rApplyE l a = 5 := by rw [hE]; unfold makeE; rw [if_pos hd, if_pos hr, hat, if_neg (by simp [h0]), if_pos h24]
        rw [he]
        refine cw_go tabOK 99 (by simp only [go_sem]; try exact rfl) (by simp [go_sem]) ?_
        refine cw_ret ⟨_, _, by simp only [go_sem]; try exact rfl, by simp [go_sem], _, .inr (.inl rfl), ?_⟩
        simp
      have h24 : ¬ l.length ≥ 24 := by simp at h; omega
      have he0 : makeE l a = 0 := by unfold makeE; rw [if_pos hd, if_pos hr, hat, if_neg (by simp [h0]), if_neg h24]
      have he : rApplyE l a = 0 := by rw [hE, he0]
      have hLL : rApplyL l a v = putN (putN l { enterN (getN l a.dir) a.name a.fid with version := v }) (madeN a v) := by rw [hL]; unfold makeL; rw [if_pos he0]
      have hent := renter_ok (getN l a.dir) a.name a.fid (by omega)
      rw [rEnterN_enterN hee (roomE_free hr).2] at hent
      have hp1 : mput (mapD l) (getN l a.dir).fid { enterN (getN l a.dir) a.name a.fid with version := v } = mapD (putN l { enterN (getN l a.dir) a.name a.fid with version := v }) := mapD_put hf.ri.up { enterN (getN l a.dir) a.name a.fid with version := v }
      have hw1 := with_ok (mapD l) { enterN (getN l a.dir) a.name a.fid with version := v } (mapD_rise l)
      rw [show ({ enterN (getN l a.dir) a.name a.fid with version := v } : Node).fid = (getN l a.dir).fid from rfl, hp1] at hw1
      have hw2 := with_ok (mapD (putN l { enterN (getN l a.dir) a.name a.fid with version := v })) (madeN a v) (mapD_rise _)
      rw [mapD_put (putN_up hf.ri.up _).1] at hw2
      rw [he, if_pos rfl, hLL]
      unfold nodeRow at hent hw1 hw2
      simp only [madeN] at hw2
      refine cw_go tabOK 99 (by simp only [go_sem]; try exact rfl) (by simp [go_sem]) ?_
      refine cw_draw mixed ?_
      refine seg_start rfl ?_
      refine seg_runN tabOK 7 (by simp only [go_sem]; exact rfl) (by simp only [go_sem]; exact rfl) (by simp only [go_sem]; try exact rfl) (by simp [go_sem]) (by simp only [go_sem]; exact rfl) ?_
      refine seg_call rfl rfl (by simp only [go_sem]; try exact rfl) (by simp [go_sem]) ⟨_, Go.Proofs.Try.func77, by kernel_rfl, rfl⟩ (by simp [go_sem]) (hent) (by simp [go_sem]) (by simp only [go_sem]; exact rfl) (by simp only [go_sem]; exact rfl) ?_
      refine seg_call rfl rfl (by simp only [go_sem]; try exact rfl) (by simp [go_sem]) ⟨_, Go.Proofs.Try.func73, by kernel_rfl, rfl⟩ (by simp [go_sem]) (apply1_ok (enterN (getN l a.dir) a.name a.fid) v) (by simp [go_sem]) (by simp only [go_sem]; exact rfl) (by simp only [go_sem]; exact rfl) ?_
      refine seg_call rfl rfl (by simp only [go_sem]; try exact rfl) (by simp [go_sem]) ⟨_, Go.Proofs.Try.func76, by kernel_rfl, rfl⟩ (by simp [go_sem]) (hw1) (by simp [go_sem]) (by simp only [go_sem]; exact rfl) (by simp only [go_sem]; exact rfl) ?_
      refine seg_runN tabOK 6 (by simp only [go_sem]; exact rfl) (by simp only [go_sem]; exact rfl) (by simp only [go_sem]; try exact rfl) (by simp [go_sem]) (by simp only [go_sem]; exact rfl) ?_
      refine seg_build tabOK rfl (by simp only [go_sem]; try exact rfl) (by simp only [go_sem]; try exact rfl) (by simp [go_sem]) (by simp only [go_sem, cond_true, cond_false]; exact rfl) (by simp only [go_sem]; exact rfl) (by simp only [go_sem]; exact rfl) ?_
      refine seg_call rfl rfl (by simp only [go_sem]; try exact rfl) (by simp [go_sem]) ⟨_, Go.Proofs.Try.func73, by kernel_rfl, rfl⟩ (by simp [go_sem]) (by exact FnOK.nrm rfl (apply1_ok ⟨a.fid, a.kind == 2, [], [], 0⟩ v)) (by simp [go_sem]) (by simp only [go_sem]; exact rfl) (by simp only [go_sem]; exact rfl) ?_
      refine seg_call rfl rfl (by simp only [go_sem]; try exact rfl) (by simp [go_sem]) ⟨_, Go.Proofs.Try.func76, by kernel_rfl, rfl⟩ (by simp [go_sem]) (hw2) (by simp [go_sem]) (by simp only [go_sem]; exact rfl) (by simp only [go_sem]; exact rfl) ?_
      refine seg_runN tabOK 2 (by simp only [go_sem]; exact rfl) (by simp only [go_sem]; exact rfl) (by simp only [go_sem]; try exact rfl) (by simp [go_sem]) (by simp only [go_sem]; exact rfl) ?_
      refine seg_end (by kernel_rfl) (by simp only [go_sem]; exact rfl) ?_
      refine draw_close (by kernel_rfl) ?_
      refine cw_go tabOK 99 (by simp only [go_sem]; try exact rfl) (by simp [go_sem]) ?_
      refine cw_ret ⟨_, _, by simp only [go_sem]; try exact rfl, by simp [go_sem], _, .inr (.inl rfl), ?_⟩
      rfl
  refine cw_condF (by simp only [go_sem]; try exact rfl) trivial (by simp [k1]) ?_
  refine cw_go tabOK 99 (by simp only [go_sem]; try exact rfl) (by simp [go_sem]) ?_
  by_cases k2 : a.kind = 2
  · have hE : rApplyE l a = makeE l a := by unfold rApplyE; rw [if_neg k1, if_pos k2]
    have hL : rApplyL l a v = makeL l a v := by unfold rApplyL; rw [if_neg k1, if_pos k2]
    refine cw_condT (by simp only [go_sem]; try exact rfl) trivial (by simp [k2]) ?_
    refine cw_go tabOK 99 (by simp only [go_sem]; try exact rfl) (by simp [go_sem]) ?_
    refine cw_call rfl rfl (by simp only [go_sem]; try exact rfl) (by simp [go_sem]) ⟨_, Go.Proofs.Try.func74, by kernel_rfl, rfl⟩ (by simp [go_sem]) (hdir2) (by simp [go_sem]) (by simp only [go_sem]; exact rfl) ?_
    refine cw_go tabOK 99 (by simp only [go_sem]; try exact rfl) (by simp [go_sem]) ?_
    refine cw_cond (by simp only [go_sem]; try exact rfl) trivial (fun h => ?_) (fun h => ?_)
    · have hd : dirE l a.dir ≠ 0 := by simpa using h
      have he : rApplyE l a = dirE l a.dir := by rw [hE]; unfold makeE; rw [if_neg hd]
      rw [he, if_neg hd]
      refine cw_go tabOK 99 (by simp only [go_sem]; try exact rfl) (by simp [go_sem]) ?_
      refine cw_ret ⟨_, _, by simp only [go_sem]; try exact rfl, by simp [go_sem], _, .inr (.inl rfl), ?_⟩
      rfl
    have hd : dirE l a.dir = 0 := by simpa using h
    refine cw_go tabOK 99 (by simp only [go_sem]; try exact rfl) (by simp [go_sem]) ?_
    refine cw_call rfl rfl (by simp only [go_sem]; try exact rfl) (by simp [go_sem]) ⟨_, Go.Proofs.Try.func75, by kernel_rfl, rfl⟩ (by simp [go_sem]) (rroom_ok (getN l a.dir) a.name hee (by omega) hf.name) (by simp [go_sem]) (by simp only [go_sem]; exact rfl) ?_
    refine cw_go tabOK 99 (by simp only [go_sem]; try exact rfl) (by simp [go_sem]) ?_
    refine cw_cond (by simp only [go_sem]; try exact rfl) trivial (fun h => ?_) (fun h => ?_)
    · have hr : roomE (getN l a.dir) a.name ≠ 0 := by simpa using h
      have he : rApplyE l a = roomE (getN l a.dir) a.name := by rw [hE]; unfold makeE; rw [if_pos hd, if_neg hr]
      rw [he, if_neg hr]
      refine cw_go tabOK 99 (by simp only [go_sem]; try exact rfl) (by simp [go_sem]) ?_
      refine cw_ret ⟨_, _, by simp only [go_sem]; try exact rfl, by simp [go_sem], _, .inr (.inl rfl), ?_⟩
      rfl
    have hr : roomE (getN l a.dir) a.name = 0 := by simpa using h
    have hg1 := hgf a.fid
    have hat := isAt_eq l a.fid
    cases hff : findN l a.fid with
    | some x =>
      rw [hff] at hg1 hat
      simp only [Option.map_some] at hg1
      have he : rApplyE l a = 13 := by rw [hE]; unfold makeE; rw [if_pos hd, if_pos hr, hat]; simp
      rw [he]
      refine cw_go tabOK 99 (by simp only [go_sem, hg1, nodeRow, cond_true, cond_false]; try exact rfl) (by simp [go_sem, hg1, nodeRow, cond_true, cond_false]) ?_
      refine cw_cond (by simp only [go_sem]; try exact rfl) trivial (fun h => ?_) (fun h => ?_)
      · refine cw_go tabOK 99 (by simp only [go_sem]; try exact rfl) (by simp [go_sem]) ?_
        refine cw_ret ⟨_, _, by simp only [go_sem]; try exact rfl, by simp [go_sem], _, .inr (.inl rfl), ?_⟩
        simp
      · cases h
    | none =>
      rw [hff] at hg1 hat
      simp only [Option.map_none] at hg1
      refine cw_go tabOK 99 (by simp only [go_sem, hg1, cond_true, cond_false]; try exact rfl) (by simp [go_sem, hg1, cond_true, cond_false]) ?_
      refine cw_cond (by simp only [go_sem]; try exact rfl) trivial (fun h => ?_) (fun h => ?_)
      · have h0 : a.fid = 0 := by simpa using h
        have he : rApplyE l a = 13 := by rw [hE]; unfold makeE; rw [if_pos hd, if_pos hr, hat]; simp [h0]
        rw [he]
        refine cw_go tabOK 99 (by simp only [go_sem]; try exact rfl) (by simp [go_sem]) ?_
        refine cw_ret ⟨_, _, by simp only [go_sem]; try exact rfl, by simp [go_sem], _, .inr (.inl rfl), ?_⟩
        simp
      have h0 : a.fid ≠ 0 := by simpa using h
      refine cw_go tabOK 99 (by simp only [go_sem, mN_len, mapD_len hf.ri.up]; try exact rfl) (by simp [go_sem, mN_len, mapD_len hf.ri.up]) ?_
      refine cw_cond (by simp only [go_sem]; try exact rfl) trivial (fun h => ?_) (fun h => ?_)
      · have h24 : l.length ≥ 24 := by simp at h; omega
        have he : rApplyE l a = 5 := by rw [hE]; unfold makeE; rw [if_pos hd, if_pos hr, hat, if_neg (by simp [h0]), if_pos h24]
        rw [he]
        refine cw_go tabOK 99 (by simp only [go_sem]; try exact rfl) (by simp [go_sem]) ?_
        refine cw_ret ⟨_, _, by simp only [go_sem]; try exact rfl, by simp [go_sem], _, .inr (.inl rfl), ?_⟩
        simp
      have h24 : ¬ l.length ≥ 24 := by simp at h; omega
      have he0 : makeE l a = 0 := by unfold makeE; rw [if_pos hd, if_pos hr, hat, if_neg (by simp [h0]), if_neg h24]
      have he : rApplyE l a = 0 := by rw [hE, he0]
      have hLL : rApplyL l a v = putN (putN l { enterN (getN l a.dir) a.name a.fid with version := v }) (madeN a v) := by rw [hL]; unfold makeL; rw [if_pos he0]
      have hent := renter_ok (getN l a.dir) a.name a.fid (by omega)
      rw [rEnterN_enterN hee (roomE_free hr).2] at hent
      have hp1 : mput (mapD l) (getN l a.dir).fid { enterN (getN l a.dir) a.name a.fid with version := v } = mapD (putN l { enterN (getN l a.dir) a.name a.fid with version := v }) := mapD_put hf.ri.up { enterN (getN l a.dir) a.name a.fid with version := v }
      have hw1 := with_ok (mapD l) { enterN (getN l a.dir) a.name a.fid with version := v } (mapD_rise l)
      rw [show ({ enterN (getN l a.dir) a.name a.fid with version := v } : Node).fid = (getN l a.dir).fid from rfl, hp1] at hw1
      have hw2 := with_ok (mapD (putN l { enterN (getN l a.dir) a.name a.fid with version := v })) (madeN a v) (mapD_rise _)
      rw [mapD_put (putN_up hf.ri.up _).1] at hw2
      rw [he, if_pos rfl, hLL]
      unfold nodeRow at hent hw1 hw2
      simp only [madeN] at hw2
      refine cw_go tabOK 99 (by simp only [go_sem]; try exact rfl) (by simp [go_sem]) ?_
      refine cw_draw mixed ?_
      refine seg_start rfl ?_
      refine seg_runN tabOK 7 (by simp only [go_sem]; exact rfl) (by simp only [go_sem]; exact rfl) (by simp only [go_sem]; try exact rfl) (by simp [go_sem]) (by simp only [go_sem]; exact rfl) ?_
      refine seg_call rfl rfl (by simp only [go_sem]; try exact rfl) (by simp [go_sem]) ⟨_, Go.Proofs.Try.func77, by kernel_rfl, rfl⟩ (by simp [go_sem]) (hent) (by simp [go_sem]) (by simp only [go_sem]; exact rfl) (by simp only [go_sem]; exact rfl) ?_
      refine seg_call rfl rfl (by simp only [go_sem]; try exact rfl) (by simp [go_sem]) ⟨_, Go.Proofs.Try.func73, by kernel_rfl, rfl⟩ (by simp [go_sem]) (apply1_ok (enterN (getN l a.dir) a.name a.fid) v) (by simp [go_sem]) (by simp only [go_sem]; exact rfl) (by simp only [go_sem]; exact rfl) ?_
      refine seg_call rfl rfl (by simp only [go_sem]; try exact rfl) (by simp [go_sem]) ⟨_, Go.Proofs.Try.func76, by kernel_rfl, rfl⟩ (by simp [go_sem]) (hw1) (by simp [go_sem]) (by simp only [go_sem]; exact rfl) (by simp only [go_sem]; exact rfl) ?_
      refine seg_runN tabOK 6 (by simp only [go_sem]; exact rfl) (by simp only [go_sem]; exact rfl) (by simp only [go_sem]; try exact rfl) (by simp [go_sem]) (by simp only [go_sem]; exact rfl) ?_
      refine seg_build tabOK rfl (by simp only [go_sem]; try exact rfl) (by simp only [go_sem]; try exact rfl) (by simp [go_sem]) (by simp only [go_sem, cond_true, cond_false]; exact rfl) (by simp only [go_sem]; exact rfl) (by simp only [go_sem]; exact rfl) ?_
      refine seg_call rfl rfl (by simp only [go_sem]; try exact rfl) (by simp [go_sem]) ⟨_, Go.Proofs.Try.func73, by kernel_rfl, rfl⟩ (by simp [go_sem]) (by exact FnOK.nrm rfl (apply1_ok ⟨a.fid, a.kind == 2, [], [], 0⟩ v)) (by simp [go_sem]) (by simp only [go_sem]; exact rfl) (by simp only [go_sem]; exact rfl) ?_
      refine seg_call rfl rfl (by simp only [go_sem]; try exact rfl) (by simp [go_sem]) ⟨_, Go.Proofs.Try.func76, by kernel_rfl, rfl⟩ (by simp [go_sem]) (hw2) (by simp [go_sem]) (by simp only [go_sem]; exact rfl) (by simp only [go_sem]; exact rfl) ?_
      refine seg_runN tabOK 2 (by simp only [go_sem]; exact rfl) (by simp only [go_sem]; exact rfl) (by simp only [go_sem]; try exact rfl) (by simp [go_sem]) (by simp only [go_sem]; exact rfl) ?_
      refine seg_end (by kernel_rfl) (by simp only [go_sem]; exact rfl) ?_
      refine draw_close (by kernel_rfl) ?_
      refine cw_go tabOK 99 (by simp only [go_sem]; try exact rfl) (by simp [go_sem]) ?_
      refine cw_ret ⟨_, _, by simp only [go_sem]; try exact rfl, by simp [go_sem], _, .inr (.inl rfl), ?_⟩
      rfl
  refine cw_condF (by simp only [go_sem]; try exact rfl) trivial (by simp [k2]) ?_
  refine cw_go tabOK 99 (by simp only [go_sem]; try exact rfl) (by simp [go_sem]) ?_
  have hkE : rApplyE l a = if a.kind = 3 then storeE l a else if a.kind = 4 then removeE l a else if a.kind = 5 then rRenameE l a else 1 := by unfold rApplyE; rw [if_neg k1, if_neg k2]
  have hkL : rApplyL l a v = if a.kind = 3 then storeL l a v else if a.kind = 4 then removeL l a v else if a.kind = 5 then rRenameL l a v else l := by unfold rApplyL; rw [if_neg k1, if_neg k2]
  by_cases k3 : a.kind = 3
  · have hE : rApplyE l a = storeE l a := by rw [hkE, if_pos k3]
    have hL : rApplyL l a v = storeL l a v := by rw [hkL, if_pos k3]
    refine cw_condT (by simp only [go_sem]; try exact rfl) trivial (by simp [k3]) ?_
    have hg1 := hgf a.fid
    cases hff : findN l a.fid with
    | none =>
      rw [hff] at hg1
      simp only [Option.map_none] at hg1
      have he : rApplyE l a = 12 := by rw [hE]; unfold storeE; rw [hff]
      rw [he]
      refine cw_go tabOK 99 (by simp only [go_sem, hg1]; try exact rfl) (by simp [go_sem, hg1]) ?_
      refine cw_cond (by simp only [go_sem]; try exact rfl) trivial (fun h => ?_) (fun h => ?_)
      · refine cw_go tabOK 99 (by simp only [go_sem]; try exact rfl) (by simp [go_sem]) ?_
        refine cw_ret ⟨_, _, by simp only [go_sem]; try exact rfl, by simp [go_sem], _, .inr (.inl rfl), ?_⟩
        simp
      · cases h
    | some x =>
      rw [hff] at hg1
      simp only [Option.map_some] at hg1
      have hgn : getN l a.fid = x := by unfold getN; rw [hff]; rfl
      have hsE : storeE l a = if x.dir then 9 else if a.data.length > 20 then 4 else 0 := by unfold storeE; rw [hff]
      refine cw_go tabOK 99 (by simp only [go_sem, hg1, nodeRow]; try exact rfl) (by simp [go_sem, hg1, nodeRow]) ?_
      refine cw_cond (by simp only [go_sem]; try exact rfl) trivial (fun h => ?_) (fun h => ?_)
      · cases h
      refine cw_go tabOK 99 (by simp only [go_sem]; try exact rfl) (by simp [go_sem]) ?_
      refine cw_cond (by simp only [go_sem]; try exact rfl) trivial (fun h => ?_) (fun h => ?_)
      · have hd : x.dir = true := by simpa using h
        have he : rApplyE l a = 9 := by rw [hE, hsE, if_pos hd]
        rw [he]
        refine cw_go tabOK 99 (by simp only [go_sem]; try exact rfl) (by simp [go_sem]) ?_
        refine cw_ret ⟨_, _, by simp only [go_sem]; try exact rfl, by simp [go_sem], _, .inr (.inl rfl), ?_⟩
        simp
      have hd : x.dir = false := by simpa using h
      refine cw_go tabOK 99 (by simp only [go_sem]; try exact rfl) (by simp [go_sem]) ?_
      refine cw_cond (by simp only [go_sem]; try exact rfl) trivial (fun h => ?_) (fun h => ?_)
      · have h20 : a.data.length > 20 := by simp at h; omega
        have he : rApplyE l a = 4 := by rw [hE, hsE, if_neg (by simp [hd]), if_pos h20]
        rw [he]
        refine cw_go tabOK 99 (by simp only [go_sem]; try exact rfl) (by simp [go_sem]) ?_
        refine cw_ret ⟨_, _, by simp only [go_sem]; try exact rfl, by simp [go_sem], _, .inr (.inl rfl), ?_⟩
        simp
      have h20 : ¬ a.data.length > 20 := by simp at h; omega
      have he0 : storeE l a = 0 := by rw [hsE, if_neg (by simp [hd]), if_neg h20]
      have he : rApplyE l a = 0 := by rw [hE, he0]
      have hLL : rApplyL l a v = putN l { x with data := a.data, version := v } := by rw [hL]; unfold storeL; rw [if_pos he0, hgn]
      have hw1 := with_ok (mapD l) { x with data := a.data, version := v } (mapD_rise l)
      rw [mapD_put hf.ri.up] at hw1
      unfold nodeRow at hw1
      rw [he, if_pos rfl, hLL]
      refine cw_go tabOK 99 (by simp only [go_sem]; try exact rfl) (by simp [go_sem]) ?_
      refine cw_call rfl rfl (by simp only [go_sem]; try exact rfl) (by simp [go_sem]) ⟨_, Go.Proofs.Try.func73, by kernel_rfl, rfl⟩ (by simp [go_sem]) (apply1_ok { x with data := a.data } v) (by simp [go_sem]) (by simp only [go_sem]; exact rfl) ?_
      refine cw_call rfl rfl (by simp only [go_sem]; try exact rfl) (by simp [go_sem]) ⟨_, Go.Proofs.Try.func76, by kernel_rfl, rfl⟩ (by simp [go_sem]) (hw1) (by simp [go_sem]) (by simp only [go_sem]; exact rfl) ?_
      refine cw_go tabOK 99 (by simp only [go_sem]; try exact rfl) (by simp [go_sem]) ?_
      refine cw_ret ⟨_, _, by simp only [go_sem]; try exact rfl, by simp [go_sem], _, .inr (.inl rfl), ?_⟩
      rfl
  refine cw_condF (by simp only [go_sem]; try exact rfl) trivial (by simp [k3]) ?_
  rw [if_neg k3] at hkE hkL
  refine cw_go tabOK 99 (by simp only [go_sem]; try exact rfl) (by simp [go_sem]) ?_
  have hen := rentry_ok (getN l a.dir) a.name (by omega)
  rw [rEntry_entryN hee] at hen
  have hg1 := hgf a.fid
  by_cases k4 : a.kind = 4
  · have hE : rApplyE l a = removeE l a := by rw [hkE, if_pos k4]
    have hL : rApplyL l a v = removeL l a v := by rw [hkL, if_pos k4]
    have hN : namedE l a ≠ 0 → rApplyE l a = namedE l a := fun h => by rw [hE]; unfold removeE; rw [if_neg h]
    refine cw_condT (by simp only [go_sem]; try exact rfl) trivial (by simp [k4]) ?_
    refine cw_go tabOK 99 (by simp only [go_sem]; try exact rfl) (by simp [go_sem]) ?_
    refine cw_condT (by simp only [go_sem]; try exact rfl) trivial (by simp [k4]) ?_
    refine cw_go tabOK 99 (by simp only [go_sem]; try exact rfl) (by simp [go_sem]) ?_
    refine cw_call rfl rfl (by simp only [go_sem]; try exact rfl) (by simp [go_sem]) ⟨_, Go.Proofs.Try.func74, by kernel_rfl, rfl⟩ (by simp [go_sem]) (hdir2) (by simp [go_sem]) (by simp only [go_sem]; exact rfl) ?_
    refine cw_go tabOK 99 (by simp only [go_sem]; try exact rfl) (by simp [go_sem]) ?_
    refine cw_cond (by simp only [go_sem]; try exact rfl) trivial (fun h => ?_) (fun h => ?_)
    · have hd : dirE l a.dir ≠ 0 := by simpa using h
      have hne : namedE l a = dirE l a.dir := by unfold namedE; rw [if_neg hd]
      rw [hN (by rw [hne]; exact hd), hne, if_neg hd]
      refine cw_go tabOK 99 (by simp only [go_sem]; try exact rfl) (by simp [go_sem]) ?_
      refine cw_ret ⟨_, _, by simp only [go_sem]; try exact rfl, by simp [go_sem], _, .inr (.inl rfl), ?_⟩
      rfl
    have hd : dirE l a.dir = 0 := by simpa using h
    have hlv := rleave_ok (getN l a.dir) a.name (by omega)
    have hw1 := with_ok (mapD l) { leaveN (getN l a.dir) a.name with version := v } (mapD_rise l)
    rw [mapD_put hf.ri.up] at hw1
    unfold nodeRow at hw1 hlv hen
    refine cw_go tabOK 99 (by simp only [go_sem]; try exact rfl) (by simp [go_sem]) ?_
    cases hent : entryN (getN l a.dir) a.name with
    | none =>
      rw [hent] at hen
      have hne : namedE l a = 6 := by unfold namedE; rw [if_pos hd, hent]
      rw [hN (by rw [hne]; decide), hne]
      refine cw_call rfl rfl (by simp only [go_sem]; try exact rfl) (by simp [go_sem]) ⟨_, Go.Proofs.Try.func78, by kernel_rfl, rfl⟩ (by simp [go_sem]) (hen) (by simp [go_sem]) (by simp only [go_sem]; exact rfl) ?_
      refine cw_go tabOK 99 (by simp only [go_sem]; try exact rfl) (by simp [go_sem]) ?_
      refine cw_cond (by simp only [go_sem]; try exact rfl) trivial (fun h => ?_) (fun h => ?_)
      · refine cw_go tabOK 99 (by simp only [go_sem]; try exact rfl) (by simp [go_sem]) ?_
        refine cw_ret ⟨_, _, by simp only [go_sem]; try exact rfl, by simp [go_sem], _, .inr (.inl rfl), ?_⟩
        simp
      · cases h
    | some f =>
    rw [hent] at hen
    refine cw_call rfl rfl (by simp only [go_sem]; try exact rfl) (by simp [go_sem]) ⟨_, Go.Proofs.Try.func78, by kernel_rfl, rfl⟩ (by simp [go_sem]) (hen) (by simp [go_sem]) (by simp only [go_sem]; exact rfl) ?_
    refine cw_go tabOK 99 (by simp only [go_sem]; try exact rfl) (by simp [go_sem]) ?_
    refine cw_cond (by simp only [go_sem]; try exact rfl) trivial (fun h => ?_) (fun h => ?_)
    · cases h
    refine cw_go tabOK 99 (by simp only [go_sem]; try exact rfl) (by simp [go_sem]) ?_
    refine cw_cond (by simp only [go_sem]; try exact rfl) trivial (fun h => ?_) (fun h => ?_)
    · have hff : f ≠ a.fid := by simpa using h
      have hne : namedE l a = 13 := by unfold namedE; rw [if_pos hd, hent]; simp [hff]
      rw [hN (by rw [hne]; decide), hne]
      refine cw_go tabOK 99 (by simp only [go_sem]; try exact rfl) (by simp [go_sem]) ?_
      refine cw_ret ⟨_, _, by simp only [go_sem]; try exact rfl, by simp [go_sem], _, .inr (.inl rfl), ?_⟩
      simp
    have hff : f = a.fid := by simpa using h
    subst hff
    have hn0 : namedE l a = 0 := by unfold namedE; rw [if_pos hd, hent]; simp
    cases hff : findN l a.fid with
    | none =>
      rw [hff] at hg1
      simp only [Option.map_none] at hg1
      have he : rApplyE l a = 12 := by rw [hE]; unfold removeE; rw [if_pos hn0, hff]
      rw [he]
      refine cw_go tabOK 99 (by simp only [go_sem, hg1]; try exact rfl) (by simp [go_sem, hg1]) ?_
      refine cw_condT (by simp only [go_sem]; try exact rfl) trivial (by simp [k4]) ?_
      refine cw_go tabOK 99 (by simp only [go_sem]; try exact rfl) (by simp [go_sem]) ?_
      refine cw_cond (by simp only [go_sem]; try exact rfl) trivial (fun h => ?_) (fun h => ?_)
      · refine cw_go tabOK 99 (by simp only [go_sem]; try exact rfl) (by simp [go_sem]) ?_
        refine cw_ret ⟨_, _, by simp only [go_sem]; try exact rfl, by simp [go_sem], _, .inr (.inl rfl), ?_⟩
        simp
      · cases h
    | some x =>
      rw [hff] at hg1
      simp only [Option.map_some] at hg1
      have hrE : removeE l a = if x.entries.length > 0 then 10 else 0 := by unfold removeE; rw [if_pos hn0, hff]
      refine cw_go tabOK 99 (by simp only [go_sem, hg1, nodeRow]; try exact rfl) (by simp [go_sem, hg1, nodeRow]) ?_
      refine cw_condT (by simp only [go_sem]; try exact rfl) trivial (by simp [k4]) ?_
      refine cw_go tabOK 99 (by simp only [go_sem]; try exact rfl) (by simp [go_sem]) ?_
      refine cw_cond (by simp only [go_sem]; try exact rfl) trivial (fun h => ?_) (fun h => ?_)
      · cases h
      refine cw_go tabOK 99 (by simp only [go_sem]; try exact rfl) (by simp [go_sem]) ?_
      refine cw_cond (by simp only [go_sem]; try exact rfl) trivial (fun h => ?_) (fun h => ?_)
      · have hx : x.entries.length > 0 := by simp at h; omega
        have he : rApplyE l a = 10 := by rw [hE, hrE, if_pos hx]
        rw [he]
        refine cw_go tabOK 99 (by simp only [go_sem]; try exact rfl) (by simp [go_sem]) ?_
        refine cw_ret ⟨_, _, by simp only [go_sem]; try exact rfl, by simp [go_sem], _, .inr (.inl rfl), ?_⟩
        simp
      have hx : ¬ x.entries.length > 0 := by simp at h; simp [h]
      have he0 : removeE l a = 0 := by rw [hrE, if_neg hx]
      have he : rApplyE l a = 0 := by rw [hE, he0]
      have hLL : rApplyL l a v = dropN (putN l { leaveN (getN l a.dir) a.name with version := v }) a.fid := by rw [hL]; unfold removeL; rw [if_pos he0]
      rw [he, if_pos rfl, hLL]
      have hw2 := without_ok (mapD (putN l { leaveN (getN l a.dir) a.name with version := v })) a.fid (mapD_rise _)
      rw [mapD_del (putN_up hf.ri.up _).1] at hw2
      refine cw_go tabOK 99 (by simp only [go_sem]; try exact rfl) (by simp [go_sem]) ?_
      refine cw_draw mixed ?_
      refine seg_start rfl ?_
      refine seg_runN tabOK 5 (by simp only [go_sem]; exact rfl) (by simp only [go_sem]; exact rfl) (by simp only [go_sem]; try exact rfl) (by simp [go_sem]) (by simp only [go_sem]; exact rfl) ?_
      refine seg_call rfl rfl (by simp only [go_sem]; try exact rfl) (by simp [go_sem]) ⟨_, Go.Proofs.Try.func79, by kernel_rfl, rfl⟩ (by simp [go_sem]) (hlv) (by simp [go_sem]) (by simp only [go_sem]; exact rfl) (by simp only [go_sem]; exact rfl) ?_
      refine seg_call rfl rfl (by simp only [go_sem]; try exact rfl) (by simp [go_sem]) ⟨_, Go.Proofs.Try.func73, by kernel_rfl, rfl⟩ (by simp [go_sem]) (apply1_ok (leaveN (getN l a.dir) a.name) v) (by simp [go_sem]) (by simp only [go_sem]; exact rfl) (by simp only [go_sem]; exact rfl) ?_
      refine seg_call rfl rfl (by simp only [go_sem]; try exact rfl) (by simp [go_sem]) ⟨_, Go.Proofs.Try.func76, by kernel_rfl, rfl⟩ (by simp [go_sem]) (hw1) (by simp [go_sem]) (by simp only [go_sem]; exact rfl) (by simp only [go_sem]; exact rfl) ?_
      refine seg_runN tabOK 2 (by simp only [go_sem]; exact rfl) (by simp only [go_sem]; exact rfl) (by simp only [go_sem]; try exact rfl) (by simp [go_sem]) (by simp only [go_sem]; exact rfl) ?_
      refine seg_call rfl rfl (by simp only [go_sem]; try exact rfl) (by simp [go_sem]) ⟨_, Go.Proofs.Try.func80, by kernel_rfl, rfl⟩ (by simp [go_sem]) (hw2) (by simp [go_sem]) (by simp only [go_sem]; exact rfl) (by simp only [go_sem]; exact rfl) ?_
      refine seg_runN tabOK 2 (by simp only [go_sem]; exact rfl) (by simp only [go_sem]; exact rfl) (by simp only [go_sem]; try exact rfl) (by simp [go_sem]) (by simp only [go_sem]; exact rfl) ?_
      refine seg_end (by kernel_rfl) (by simp only [go_sem]; exact rfl) ?_
      refine draw_close (by kernel_rfl) ?_
      refine cw_go tabOK 99 (by simp only [go_sem]; try exact rfl) (by simp [go_sem]) ?_
      refine cw_ret ⟨_, _, by simp only [go_sem]; try exact rfl, by simp [go_sem], _, .inr (.inl rfl), ?_⟩
      rfl
  refine cw_condF (by simp only [go_sem]; try exact rfl) trivial (by simp [k4]) ?_
  refine cw_go tabOK 99 (by simp only [go_sem]; try exact rfl) (by simp [go_sem]) ?_
  rw [if_neg k4] at hkE hkL
  by_cases k5 : a.kind = 5
  · have hE : rApplyE l a = rRenameE l a := by rw [hkE, if_pos k5]
    have hL : rApplyL l a v = rRenameL l a v := by rw [hkL, if_pos k5]
    have hN : namedE l a ≠ 0 → rApplyE l a = namedE l a := fun h => by rw [hE]; unfold rRenameE; rw [if_neg h]
    refine cw_condT (by simp only [go_sem]; try exact rfl) trivial (by simp [k5]) ?_
    refine cw_go tabOK 99 (by simp only [go_sem]; try exact rfl) (by simp [go_sem]) ?_
    refine cw_call rfl rfl (by simp only [go_sem]; try exact rfl) (by simp [go_sem]) ⟨_, Go.Proofs.Try.func74, by kernel_rfl, rfl⟩ (by simp [go_sem]) (hdir2) (by simp [go_sem]) (by simp only [go_sem]; exact rfl) ?_
    refine cw_go tabOK 99 (by simp only [go_sem]; try exact rfl) (by simp [go_sem]) ?_
    refine cw_cond (by simp only [go_sem]; try exact rfl) trivial (fun h => ?_) (fun h => ?_)
    · have hd : dirE l a.dir ≠ 0 := by simpa using h
      have hne : namedE l a = dirE l a.dir := by unfold namedE; rw [if_neg hd]
      rw [hN (by rw [hne]; exact hd), hne, if_neg hd]
      refine cw_go tabOK 99 (by simp only [go_sem]; try exact rfl) (by simp [go_sem]) ?_
      refine cw_ret ⟨_, _, by simp only [go_sem]; try exact rfl, by simp [go_sem], _, .inr (.inl rfl), ?_⟩
      rfl
    have hd : dirE l a.dir = 0 := by simpa using h
    have hlv := rleave_ok (getN l a.dir) a.name (by omega)
    have hw1 := with_ok (mapD l) { leaveN (getN l a.dir) a.name with version := v } (mapD_rise l)
    rw [mapD_put hf.ri.up] at hw1
    unfold nodeRow at hw1 hlv hen
    refine cw_go tabOK 99 (by simp only [go_sem]; try exact rfl) (by simp [go_sem]) ?_
    cases hent : entryN (getN l a.dir) a.name with
    | none =>
      rw [hent] at hen
      have hne : namedE l a = 6 := by unfold namedE; rw [if_pos hd, hent]
      rw [hN (by rw [hne]; decide), hne]
      refine cw_call rfl rfl (by simp only [go_sem]; try exact rfl) (by simp [go_sem]) ⟨_, Go.Proofs.Try.func78, by kernel_rfl, rfl⟩ (by simp [go_sem]) (hen) (by simp [go_sem]) (by simp only [go_sem]; exact rfl) ?_
      refine cw_go tabOK 99 (by simp only [go_sem]; try exact rfl) (by simp [go_sem]) ?_
      refine cw_cond (by simp only [go_sem]; try exact rfl) trivial (fun h => ?_) (fun h => ?_)
      · refine cw_go tabOK 99 (by simp only [go_sem]; try exact rfl) (by simp [go_sem]) ?_
        refine cw_ret ⟨_, _, by simp only [go_sem]; try exact rfl, by simp [go_sem], _, .inr (.inl rfl), ?_⟩
        simp
      · cases h
    | some f =>
    rw [hent] at hen
    refine cw_call rfl rfl (by simp only [go_sem]; try exact rfl) (by simp [go_sem]) ⟨_, Go.Proofs.Try.func78, by kernel_rfl, rfl⟩ (by simp [go_sem]) (hen) (by simp [go_sem]) (by simp only [go_sem]; exact rfl) ?_
    refine cw_go tabOK 99 (by simp only [go_sem]; try exact rfl) (by simp [go_sem]) ?_
    refine cw_cond (by simp only [go_sem]; try exact rfl) trivial (fun h => ?_) (fun h => ?_)
    · cases h
    refine cw_go tabOK 99 (by simp only [go_sem]; try exact rfl) (by simp [go_sem]) ?_
    refine cw_cond (by simp only [go_sem]; try exact rfl) trivial (fun h => ?_) (fun h => ?_)
    · have hff : f ≠ a.fid := by simpa using h
      have hne : namedE l a = 13 := by unfold namedE; rw [if_pos hd, hent]; simp [hff]
      rw [hN (by rw [hne]; decide), hne]
      refine cw_go tabOK 99 (by simp only [go_sem]; try exact rfl) (by simp [go_sem]) ?_
      refine cw_ret ⟨_, _, by simp only [go_sem]; try exact rfl, by simp [go_sem], _, .inr (.inl rfl), ?_⟩
      simp
    have hff : f = a.fid := by simpa using h
    subst hff
    have hn0 : namedE l a = 0 := by unfold namedE; rw [if_pos hd, hent]; simp
    have hdt := rdir_ok l a.to hf.ri.up
    unfold nodeRow at hdt
    have htE := hf.ri.to a
    have htl : (toN l a).entries.length ≤ 9999990 := by
      unfold toN
      split
      · have := leaveE_len (getN l a.dir).entries a.name
        show (leaveE (getN l a.dir).entries a.name).length ≤ _
        omega
      · exact hf.find a.to
    have hlt := rleave_ok (getN l a.to) a.name (by have := hf.find a.to; omega)
    unfold nodeRow at hlt
    have hrm := rroom_ok (toN l a) a.toName htE (by omega) hf.toName
    unfold nodeRow at hrm
    have hat := isAt_eq l a.fid
    cases hff : findN l a.fid with
    | none =>
      rw [hff] at hg1 hat
      simp only [Option.map_none] at hg1
      refine cw_go tabOK 99 (by simp only [go_sem, hg1]; try exact rfl) (by simp [go_sem, hg1]) ?_
      refine cw_condF (by simp only [go_sem]; try exact rfl) trivial (by simp [k5]) ?_
      refine cw_go tabOK 99 (by simp only [go_sem]; try exact rfl) (by simp [go_sem]) ?_
      refine cw_call rfl rfl (by simp only [go_sem]; try exact rfl) (by simp [go_sem]) ⟨_, Go.Proofs.Try.func74, by kernel_rfl, rfl⟩ (by simp [go_sem]) (hdt) (by simp [go_sem]) (by simp only [go_sem]; exact rfl) ?_
      refine cw_go tabOK 99 (by simp only [go_sem]; try exact rfl) (by simp [go_sem]) ?_
      refine cw_cond (by simp only [go_sem]; try exact rfl) trivial (fun h => ?_) (fun h => ?_)
      · have hd2 : dirE l a.to ≠ 0 := by simpa using h
        have he : rApplyE l a = dirE l a.to := by rw [hE]; unfold rRenameE; rw [if_pos hn0, if_neg hd2]
        rw [he, if_neg hd2]
        refine cw_go tabOK 99 (by simp only [go_sem]; try exact rfl) (by simp [go_sem]) ?_
        refine cw_ret ⟨_, _, by simp only [go_sem]; try exact rfl, by simp [go_sem], _, .inr (.inl rfl), ?_⟩
        rfl
      have hd2 : dirE l a.to = 0 := by simpa using h
      refine cw_go tabOK 99 (by simp only [go_sem]; try exact rfl) (by simp [go_sem]) ?_
      by_cases hsd : a.to = a.dir
      · rw [show toN l a = leaveN (getN l a.to) a.name from by unfold toN; rw [if_pos hsd, hsd]] at hrm
        refine cw_condT (by simp only [go_sem]; try exact rfl) trivial (by simp [hsd]) ?_
        refine cw_go tabOK 99 (by simp only [go_sem]; try exact rfl) (by simp [go_sem]) ?_
        refine cw_call rfl rfl (by simp only [go_sem]; try exact rfl) (by simp [go_sem]) ⟨_, Go.Proofs.Try.func79, by kernel_rfl, rfl⟩ (by simp [go_sem]) (hlt) (by simp [go_sem]) (by simp only [go_sem]; exact rfl) ?_
        refine cw_go tabOK 99 (by simp only [go_sem]; try exact rfl) (by simp [go_sem]) ?_
        refine cw_call rfl rfl (by simp only [go_sem]; try exact rfl) (by simp [go_sem]) ⟨_, Go.Proofs.Try.func75, by kernel_rfl, rfl⟩ (by simp [go_sem]) (hrm) (by simp [go_sem]) (by simp only [go_sem]; exact rfl) ?_
        refine cw_go tabOK 99 (by simp only [go_sem]; try exact rfl) (by simp [go_sem]) ?_
        refine cw_cond (by simp only [go_sem]; try exact rfl) trivial (fun h => ?_) (fun h => ?_)
        · have hr : roomE (toN l a) a.toName ≠ 0 := by first | (rw [hT]; simpa using h) | (simpa [toN, hsd] using h)
          have he : rApplyE l a = roomE (toN l a) a.toName := by rw [hE]; unfold rRenameE; rw [if_pos hn0, if_pos hd2, if_neg hr]
          rw [he, if_neg hr]
          refine cw_go tabOK 99 (by simp only [go_sem]; try exact rfl) (by simp [go_sem]) ?_
          refine cw_ret ⟨_, _, by simp only [go_sem]; try exact rfl, by simp [go_sem], _, .inr (.inl rfl), ?_⟩
          simp [toN, hsd]
        have hr : roomE (toN l a) a.toName = 0 := by first | (rw [hT]; simpa using h) | (simpa [toN, hsd] using h)
        have he : rApplyE l a = 12 := by rw [hE]; unfold rRenameE; rw [if_pos hn0, if_pos hd2, if_pos hr, hat]; simp
        rw [he]
        refine cw_go tabOK 99 (by simp only [go_sem]; try exact rfl) (by simp [go_sem]) ?_
        refine cw_cond (by simp only [go_sem]; try exact rfl) trivial (fun h => ?_) (fun h => ?_)
        · refine cw_go tabOK 99 (by simp only [go_sem]; try exact rfl) (by simp [go_sem]) ?_
          refine cw_ret ⟨_, _, by simp only [go_sem]; try exact rfl, by simp [go_sem], _, .inr (.inl rfl), ?_⟩
          simp
        · cases h
      · rw [show toN l a = getN l a.to from by unfold toN; rw [if_neg hsd]] at hrm
        refine cw_condF (by simp only [go_sem]; try exact rfl) trivial (by simp [hsd]) ?_
        refine cw_go tabOK 99 (by simp only [go_sem]; try exact rfl) (by simp [go_sem]) ?_
        refine cw_call rfl rfl (by simp only [go_sem]; try exact rfl) (by simp [go_sem]) ⟨_, Go.Proofs.Try.func75, by kernel_rfl, rfl⟩ (by simp [go_sem]) (hrm) (by simp [go_sem]) (by simp only [go_sem]; exact rfl) ?_
        refine cw_go tabOK 99 (by simp only [go_sem]; try exact rfl) (by simp [go_sem]) ?_
        refine cw_cond (by simp only [go_sem]; try exact rfl) trivial (fun h => ?_) (fun h => ?_)
        · have hr : roomE (toN l a) a.toName ≠ 0 := by first | (rw [hT]; simpa using h) | (simpa [toN, hsd] using h)
          have he : rApplyE l a = roomE (toN l a) a.toName := by rw [hE]; unfold rRenameE; rw [if_pos hn0, if_pos hd2, if_neg hr]
          rw [he, if_neg hr]
          refine cw_go tabOK 99 (by simp only [go_sem]; try exact rfl) (by simp [go_sem]) ?_
          refine cw_ret ⟨_, _, by simp only [go_sem]; try exact rfl, by simp [go_sem], _, .inr (.inl rfl), ?_⟩
          simp [toN, hsd]
        have hr : roomE (toN l a) a.toName = 0 := by first | (rw [hT]; simpa using h) | (simpa [toN, hsd] using h)
        have he : rApplyE l a = 12 := by rw [hE]; unfold rRenameE; rw [if_pos hn0, if_pos hd2, if_pos hr, hat]; simp
        rw [he]
        refine cw_go tabOK 99 (by simp only [go_sem]; try exact rfl) (by simp [go_sem]) ?_
        refine cw_cond (by simp only [go_sem]; try exact rfl) trivial (fun h => ?_) (fun h => ?_)
        · refine cw_go tabOK 99 (by simp only [go_sem]; try exact rfl) (by simp [go_sem]) ?_
          refine cw_ret ⟨_, _, by simp only [go_sem]; try exact rfl, by simp [go_sem], _, .inr (.inl rfl), ?_⟩
          simp
        · cases h
    | some x =>
      rw [hff] at hg1 hat
      simp only [Option.map_some] at hg1
      have hwi := rwithin_ok (mapD l) a.to a.fid hf.all
      refine cw_go tabOK 99 (by simp only [go_sem, hg1, nodeRow]; try exact rfl) (by simp [go_sem, hg1, nodeRow]) ?_
      refine cw_condF (by simp only [go_sem]; try exact rfl) trivial (by simp [k5]) ?_
      refine cw_go tabOK 99 (by simp only [go_sem]; try exact rfl) (by simp [go_sem]) ?_
      refine cw_call rfl rfl (by simp only [go_sem]; try exact rfl) (by simp [go_sem]) ⟨_, Go.Proofs.Try.func74, by kernel_rfl, rfl⟩ (by simp [go_sem]) (hdt) (by simp [go_sem]) (by simp only [go_sem]; exact rfl) ?_
      refine cw_go tabOK 99 (by simp only [go_sem]; try exact rfl) (by simp [go_sem]) ?_
      refine cw_cond (by simp only [go_sem]; try exact rfl) trivial (fun h => ?_) (fun h => ?_)
      · have hd2 : dirE l a.to ≠ 0 := by simpa using h
        have he : rApplyE l a = dirE l a.to := by rw [hE]; unfold rRenameE; rw [if_pos hn0, if_neg hd2]
        rw [he, if_neg hd2]
        refine cw_go tabOK 99 (by simp only [go_sem]; try exact rfl) (by simp [go_sem]) ?_
        refine cw_ret ⟨_, _, by simp only [go_sem]; try exact rfl, by simp [go_sem], _, .inr (.inl rfl), ?_⟩
        rfl
      have hd2 : dirE l a.to = 0 := by simpa using h
      refine cw_go tabOK 99 (by simp only [go_sem]; try exact rfl) (by simp [go_sem]) ?_
      by_cases hsd : a.to = a.dir
      · have hT : toN l a = leaveN (getN l a.to) a.name := by unfold toN; rw [if_pos hsd, hsd]
        rw [hT] at hrm
        refine cw_condT (by simp only [go_sem]; try exact rfl) trivial (by simp [hsd]) ?_
        refine cw_go tabOK 99 (by simp only [go_sem]; try exact rfl) (by simp [go_sem]) ?_
        refine cw_call rfl rfl (by simp only [go_sem]; try exact rfl) (by simp [go_sem]) ⟨_, Go.Proofs.Try.func79, by kernel_rfl, rfl⟩ (by simp [go_sem]) (hlt) (by simp [go_sem]) (by simp only [go_sem]; exact rfl) ?_
        refine cw_go tabOK 99 (by simp only [go_sem]; try exact rfl) (by simp [go_sem]) ?_
        refine cw_call rfl rfl (by simp only [go_sem]; try exact rfl) (by simp [go_sem]) ⟨_, Go.Proofs.Try.func75, by kernel_rfl, rfl⟩ (by simp [go_sem]) (hrm) (by simp [go_sem]) (by simp only [go_sem]; exact rfl) ?_
        refine cw_go tabOK 99 (by simp only [go_sem]; try exact rfl) (by simp [go_sem]) ?_
        refine cw_cond (by simp only [go_sem]; try exact rfl) trivial (fun h => ?_) (fun h => ?_)
        · have hr : roomE (toN l a) a.toName ≠ 0 := by first | (rw [hT]; simpa using h) | (simpa [toN, hsd] using h)
          have he : rApplyE l a = roomE (toN l a) a.toName := by rw [hE]; unfold rRenameE; rw [if_pos hn0, if_pos hd2, if_neg hr]
          rw [he, if_neg hr]
          refine cw_go tabOK 99 (by simp only [go_sem]; try exact rfl) (by simp [go_sem]) ?_
          refine cw_ret ⟨_, _, by simp only [go_sem]; try exact rfl, by simp [go_sem], _, .inr (.inl rfl), ?_⟩
          simp [toN, hsd]
        have hr : roomE (toN l a) a.toName = 0 := by first | (rw [hT]; simpa using h) | (simpa [toN, hsd] using h)
        refine cw_go tabOK 99 (by simp only [go_sem]; try exact rfl) (by simp [go_sem]) ?_
        refine cw_cond (by simp only [go_sem]; try exact rfl) trivial (fun h => ?_) (fun h => ?_)
        · cases h
        refine cw_go tabOK 99 (by simp only [go_sem]; try exact rfl) (by simp [go_sem]) ?_
        refine cw_call rfl rfl (by simp only [go_sem]; try exact rfl) (by simp [go_sem]) ⟨_, Go.Proofs.Try.func81, by kernel_rfl, rfl⟩ (by simp [go_sem]) (hwi) (by simp [go_sem]) (by simp only [go_sem]; exact rfl) ?_
        refine cw_go tabOK 99 (by simp only [go_sem]; try exact rfl) (by simp [go_sem]) ?_
        refine cw_cond (by simp only [go_sem]; try exact rfl) trivial (fun h => ?_) (fun h => ?_)
        · have he : rApplyE l a = 11 := by rw [hE]; unfold rRenameE; rw [if_pos hn0, if_pos hd2, if_pos hr, hat, if_pos (show (some x).isSome = true from rfl), if_pos h]
          rw [he]
          refine cw_go tabOK 99 (by simp only [go_sem]; try exact rfl) (by simp [go_sem]) ?_
          refine cw_ret ⟨_, _, by simp only [go_sem]; try exact rfl, by simp [go_sem], _, .inr (.inl rfl), ?_⟩
          simp
        have he0 : rRenameE l a = 0 := by unfold rRenameE; rw [if_pos hn0, if_pos hd2, if_pos hr, hat, if_pos (show (some x).isSome = true from rfl), if_neg (by rw [h]; simp)]
        have he : rApplyE l a = 0 := by rw [hE, he0]
        have hLL : rApplyL l a v = putN (if a.to = a.dir then l else putN l { leaveN (getN l a.dir) a.name with version := v }) { enterN (toN l a) a.toName a.fid with version := v } := by rw [hL]; unfold rRenameL; rw [if_pos he0]
        refine cw_go tabOK 99 (by simp only [go_sem]; try exact rfl) (by simp [go_sem]) ?_
        have hent := renter_ok (leaveN (getN l a.to) a.name) a.toName a.fid (by rw [← hT]; omega)
        rw [rEnterN_enterN (by rw [← hT]; exact htE) (by rw [← hT]; exact (roomE_free hr).2)] at hent
        have hw2 := with_ok (mapD l) { enterN (leaveN (getN l a.to) a.name) a.toName a.fid with version := v } (mapD_rise _)
        rw [mapD_put hf.ri.up] at hw2
        unfold nodeRow at hent hw2
        rw [if_pos hsd, hT] at hLL
        rw [he, if_pos rfl, hLL]
        refine cw_condF (by simp only [go_sem]; try exact rfl) trivial (by simp [hsd]) ?_
        refine cw_go tabOK 99 (by simp only [go_sem]; try exact rfl) (by simp [go_sem]) ?_
        refine cw_call rfl rfl (by simp only [go_sem]; try exact rfl) (by simp [go_sem]) ⟨_, Go.Proofs.Try.func77, by kernel_rfl, rfl⟩ (by simp [go_sem]) (hent) (by simp [go_sem]) (by simp only [go_sem]; exact rfl) ?_
        refine cw_call rfl rfl (by simp only [go_sem]; try exact rfl) (by simp [go_sem]) ⟨_, Go.Proofs.Try.func73, by kernel_rfl, rfl⟩ (by simp [go_sem]) (apply1_ok (enterN (leaveN (getN l a.to) a.name) a.toName a.fid) v) (by simp [go_sem]) (by simp only [go_sem]; exact rfl) ?_
        refine cw_call rfl rfl (by simp only [go_sem]; try exact rfl) (by simp [go_sem]) ⟨_, Go.Proofs.Try.func76, by kernel_rfl, rfl⟩ (by simp [go_sem]) (hw2) (by simp [go_sem]) (by simp only [go_sem]; exact rfl) ?_
        refine cw_go tabOK 99 (by simp only [go_sem]; try exact rfl) (by simp [go_sem]) ?_
        refine cw_ret ⟨_, _, by simp only [go_sem]; try exact rfl, by simp [go_sem], _, .inr (.inl rfl), ?_⟩
        rfl
      · have hT : toN l a = getN l a.to := by unfold toN; rw [if_neg hsd]
        rw [hT] at hrm
        refine cw_condF (by simp only [go_sem]; try exact rfl) trivial (by simp [hsd]) ?_
        refine cw_go tabOK 99 (by simp only [go_sem]; try exact rfl) (by simp [go_sem]) ?_
        refine cw_call rfl rfl (by simp only [go_sem]; try exact rfl) (by simp [go_sem]) ⟨_, Go.Proofs.Try.func75, by kernel_rfl, rfl⟩ (by simp [go_sem]) (hrm) (by simp [go_sem]) (by simp only [go_sem]; exact rfl) ?_
        refine cw_go tabOK 99 (by simp only [go_sem]; try exact rfl) (by simp [go_sem]) ?_
        refine cw_cond (by simp only [go_sem]; try exact rfl) trivial (fun h => ?_) (fun h => ?_)
        · have hr : roomE (toN l a) a.toName ≠ 0 := by first | (rw [hT]; simpa using h) | (simpa [toN, hsd] using h)
          have he : rApplyE l a = roomE (toN l a) a.toName := by rw [hE]; unfold rRenameE; rw [if_pos hn0, if_pos hd2, if_neg hr]
          rw [he, if_neg hr]
          refine cw_go tabOK 99 (by simp only [go_sem]; try exact rfl) (by simp [go_sem]) ?_
          refine cw_ret ⟨_, _, by simp only [go_sem]; try exact rfl, by simp [go_sem], _, .inr (.inl rfl), ?_⟩
          simp [toN, hsd]
        have hr : roomE (toN l a) a.toName = 0 := by first | (rw [hT]; simpa using h) | (simpa [toN, hsd] using h)
        refine cw_go tabOK 99 (by simp only [go_sem]; try exact rfl) (by simp [go_sem]) ?_
        refine cw_cond (by simp only [go_sem]; try exact rfl) trivial (fun h => ?_) (fun h => ?_)
        · cases h
        refine cw_go tabOK 99 (by simp only [go_sem]; try exact rfl) (by simp [go_sem]) ?_
        refine cw_call rfl rfl (by simp only [go_sem]; try exact rfl) (by simp [go_sem]) ⟨_, Go.Proofs.Try.func81, by kernel_rfl, rfl⟩ (by simp [go_sem]) (hwi) (by simp [go_sem]) (by simp only [go_sem]; exact rfl) ?_
        refine cw_go tabOK 99 (by simp only [go_sem]; try exact rfl) (by simp [go_sem]) ?_
        refine cw_cond (by simp only [go_sem]; try exact rfl) trivial (fun h => ?_) (fun h => ?_)
        · have he : rApplyE l a = 11 := by rw [hE]; unfold rRenameE; rw [if_pos hn0, if_pos hd2, if_pos hr, hat, if_pos (show (some x).isSome = true from rfl), if_pos h]
          rw [he]
          refine cw_go tabOK 99 (by simp only [go_sem]; try exact rfl) (by simp [go_sem]) ?_
          refine cw_ret ⟨_, _, by simp only [go_sem]; try exact rfl, by simp [go_sem], _, .inr (.inl rfl), ?_⟩
          simp
        have he0 : rRenameE l a = 0 := by unfold rRenameE; rw [if_pos hn0, if_pos hd2, if_pos hr, hat, if_pos (show (some x).isSome = true from rfl), if_neg (by rw [h]; simp)]
        have he : rApplyE l a = 0 := by rw [hE, he0]
        have hLL : rApplyL l a v = putN (if a.to = a.dir then l else putN l { leaveN (getN l a.dir) a.name with version := v }) { enterN (toN l a) a.toName a.fid with version := v } := by rw [hL]; unfold rRenameL; rw [if_pos he0]
        refine cw_go tabOK 99 (by simp only [go_sem]; try exact rfl) (by simp [go_sem]) ?_
        have hent := renter_ok (getN l a.to) a.toName a.fid (by rw [← hT]; omega)
        rw [rEnterN_enterN (by rw [← hT]; exact htE) (by rw [← hT]; exact (roomE_free hr).2)] at hent
        have hw2 := with_ok (mapD (putN l { leaveN (getN l a.dir) a.name with version := v })) { enterN (getN l a.to) a.toName a.fid with version := v } (mapD_rise _)
        rw [mapD_put (putN_up hf.ri.up _).1] at hw2
        unfold nodeRow at hent hw2
        rw [if_neg hsd, hT] at hLL
        rw [he, if_pos rfl, hLL]
        refine cw_condT (by simp only [go_sem]; try exact rfl) trivial (by simpa using hsd) ?_
        refine cw_go tabOK 99 (by simp only [go_sem]; try exact rfl) (by simp [go_sem]) ?_
        refine cw_call rfl rfl (by simp only [go_sem]; try exact rfl) (by simp [go_sem]) ⟨_, Go.Proofs.Try.func79, by kernel_rfl, rfl⟩ (by simp [go_sem]) (hlv) (by simp [go_sem]) (by simp only [go_sem]; exact rfl) ?_
        refine cw_call rfl rfl (by simp only [go_sem]; try exact rfl) (by simp [go_sem]) ⟨_, Go.Proofs.Try.func73, by kernel_rfl, rfl⟩ (by simp [go_sem]) (apply1_ok (leaveN (getN l a.dir) a.name) v) (by simp [go_sem]) (by simp only [go_sem]; exact rfl) ?_
        refine cw_call rfl rfl (by simp only [go_sem]; try exact rfl) (by simp [go_sem]) ⟨_, Go.Proofs.Try.func76, by kernel_rfl, rfl⟩ (by simp [go_sem]) (hw1) (by simp [go_sem]) (by simp only [go_sem]; exact rfl) ?_
        refine cw_go tabOK 99 (by simp only [go_sem]; try exact rfl) (by simp [go_sem]) ?_
        refine cw_call rfl rfl (by simp only [go_sem]; try exact rfl) (by simp [go_sem]) ⟨_, Go.Proofs.Try.func77, by kernel_rfl, rfl⟩ (by simp [go_sem]) (hent) (by simp [go_sem]) (by simp only [go_sem]; exact rfl) ?_
        refine cw_call rfl rfl (by simp only [go_sem]; try exact rfl) (by simp [go_sem]) ⟨_, Go.Proofs.Try.func73, by kernel_rfl, rfl⟩ (by simp [go_sem]) (apply1_ok (enterN (getN l a.to) a.toName a.fid) v) (by simp [go_sem]) (by simp only [go_sem]; exact rfl) ?_
        refine cw_call rfl rfl (by simp only [go_sem]; try exact rfl) (by simp [go_sem]) ⟨_, Go.Proofs.Try.func76, by kernel_rfl, rfl⟩ (by simp [go_sem]) (hw2) (by simp [go_sem]) (by simp only [go_sem]; exact rfl) ?_
        refine cw_go tabOK 99 (by simp only [go_sem]; try exact rfl) (by simp [go_sem]) ?_
        refine cw_ret ⟨_, _, by simp only [go_sem]; try exact rfl, by simp [go_sem], _, .inr (.inl rfl), ?_⟩
        rfl
  refine cw_condF (by simp only [go_sem]; try exact rfl) trivial (by simp [k5]) ?_
  have he : rApplyE l a = 1 := by rw [hkE, if_neg k5]
  rw [he]
  refine cw_go tabOK 99 (by simp only [go_sem]; try exact rfl) (by simp [go_sem]) ?_
  refine cw_ret ⟨_, _, by simp only [go_sem]; try exact rfl, by simp [go_sem], _, .inr (.inl rfl), ?_⟩
  simp
end La

namespace La
open Go Go.Eng

def tot (l : List Node) : Nat := (l.map fun x => x.entries.length).sum
theorem tot_app (a b : List Node) : tot (a ++ b) = tot a + tot b := by unfold tot; rw [List.map_append, List.sum_append]
theorem tot_cons (x : Node) (b : List Node) : tot (x :: b) = x.entries.length + tot b := by unfold tot; rw [List.map_cons, List.sum_cons]
theorem tot_mem {l : List Node} {x : Node} (h : x ∈ l) : x.entries.length ≤ tot l := by
  obtain ⟨a, b, rfl⟩ := List.append_of_mem h
  rw [tot_app, tot_cons]; omega
theorem tot_sub {a b : List Node} (h : a.Sublist b) : tot a ≤ tot b := by
  induction h with
  | slnil => exact Nat.le_refl _
  | cons x h ih => rw [tot_cons]; omega
  | cons_cons x h ih => rw [tot_cons, tot_cons]; omega
theorem tot_at {l : List Node} {x m : Node} (h : findN l x.fid = some m) : tot (putN l x) + m.entries.length = tot l + x.entries.length ∧ (putN l x).length = l.length := by
  unfold findN at h
  by_cases hi : isAt l x.fid = true
  · rw [if_pos hi] at h
    injection h with h
    have hlt : placeOf l x.fid < l.length := by
      unfold isAt at hi
      rw [Bool.and_eq_true] at hi
      exact of_decide_eq_true hi.1
    unfold putN
    rw [if_pos hi]
    generalize placeOf l x.fid = p at *
    have hl : l = l.take p ++ m :: l.drop (p + 1) := by
      rw [← h, ← drop_getD hlt, List.take_append_drop]
    rw [List.set_eq_take_append_cons_drop, if_pos hlt]
    refine ⟨?_, ?_⟩
    · conv => rhs; rw [hl]
      rw [tot_app, tot_cons, tot_app, tot_cons]
      omega
    · conv => rhs; rw [hl]
      simp
  · rw [if_neg hi] at h; cases h
theorem tot_new {l : List Node} {x : Node} (h : findN l x.fid = none) : tot (putN l x) = tot l + x.entries.length ∧ (putN l x).length = l.length + 1 := by
  have hi : isAt l x.fid = false := by rw [isAt_eq, h]; rfl
  unfold putN
  rw [hi, if_neg (by simp)]
  generalize placeOf l x.fid = p
  have hl : l = l.take p ++ l.drop p := (List.take_append_drop p l).symm
  refine ⟨?_, ?_⟩
  · conv => rhs; rw [hl]
    rw [tot_app, tot_cons, tot_app]
    omega
  · conv => rhs; rw [hl]
    simp [List.length_append]
    omega

/-- not large, by so much -/
structure SB (n : Nat) (l : List Node) : Prop where
  ri : Ri l
  len : l.length ≤ 2000000 + n
  tot : tot l ≤ 2000000 + n
  data : ∀ x, x ∈ l → x.data.length ≤ 2000000
theorem SB.mono {n k : Nat} {l : List Node} (h : SB n l) (hk : n ≤ k) : SB k l := ⟨h.ri, by have := h.len; omega, by have := h.tot; omega, h.data⟩
theorem SB.put {n : Nat} {l : List Node} (h : SB n l) {x m : Node} (hm : findN l x.fid = some m) {c : Nat} (hx : x.entries.length ≤ m.entries.length + c) (he : EUp x.entries) (hd : x.data.length ≤ 2000000) : SB (n + c) (putN l x) := by
  obtain ⟨h1, h2⟩ := tot_at hm
  refine ⟨h.ri.put he, by have := h.len; omega, by have := h.tot; omega, fun y hy => ?_⟩
  rcases pmem hy with rfl | hy
  · exact hd
  · exact h.data y hy
theorem SB.drop {n : Nat} {l : List Node} (h : SB n l) (f : Int) : SB n (dropN l f) :=
  ⟨h.ri.drop f, by have := h.len; have := List.length_filter_le (fun x : Node => !(x.fid == f)) l; unfold dropN; omega, by have := h.tot; have := tot_sub (a := dropN l f) (b := l) List.filter_sublist; omega, fun x hx => h.data x (List.mem_filter.1 hx).1⟩
theorem SB.apply {n : Nat} {l : List Node} (h : SB n l) {a : Act} (hd : a.data.length ≤ 2000000) (he : rApplyE l a = 0) : SB (n + 1) (rApplyL l a 0) := by
  have hin : ∀ {k : Int} {x : Node}, findN l k = some x → x ∈ l ∧ x.fid = k := fun hx => (findN_some h.ri.up).1 hx
  have hmk : a.kind = 1 ∨ a.kind = 2 → SB (n + 1) (rApplyL l a 0) := fun k => by
    have he := he
    rw [(ap_make l k 0).1] at he
    rw [(ap_make l k 0).2]
    obtain ⟨d, hd2, hdd, hr, hn, h0, hlen⟩ := (make0 _ _).1 he
    obtain ⟨hdm, hdf⟩ := hin hd2
    unfold makeL
    rw [if_pos he, getN_of hd2]
    have hu := enterE_up (h.ri.eup d hdm) ((room0 _ _).1 hr).2.1 a.fid
    have h1 : SB (n + 1) (putN l { enterN d a.name a.fid with version := 0 }) := h.put (x := { enterN d a.name a.fid with version := 0 }) (m := d) (c := 1) (by show findN l d.fid = _; rw [hdf]; exact hd2) (enterE_len _ _ _) hu.1 (h.data d hdm)
    have hfn : findN (putN l { enterN d a.name a.fid with version := 0 }) (madeN a 0).fid = none := by
      rw [findN_put h.ri.up, if_neg]
      · exact hn
      · intro e
        change a.fid = d.fid at e
        rw [e, hdf, hd2] at hn
        cases hn
    obtain ⟨t1, t2⟩ := tot_new hfn
    have t0 := tot_at (l := l) (x := { enterN d a.name a.fid with version := 0 }) (m := d) (by show findN l d.fid = _; rw [hdf]; exact hd2)
    have hz : (madeN a 0).entries.length = 0 := rfl
    refine ⟨h1.ri.put List.Pairwise.nil, by have := h.len; omega, by have := h1.tot; omega, fun y hy => ?_⟩
    rcases pmem hy with rfl | hy
    · simp [madeN]
    · exact h1.data y hy
  rcases kind_of he with k | k | k | k | k
  · exact hmk (.inl k)
  · exact hmk (.inr k)
  · rw [(ap_store l k 0).1] at he
    rw [(ap_store l k 0).2]
    obtain ⟨x, hx, hxd, hn⟩ := (store0 _ _).1 he
    obtain ⟨hxm, hxf⟩ := hin hx
    unfold storeL
    rw [if_pos he, getN_of hx]
    exact (h.put (x := { x with data := a.data, version := 0 }) (m := x) (c := 0) (by show findN l x.fid = _; rw [hxf]; exact hx) (Nat.le_refl _) (h.ri.eup x hxm) hd).mono (by omega)
  · rw [(ap_remove l k 0).1] at he
    rw [(ap_remove l k 0).2]
    obtain ⟨d, x, hd2, hdd, hen, hx, hxe⟩ := (remove0 _ _).1 he
    obtain ⟨hdm, hdf⟩ := hin hd2
    unfold removeL
    rw [if_pos he, getN_of hd2]
    exact ((h.put (x := { leaveN d a.name with version := 0 }) (m := d) (c := 0) (by show findN l d.fid = _; rw [hdf]; exact hd2) (leaveE_len _ _) (leave_up (h.ri.eup d hdm) _) (h.data d hdm)).drop _).mono (by omega)
  · rw [(ap_rename l k 0).1] at he
    rw [(ap_rename l k 0).2]
    obtain ⟨d, t, x, hd2, hdd, hen, ht, htd, hr, hx, hm⟩ := (rename0 _ _).1 he
    obtain ⟨hdm, hdf⟩ := hin hd2
    obtain ⟨htm, htf⟩ := hin ht
    unfold rRenameL
    rw [if_pos he, toN_of hd2 ht, getN_of hd2]
    by_cases e : a.to = a.dir
    · rw [if_pos e]
      have hT : toD a d t = leaveN d a.name := by unfold toD; rw [if_pos e]
      rw [hT] at hr ⊢
      have hle := leave_up (h.ri.eup d hdm) a.name
      have hu := enterE_up hle ((room0 _ _).1 hr).2.1 a.fid
      have h1 := leaveE_len d.entries a.name
      have h2 := enterE_len (leaveE d.entries a.name) a.toName a.fid
      exact h.put (x := { enterN (leaveN d a.name) a.toName a.fid with version := 0 }) (m := d) (c := 1) (by show findN l d.fid = _; rw [hdf]; exact hd2) (by show (enterE (leaveE d.entries a.name) a.toName a.fid).length ≤ _; omega) hu.1 (h.data d hdm)
    · rw [if_neg e]
      have hT : toD a d t = t := by unfold toD; rw [if_neg e]
      rw [hT] at hr ⊢
      have h1 := h.put (x := { leaveN d a.name with version := 0 }) (m := d) (c := 0) (by show findN l d.fid = _; rw [hdf]; exact hd2) (leaveE_len _ _) (leave_up (h.ri.eup d hdm) _) (h.data d hdm)
      have hu := enterE_up (h.ri.eup t htm) ((room0 _ _).1 hr).2.1 a.fid
      exact h1.put (x := { enterN t a.toName a.fid with version := 0 }) (m := t) (c := 1) (by
        rw [findN_put h.ri.up, if_neg]
        · show findN l t.fid = _; rw [htf]; exact ht
        · intro e2
          change t.fid = d.fid at e2
          rw [hdf, htf] at e2
          exact e e2) (enterE_len _ _ _) hu.1 (h.data t htm)
theorem SB.fit {n : Nat} {l : List Node} (h : SB n l) (hn : n ≤ 2000000) {a : Act} (h1 : a.name.length ≤ 100000000) (h2 : a.toName.length ≤ 100000000) (h3 : a.data.length ≤ 100000000) : RFit l a where
  ri := h.ri
  ent := fun x hx => by have := tot_mem hx; have := h.tot; omega
  len := by have := h.len; omega
  all := by
    have : (allF (mapD l)).length = La.tot l := by
      unfold allF La.tot
      rw [mapD_eq h.ri.up, List.length_flatMap, List.map_map]
      congr 1
      refine List.map_congr_left fun x _ => ?_
      simp
    have := h.tot
    omega
  name := h1
  toName := h2
  data := h3
theorem SB.small {n : Nat} {l : List Node} (h : SB n l) (hn : n ≤ 2000000) : Small l := ⟨by have := h.len; omega, fun x hx => ⟨by have := h.data x hx; omega, by have := tot_mem hx; have := h.tot; omega⟩⟩
end La

namespace Go.Eng
section
variable {P : Program} {T : Tab} {C : Ctx} {σ σ' : St} {μ : Nat → Option Nat} {S : Nat → Prop} {a : Act} {w : World} {Ret : St → Prop} {k : List It}

def mv1 (p q : Nat) : AV → AV
  | .osl id s o l => if id = p then .osl q s o l else .osl id s o l
  | .ptr id s r o => if id = p then .ptr q s r o else .ptr id s r o
  | x => kill p x

theorem le_mv (p q : Nat) {e s : Nat} {rows : List (List AV)} {H' : List (Nat × Blk)} {l' : List AV} (hb : hget σ.hp p = some (.cells e s rows)) (hq : hget σ.hp q = none) (hr : refsB (.cells e s rows) = [])
    (hH : hdel σ.hp p = H') (hf : (H'.all fun x => !(refsB x.2).contains p) = true) (ht : σ.tm.map (mv1 p q) = l') : Le C σ ⟨l', (q, .cells e s rows) :: H'⟩ := by
  subst hH ht
  intro a w ⟨μ, S, hi⟩
  have hne : p ≠ q := fun h => by subst h; rw [hb] at hq; cases hq
  have hmq : μ q = none := by
    cases h : μ q with
    | none => rfl
    | some g => obtain ⟨⟨b, h1⟩, _⟩ := hi.dom q g h; rw [hq] at h1; cases h1
  let ν : Nat → Option Nat := fun i => if i = q then μ p else if i = p then none else μ i
  have hνq : ν q = μ p := by simp [ν]
  have hν : ∀ i, i ≠ p → i ≠ q → ν i = μ i := fun i h1 h2 => by simp [ν, h1, h2]
  have hm : ∀ i, i ≠ p → ∀ g, μ i = some g → ν i = some g := fun i h g hg => by
    rw [hν i h (fun e => by subst e; rw [hmq] at hg; cases hg)]; exact hg
  have hv : ∀ i g, ν i = some g → (i = q ∧ μ p = some g) ∨ (i ≠ p ∧ i ≠ q ∧ μ i = some g) := fun i g h => by
    simp only [ν] at h
    split at h
    · exact .inl ⟨by assumption, h⟩
    · split at h
      · cases h
      · exact .inr ⟨by assumption, by assumption, h⟩
  have hkill : ∀ {v : Value} {y : AV}, Rd μ S w v y → Rd ν S w v (kill p y) := fun {v y} h => by
    unfold kill
    split
    · exact .any v
    · rename_i hc
      exact h.less fun id hid g hg => hm id (fun e => by subst e; exact hc (by simpa using hid)) g hg
  refine ⟨ν, S, by simpa using hi.size, hi.defers, fun t x hx => ?_, fun id b hb' => ?_, fun id g hg => ?_, fun i j g h1 h2 => ?_, hi.frm, hi.sb⟩
  · simp only [List.getElem?_map] at hx
    obtain ⟨y, hy, rfl⟩ := Option.map_eq_some_iff.1 hx
    have h := hi.tm t y hy
    cases y with
    | osl id s' o n =>
      simp only [mv1]
      split
      · rename_i e
        subst e
        obtain ⟨A, cap, e1, hc, hor⟩ := h.inv_osl
        rw [e1]
        refine .osl q s' o n cap A hc ?_
        rcases hor with h | ⟨g, e2, m, k1, k2, k3, k4⟩
        · exact .inl h
        · exact .inr ⟨g, e2, m, hνq.trans k1, k2, k3, k4⟩
      · rename_i e
        exact h.less fun i hid g hg => hm i (fun e' => by simp only [refs, List.mem_singleton] at hid; exact e (hid.symm.trans e')) g hg
    | ptr id s' r o =>
      simp only [mv1]
      split
      · rename_i e
        subst e
        obtain ⟨g, k1, e1⟩ := h.inv_ptr
        rw [e1]
        exact .ptr q s' r o g (hνq.trans k1)
      · rename_i e
        exact h.less fun i hid g hg => hm i (fun e' => by simp only [refs, List.mem_singleton] at hid; exact e (hid.symm.trans e')) g hg
    | _ => exact hkill h
  · simp only [hget] at hb'
    split at hb'
    · rename_i e'
      injection hb' with hb'
      subst e' hb'
      have hk := hi.hp p _ hb
      rcases hk with ⟨k1, k2⟩ | ⟨g, c, k1, k2, k3, k4, k5⟩
      · exact .inl ⟨k1, hνq.trans k2⟩
      · refine .inr ⟨g, c, hνq.trans k1, k2, k3, k4, fun i row hi' j x hx => (k5 i row hi' j x hx).less fun id hid g' hg' => ?_⟩
        have : id ∈ refsB (.cells e s rows) := List.mem_flatMap.2 ⟨row, List.mem_of_getElem? hi', refsL_mem hx hid⟩
        rw [hr] at this
        cases this
    · rename_i hq'
      have hb2 := hb'
      rw [hget_hdel] at hb'
      split at hb'
      · cases hb'
      · rename_i hp'
        refine (hi.hp id b hb').less (hν id (fun e => hp' e.symm) (fun e => hq' e.symm)) fun i hid g hg => hm i (fun e => ?_) g hg
        subst e
        have := List.all_eq_true.1 hf _ (hget_mem hb2)
        simp at this
        exact this hid
  · rcases hv id g hg with ⟨rfl, h⟩ | ⟨h1, h2, h⟩
    · exact ⟨⟨_, by simp only [hget, if_true]; rfl⟩, (hi.dom p g h).2⟩
    · obtain ⟨⟨b, hb1⟩, h3⟩ := hi.dom id g h
      exact ⟨⟨b, by simp only [hget, if_neg (fun e : q = id => h2 e.symm), hget_hdel, if_neg (fun e : p = id => h1 e.symm)]; exact hb1⟩, h3⟩
  · rcases hv i g h1 with ⟨rfl, k⟩ | ⟨k1, k2, k⟩ <;> rcases hv j g h2 with ⟨rfl, m⟩ | ⟨m1, m2, m⟩
    · rfl
    · exact absurd (hi.inj p j g k m) (fun e => m1 e.symm)
    · exact absurd (hi.inj i p g k m) k1
    · exact hi.inj i j g k m
/-- A VALUE THAT IS MOVED, AHEAD OF ALL ELSE. -/
theorem draw_earlyM (r : Nat) (p q : List Nat) {ops ops' : Array Oper} {Q : Exit → Act → World → Prop} {o : Oper} {x : Operand} (ho : ops[r]? = some o) (hop : o.op = .move x) (hg : o.guard = none)
    (hQ : ∀ c a w, ¬ Q (.panic c) a w) (h1 : remOK r p q ops = true) (h2 : firstOK r o ops = true) (he : (remOps r p q ops.toList).toArray = ops') {y : AV} (hx : evS σ x = (True, y))
    (hk : DrawOK P C ops' Q 0 (σ.put o.dst y)) : DrawOK P C ops Q 0 σ := by
  subst he
  have hF := rem_facts h1
  have hrl := hF.rl
  have hpl := hF.pl
  intro a w ⟨μ, S, hi⟩
  have hv := hi.evS x (by rw [hx]; trivial)
  rw [hx] at hv
  obtain ⟨u, hr, hu⟩ : ∃ u, Rd μ S w u y ∧ u = a.eval x := ⟨_, hv, rfl⟩
  have hrel : Rel C (σ.put o.dst y) (a.put o.dst u) w := ⟨μ, S, hi.put o.dst hr⟩
  have hk' := hk _ _ hrel
  have hs : (remOps r p q ops.toList).toArray.size + 1 = ops.size := by simp [remOps, hpl]
  obtain ⟨n, hn⟩ : ∃ n, ops.size = n + 1 := ⟨ops.size - 1, by omega⟩
  have hsz : (remOps r p q ops.toList).toArray.size = n := by omega
  unfold firstOK at h2
  rw [Bool.and_eq_true] at h2
  have hafter : o.after = #[] := Array.isEmpty_iff.1 h2.1
  have hd0 : ∀ (m i : Nat) (d : Bool), (doneTo m 0).getD i d = if i < m then false else d := fun m i d => by rw [doneTo_get]; simp
  rw [hn, Nat.sub_zero]
  refine wpAny_first (v := u) ho hF.sel (fun c a w hc => absurd hc (hQ c _ _)) n _ a w (fun k oj hoj hkr _ hw => ?_) (mem_ready.2 ⟨?_, o, ho, fun e he => by rw [hafter] at he; simp at he⟩) (.inl ⟨by rw [Region.wanted, hg], fun w' => ?_⟩) ?_
  · have := List.all_eq_true.1 h2.2 k (List.mem_range.2 (Array.getElem?_eq_some_iff.1 hoj).1)
    rw [hoj] at this
    simp only [Bool.or_eq_true, beq_iff_eq, Array.any_eq_true', Bool.and_eq_true] at this
    rcases this with h | ⟨e, he, hb, hon⟩ | h
    · exact absurd h hkr
    · exact absurd hon (hw e he hb)
    · exact h
  · rw [← hn, hd0, if_pos hrl]
  · subst hu
    simp [execOp, hop]
  · rw [hsz, Nat.sub_zero] at hk'
    refine rem_any hF n _ _ _ _ (by simp [doneTo, hn]) (by simp [doneTo, hn]) ?_ (fun i hi => ?_) hk'
    · rw [Array.getD_eq_getD_getElem?, Array.getElem?_setIfInBounds, if_pos rfl, if_pos (by simp [doneTo]; omega)]; rfl
    · have e2 : ((doneTo (n + 1) 0).setIfInBounds r true).getD i false = (doneTo (n + 1) 0).getD i false := by
        rw [Array.getD_eq_getD_getElem?, Array.getElem?_setIfInBounds, if_neg (fun e => hi e.symm), ← Array.getD_eq_getD_getElem?]
      rw [e2, hd0, hd0]
      split <;> split <;> rfl
end
end Go.Eng

namespace Go.Eng
section
variable {P : Program} {T : Tab} {C : Ctx} {σ σ' : St} {μ : Nat → Option Nat} {S : Nat → Prop} {a : Act} {w : World} {Ret : St → Prop} {k : List It}

/-- A VALUE THAT ASKS NO WORLD, AHEAD OF ALL ELSE. -/
theorem draw_earlyV (r : Nat) (p q : List Nat) {ops ops' : Array Oper} {Q : Exit → Act → World → Prop} {o : Oper} (ho : ops[r]? = some o) (hg : o.guard = none)
    (hQ : ∀ c a w, ¬ Q (.panic c) a w) (h1 : remOK r p q ops = true) (h2 : firstOK r o ops = true) (he : (remOps r p q ops.toList).toArray = ops') {y : AV}
    (hx : ∀ μ S a w, Inv C μ S σ a w → ∃ u, (∀ w', (execOp a.eval o).run P w' = .ok (.value u) w') ∧ Rd μ S w u y)
    (hk : DrawOK P C ops' Q 0 (σ.put o.dst y)) : DrawOK P C ops Q 0 σ := by
  subst he
  have hF := rem_facts h1
  have hrl := hF.rl
  have hpl := hF.pl
  intro a w ⟨μ, S, hi⟩
  obtain ⟨u, hu, hr⟩ := hx μ S a w hi
  have hrel : Rel C (σ.put o.dst y) (a.put o.dst u) w := ⟨μ, S, hi.put o.dst hr⟩
  have hk' := hk _ _ hrel
  have hs : (remOps r p q ops.toList).toArray.size + 1 = ops.size := by simp [remOps, hpl]
  obtain ⟨n, hn⟩ : ∃ n, ops.size = n + 1 := ⟨ops.size - 1, by omega⟩
  have hsz : (remOps r p q ops.toList).toArray.size = n := by omega
  unfold firstOK at h2
  rw [Bool.and_eq_true] at h2
  have hafter : o.after = #[] := Array.isEmpty_iff.1 h2.1
  have hd0 : ∀ (m i : Nat) (d : Bool), (doneTo m 0).getD i d = if i < m then false else d := fun m i d => by rw [doneTo_get]; simp
  rw [hn, Nat.sub_zero]
  refine wpAny_first (v := u) ho hF.sel (fun c a w hc => absurd hc (hQ c _ _)) n _ a w (fun k oj hoj hkr _ hw => ?_) (mem_ready.2 ⟨?_, o, ho, fun e he => by rw [hafter] at he; simp at he⟩) (.inl ⟨by rw [Region.wanted, hg], hu⟩) ?_
  · have := List.all_eq_true.1 h2.2 k (List.mem_range.2 (Array.getElem?_eq_some_iff.1 hoj).1)
    rw [hoj] at this
    simp only [Bool.or_eq_true, beq_iff_eq, Array.any_eq_true', Bool.and_eq_true] at this
    rcases this with h | ⟨e, he, hb, hon⟩ | h
    · exact absurd h hkr
    · exact absurd hon (hw e he hb)
    · exact h
  · rw [← hn, hd0, if_pos hrl]
  · rw [hsz, Nat.sub_zero] at hk'
    refine rem_any hF n _ _ _ _ (by simp [doneTo, hn]) (by simp [doneTo, hn]) ?_ (fun i hi => ?_) hk'
    · rw [Array.getD_eq_getD_getElem?, Array.getElem?_setIfInBounds, if_pos rfl, if_pos (by simp [doneTo]; omega)]; rfl
    · have e2 : ((doneTo (n + 1) 0).setIfInBounds r true).getD i false = (doneTo (n + 1) 0).getD i false := by
        rw [Array.getD_eq_getD_getElem?, Array.getElem?_setIfInBounds, if_neg (fun e => hi e.symm), ← Array.getD_eq_getD_getElem?]
      rw [e2, hd0, hd0]
      split <;> split <;> rfl

/-- what a slice of a slice into a held block is, in any world -/
theorem slice_any (hT : TabOK P T) {o : Oper} {t e : TypeId} {x : Operand} {lo hi' : Option Operand} (ho : o.op = .slice t x lo hi' none) (ht : T.und t = .sl e) {id s off len l h : Nat} (hs : T.siz e = s) (hz : s ≠ 0) (hx : evS σ x = (True, .osl id s off len))
    (hlo : (lo = none ∧ l = 0) ∨ ∃ q, lo = some q ∧ ∃ kk, evS σ q = (True, .int kk (l : Nat))) (hhi : (hi' = none ∧ h = len) ∨ ∃ q, hi' = some q ∧ ∃ kk, evS σ q = (True, .int kk (h : Nat))) (hlh : l ≤ h) (hhl : h ≤ len) :
    ∀ μ S a w, Inv C μ S σ a w → ∃ u, (∀ w', (execOp a.eval o).run P w' = .ok (.value u) w') ∧ Rd μ S w u (.osl id s (off + l) (h - l)) := by
  intro μ S a w hi
  have hu := hT.und t
  rw [ht] at hu
  simp only [KDOK] at hu
  have hv := hi.evS x (by rw [hx]; trivial)
  rw [hx] at hv
  obtain ⟨A, cap, hA, hc, hor⟩ := hv.inv_osl
  have k1 : BoundIs (lo.map a.eval) 0 l := by
    rcases hlo with ⟨rfl, rfl⟩ | ⟨q, rfl, kk, hq⟩
    · rfl
    · have := hi.evS q (by rw [hq]; trivial)
      rw [hq] at this
      exact ⟨kk, this.inv_int⟩
  have k2 : BoundIs (hi'.map a.eval) len h := by
    rcases hhi with ⟨rfl, rfl⟩ | ⟨q, rfl, kk, hq⟩
    · rfl
    · have := hi.evS q (by rw [hq]; trivial)
      rw [hq] at this
      exact ⟨kk, this.inv_int⟩
  have hrun : ∀ w', (Instr.sliceAt t (.slice A len cap) (lo.map a.eval) (hi'.map a.eval) none).run P w' = .ok (.slice (if cap = l then A else A.map (·.add (l * T.siz e))) (h - l) (cap - l)) w' := fun w' => by
    simp [Instr.sliceAt, Instr.slice, run_underlying hu, run_bounds (P := P) (w := w') true len cap l h (lo.map a.eval) (hi'.map a.eval) k1 k2 hlh (by omega), sizeOf_of hT (by rw [hs]; exact hz)]
  refine ⟨.slice (if cap = l then A else A.map (·.add (l * T.siz e))) (h - l) (cap - l), fun w' => ?_, .osl id s (off + l) (h - l) (cap - l) _ (by omega) ?_⟩
  · have := hrun w'
    simp only [execOp, ho]
    rw [hA]
    simp [this]
  · rcases hor with ⟨j1, j2⟩ | ⟨g, e', n, j1, rfl, j3, j4⟩
    · exact .inl ⟨by omega, by omega⟩
    · by_cases hcl : cap = l
      · exact .inl ⟨by omega, by omega⟩
      · refine .inr ⟨g, e', n, j1, ?_, j3, ?_⟩
        · rw [if_neg hcl]; simp [add_plain, hs, Nat.add_mul]
        · rw [show off + l + (cap - l) = off + cap from by omega]; exact j4

/-- A HELD BLOCK IS FORGOTTEN, with all that names it. -/
theorem le_drop (q : Nat) {H' : List (Nat × Blk)} {l' : List AV} (hH : hdel σ.hp q = H') (hf : (H'.all fun x => !(refsB x.2).contains q) = true) (ht : σ.tm.map (kill q) = l') : Le C σ ⟨l', H'⟩ := by
  subst hH ht
  intro a w ⟨μ, S, hi⟩
  let ν : Nat → Option Nat := fun i => if i = q then none else μ i
  have hm : ∀ i, i ≠ q → ∀ g, μ i = some g → ν i = some g := fun i h g hg => by simp [ν, h, hg]
  have hv : ∀ i g, ν i = some g → i ≠ q ∧ μ i = some g := fun i g h => by
    simp only [ν] at h
    split at h
    · cases h
    · exact ⟨by assumption, h⟩
  refine ⟨ν, S, by simpa using hi.size, hi.defers, fun t x hx => ?_, fun id b hb' => ?_, fun id g hg => ?_, fun i j g h1 h2 => ?_, hi.frm, hi.sb⟩
  · simp only [List.getElem?_map] at hx
    obtain ⟨y, hy, rfl⟩ := Option.map_eq_some_iff.1 hx
    have h := hi.tm t y hy
    unfold kill
    split
    · exact .any _
    · rename_i hc
      exact h.less fun id hid g hg => hm id (fun e => by subst e; exact hc (by simpa using hid)) g hg
  · have hb2 := hb'
    rw [hget_hdel] at hb'
    split at hb'
    · cases hb'
    · rename_i hq'
      refine (hi.hp id b hb').less (by simp only [ν]; rw [if_neg (fun e => hq' e.symm)]) fun i hid g hg => hm i (fun e => ?_) g hg
      subst e
      have := List.all_eq_true.1 hf _ (hget_mem hb2)
      simp at this
      exact this hid
  · obtain ⟨h1, h2⟩ := hv id g hg
    obtain ⟨⟨b, hb1⟩, h3⟩ := hi.dom id g h2
    exact ⟨⟨b, by rw [hget_hdel, if_neg (fun e => h1 e.symm)]; exact hb1⟩, h3⟩
  · exact hi.inj i j g (hv i g h1).2 (hv j g h2).2

/-! ### Order by order -/
/-- so many are left, and which have come up -/
def DrawD (P : Program) (C : Ctx) (ops : Array Oper) (Q : Exit → Act → World → Prop) (n : Nat) (L : Array Bool) (σ : St) : Prop := ∀ a w, Rel C σ a w → wpAny P .any ops Q n L a w
theorem drawD {ops : Array Oper} {Q : Exit → Act → World → Prop} {n : Nat} {L : Array Bool} (hn : ops.size = n) (hL : doneTo ops.size 0 = L) (h : DrawD P C ops Q n L σ) : DrawOK P C ops Q 0 σ := by
  subst hn hL
  intro a w hr
  rw [Nat.sub_zero]
  exact h a w hr
theorem drawD_end {ops : Array Oper} {L : Array Bool} (hr : Region.ready .any ops L = []) (h : Cw P C Ret k σ) : DrawD P C ops (aft (RetOf C Ret) (sem P C (RetOf C Ret) k)) 0 L σ := fun a w hrel => ⟨hr, h a w hrel⟩
theorem drawD_one {ops : Array Oper} {Q : Exit → Act → World → Prop} {n i : Nat} {L L' : Array Bool} {o : Oper} (hr : Region.ready .any ops L = [i]) (hL : L.setIfInBounds i true = L') (ho : ops[i]? = some o) (ht : TripG P C ops o σ σ') (h : DrawD P C ops Q n L' σ') : DrawD P C ops Q (n + 1) L σ := fun a w hrel => by
  subst hL
  refine ⟨fun h0 => (by rw [hr] at h0; cases h0), fun j hj => ?_⟩
  rw [hr, List.mem_singleton] at hj
  subst hj
  exact drawn_op ho ht hrel fun a' w' hr' => h a' w' hr'
theorem drawD_two {ops : Array Oper} {Q : Exit → Act → World → Prop} {n i j : Nat} {L L1 L2 : Array Bool} {o1 o2 : Oper} {σ1 σ2 : St} (hr : Region.ready .any ops L = [i, j]) (hL1 : L.setIfInBounds i true = L1) (hL2 : L.setIfInBounds j true = L2) (ho1 : ops[i]? = some o1) (ho2 : ops[j]? = some o2)
    (ht1 : TripG P C ops o1 σ σ1) (ht2 : TripG P C ops o2 σ σ2) (h1 : DrawD P C ops Q n L1 σ1) (h2 : DrawD P C ops Q n L2 σ2) : DrawD P C ops Q (n + 1) L σ := fun a w hrel => by
  subst hL1 hL2
  refine ⟨fun h0 => (by rw [hr] at h0; cases h0), fun m hm => ?_⟩
  rw [hr] at hm
  rcases List.mem_cons.1 hm with rfl | hm
  · exact drawn_op ho1 ht1 hrel fun a' w' hr' => h1 a' w' hr'
  · rw [List.mem_singleton] at hm
    subst hm
    exact drawn_op ho2 ht2 hrel fun a' w' hr' => h2 a' w' hr'
theorem drawD_le {ops : Array Oper} {Q : Exit → Act → World → Prop} {n : Nat} {L L' : Array Bool} (hL : L = L') (hl : Le C σ σ') (h : DrawD P C ops Q n L' σ') : DrawD P C ops Q n L σ := fun a w hrel => by
  subst hL
  exact h a w (hl a w hrel)
/-- one step of the machine, as an operation without a guard -/
theorem trip_go (hT : TabOK P T) {ops : Array Oper} {o : Oper} (hg : o.guard = none) {p : Prop} (h : stepOp T σ o.dst o.op = some (p, σ')) (hp : p) : TripG P C ops o σ σ' := fun a w K Q' hr hK => by
  obtain ⟨μ, S, hi⟩ := hr
  rw [wanted_of hi (show guardOf ops σ o.guard = some true from by rw [hg]; rfl)]
  exact .inl (step_sound hT o h hp a w K Q' ⟨μ, S, hi⟩ hK)
end
end Go.Eng
