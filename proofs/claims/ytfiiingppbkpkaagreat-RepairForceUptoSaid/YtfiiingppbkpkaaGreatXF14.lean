/- Texts of this claim, part 14: SameN, PutsS, Make, Rise, Walk, Within, Apply, Rename, PBack, PRank. No condition. -/
import Derived.Test.YtfiiingppbkpkaaGreatXF13
import Derived.Test.YtfiiingppbkpkaaGreatXF10
import Derived.Test.YtfiiingppbkpkaaGreatXF11
set_option maxRecDepth 10000
set_option maxHeartbeats 4000000
set_option linter.unusedSimpArgs false
set_option linter.unusedVariables false
namespace La
open Go Go.Eng Go.Proofs
theorem take_same {α : Type} [Inhabited α] [DecidableEq α] {a b : List α} {i : Nat} (h : a.take i = b.take i) (ha : i < a.length) (hb : i < b.length) (e : a.getD i default = b.getD i default) : a.take (i + 1) = b.take (i + 1) := by
 rw [ZT ha, ZT hb, h, e]
theorem take_diff {α : Type} [Inhabited α] {a b : List α} {i : Nat} (e : ¬ a.getD i default = b.getD i default) : a ≠ b := by rintro rfl; exact e rfl
def sameN (v : Bool) (a b : Node) : Bool := a.fid == b.fid && a.dir == b.dir && a.data == b.data && decide (a.entries = b.entries) && (!v || a.version == b.version)
theorem sameNode_ok (a b : Node) (v : Bool) (ha : a.Small) (hb : b.Small) : FnOK Tryz.prog 41 [.agg (ZN a), .agg (ZN b), .bool v] [] (fun r _ => r = .bool (sameN v a b)) := by
 have hla := ha.entries
 have hlb := hb.entries
 unfold ZN
 refine ZF tK (Tryz.func41) rfl (fun C => ?_)
 simp only [Tryz.ntmps41, Tryz.results41, go_sem]
 refine wR ?_
 refine wN tK 3 ?_
 refine wR ?_
 refine ZZ 3 rfl (rfl) ?_
 refine ZZ 4 rfl (rfl) ?_
 simp only [go_sem]
 refine wN tK 5 ?_
 refine cw_name 12 (by simp only [go_sem]; exact rfl) (fun c12 h12 => ?_)
 simp only [go_sem]
 refine wN tK 7 ?_
 refine cw_name 19 (by simp only [go_sem]; exact rfl) (fun c19 h19 => ?_)
 simp only [go_sem]
 refine wN tK 9 ?_
 refine cw_name 28 (by simp only [go_sem]; exact rfl) (fun c28 h28 => ?_)
 simp only [go_sem]
 refine wN tK 9 ?_
 refine cw_name 37 (by simp only [go_sem]; exact rfl) (fun c37 h37 => ?_)
 simp only [go_sem]
 refine wNq tK 10 ?_ ?_
 ·cases c37 <;> cases v <;> simp
 refine cw_name 47 (by simp only [go_sem]; exact rfl) (fun c47 h47 => ?_)
 simp only [go_sem]
 have hdiff : c47 = !(a.fid == b.fid && a.dir == b.dir && a.data == b.data && (a.entries.length == b.entries.length) && (!v || a.version == b.version)) := by
  subst h47 h37 h28 h19 h12
  have e : ((a.entries.length : Int) != (b.entries.length : Int)) = !(a.entries.length == b.entries.length) := by
   rw [Bool.eq_iff_iff]; simp; omega
  rw [e]
  simp only [bne]
  cases (a.fid == b.fid) <;> cases (a.dir == b.dir) <;> cases (a.data == b.data) <;> cases (a.entries.length == b.entries.length) <;> cases v <;> cases (a.version == b.version) <;> rfl
 refine wD (fun h => ?_) (fun h => ?_)
 ·rw [hdiff] at h
  refine wG tK ?_
  refine wT ?_
  have : sameN v a b = false := by
   unfold sameN
   have hn : decide (a.entries = b.entries) = true → (a.entries.length == b.entries.length) = true := fun h => by
    rw [of_decide_eq_true h]; simp
   revert h hn
   cases (a.fid == b.fid) <;> cases (a.dir == b.dir) <;> cases (a.data == b.data) <;> cases (a.entries.length == b.entries.length) <;> cases v <;> cases (a.version == b.version) <;> cases decide (a.entries = b.entries) <;> simp
  rw [this]
 rw [hdiff] at h
 have hl : a.entries.length = b.entries.length := by
  revert h
  cases e : (a.entries.length == b.entries.length)
  ·simp
  ·intro _; simpa using e
 have hsn : sameN v a b = decide (a.entries = b.entries) := by
  unfold sameN
  revert h
  cases (a.fid == b.fid) <;> cases (a.dir == b.dir) <;> cases (a.data == b.data) <;> cases (a.entries.length == b.entries.length) <;> cases v <;> cases (a.version == b.version) <;> simp
 rw [hsn]
 clear h12 h19 h28 h37 h47
 refine wG tK ?_
 refine ZL (fun i : Nat => i ≤ a.entries.length ∧ a.entries.take i = b.entries.take i) (fun i => a.entries.length - i) (fun i => [(7, .any), (51, .int .i64 i), (52, .any), (53, .any), (54, .any), (55, .any), (56, .any), (57, .any), (58, .any), (59, .any), (60, .any), (61, .any), (62, .any), (63, .any), (64, .any), (65, .any)]) (fun _ => []) 0 ⟨by omega, by simp⟩ ?_ fun i hi => ?_
 ·simp only [go_sem]
  exact ZU (by simp [go_sem]) (by simp [go_sem]) (by simp [go_sem])
 obtain ⟨hi, hs⟩ := hi
 simp only [go_sem]
 refine wG tK ?_
 refine wD (fun h => ?_) (fun h => ?_)
 ·have hlt : i < a.entries.length := by simp at h; omega
  have hltb : i < b.entries.length := by omega
  have hga : (a.entries.map ZE).getD i [] = ZE (a.entries.getD i default) := Fam.getD hlt
  have hgb : (b.entries.map ZE).getD i [] = ZE (b.entries.getD i default) := Fam.getD hltb
  have htk := take_same hs hlt hltb
  have htd := take_diff (a := a.entries) (b := b.entries) (i := i)
  generalize a.entries.getD i default = x at hga htk htd
  generalize b.entries.getD i default = y at hgb htk htd
  refine wG tK ?_
  refine ZW ZM ?_
  refine ZS rfl ?_
  refine sNq tK 10 ?_ ?_ (by simp only [go_sem]; exact rfl) (by simp only [go_sem]; exact rfl) (by simp only [go_sem, hga, hgb, ZE]; try exact rfl)
  ·simp [hga, hgb, ZE, hlt, hltb]
  refine sE ?_
  refine draw_trip rfl (by kernel_rfl) rfl (trip_eqS tK rfl (tys := [9, 3]) (by kernel_rfl) (by simp only [go_sem]; try exact rfl) (by simp only [go_sem]; try exact rfl) (by simp only [go_sem]; exact rfl) (by first | exact .inl ⟨rfl, rfl⟩ | exact .inr ⟨rfl, rfl⟩)) rfl ?_
  refine wKd ?_
  have hxy : (x.name == y.name && x.fid == y.fid) = decide (x = y) := by
   obtain ⟨n1, f1⟩ := x
   obtain ⟨n2, f2⟩ := y
   by_cases h1 : n1 = n2 <;> by_cases h2 : f1 = f2 <;> simp [h1, h2]
  simp only [go_sem, Bool.and_true, hxy]
  refine wG tK ?_
  refine wD (fun h => ?_) (fun h => ?_)
  ·have hne : x ≠ y := by simpa using h
   have := htd hne
   refine wG tK ?_
   refine wT ?_
   simp [this]
  ·have heq : x = y := by simpa using h
   have hw := wi1 (i := i) (by omega)
   refine wG tK ?_ (by simp only [go_sem, hw]; try exact rfl) (by simp [go_sem, hw])
   refine ZB ⟨i + 1, ⟨by omega, htk heq⟩, by omega, ZU ?_ ?_ ?_⟩
   ·simp [go_sem]; exact hw
   ·simp [go_sem]
   ·simp [go_sem]
 ·have e : i = a.entries.length := by simp at h; omega
  have hab : a.entries = b.entries := by
   rw [e, List.take_length, hl, List.take_length] at hs; exact hs
  refine wG tK ?_
  refine wT ?_
  simp [hab]
theorem putN_small {l : List Node} (hl : Small l) {n : Node} (hn : n.Small) (hlen : l.length ≤ 99999999) : Small (putN l n) := by
 refine ⟨by have := putN_length l n; omega, fun x hx => ?_⟩
 unfold putN at hx
 split at hx
 ·rcases List.mem_or_eq_of_mem_set hx with h | rfl
  ·exact hl.each x h
  ·exact hn
 ·rcases List.mem_append.1 hx with h | h
  ·exact hl.each x (List.mem_of_mem_take h)
  ·rcases List.mem_cons.1 h with rfl | h
   ·exact hn
   ·exact hl.each x (List.mem_of_mem_drop h)
theorem enterN_small {n : Node} (hn : n.Small) (s : List UInt8) (f : Int) (h : n.entries.length ≤ 99999999) : (enterN n s f).Small := by
 refine ⟨hn.data, ?_⟩
 show (enterE n.entries s f).length ≤ _
 unfold enterE
 split
 ·simp; omega
 ·have := eplace_le n.entries s
  simp; omega
theorem leaveN_small {n : Node} (hn : n.Small) (s : List UInt8) : (leaveN n s).Small :=
 ⟨hn.data, by
  have := List.length_filter_le (fun e : Entry => !(e.name == s)) n.entries
  have := hn.entries
  show (leaveE n.entries s).length ≤ _
  unfold leaveE; omega⟩
def namedE (l : List Node) (a : Act) : Int := if dirE l a.dir = 0 then (match entryN (getN l a.dir) a.name with
 | none => 6
 | some f => if f = a.fid then 0 else 13) else dirE l a.dir
theorem named_ok (l : List Node) (a : Act) (v : Int) (hl : Small l) (hname : a.name.length ≤ 100000000) (G Y N : Nat → Nat) : FnOK Tryz.prog 92 [.ptr 15 9 0 0] (dH (ZD l a v) G Y N)
  (fun r H => r = .tup [.agg (ZN (getN l a.dir)), .int .i64 (namedE l a)] ∧ ∀ i b, hget (dH (ZD l a v) G Y N) i = some b → hget H i = some b) := by
 have hsm : (getN l a.dir).Small := hl.find a.dir
 unfold namedE
 unfold dH
 refine ZF tK (Tryz.func92) rfl (fun C => ?_)
 simp only [Tryz.ntmps92, Tryz.results92, go_sem]
 refine wGq tK ?_ ?_ (by simp only [go_sem, ZD]; try exact rfl)
 ·simp [ZD]
 refine wP [15] Tryz.func88 (hf := (dir_ok l a v a.dir hl)) (hk := ?_)
 generalize hgn : getN l a.dir = n at hsm
 generalize hge : dirE l a.dir = e
 refine wGq tK ?_ ?_ (by simp only [go_sem, ZN]; try exact rfl)
 ·simp [ZN]
 refine wD (fun h => ?_) (fun h => ?_)
 ·have he : e ≠ 0 := by simpa using h
  refine wGq tK ?_ ?_ (by simp only [go_sem, ZN]; try exact rfl)
  ·simp [ZN]
  refine wU ?_ (hold2 ?_ ?_)
  ·simp [ZN, he]
  ·simp [go_sem, ZD]
  ·simp [go_sem]
 have he : e = 0 := by simpa using h
 subst he
 refine wG tK ?_
 refine ZW ZM ?_
 refine ZS rfl ?_
 refine sNq tK 6 ?_ ?_ (by simp only [go_sem]; exact rfl) (by simp only [go_sem]; exact rfl) (by simp only [go_sem, ZN, ZD]; try exact rfl)
 ·simp [ZN, ZD]
 refine sC Tryz.func110 (hf := (entry_ok n a.name hsm)) (hk := ?_)
 cases hen : entryN n a.name with
 | none =>
  simp only [optInt]
  refine sG tK ?_
  refine sE ?_
  refine wKd ?_
  try simp only [go_sem, gA, gB, gC]
  refine wG tK ?_
  refine wD (fun h => ?_) (fun h => ?_)
  ·refine wGq tK ?_ ?_ (by simp only [go_sem, ZN]; try exact rfl)
   ·simp [ZN]
   refine wU ?_ (hold2 ?_ ?_)
   ·simp [ZN]
   ·simp [go_sem, ZD]
   ·simp [go_sem]
  ·cases h
 | some f =>
  simp only [optInt]
  refine sG tK ?_
  refine sE ?_
  refine wKd ?_
  try simp only [go_sem, gA, gB, gC]
  refine wG tK ?_
  refine wD (fun h => ?_) (fun h => ?_)
  ·cases h
  refine wGq tK ?_ ?_ (by simp only [go_sem, ZD]; try exact rfl)
  ·simp [ZD]
  refine wD (fun h => ?_) (fun h => ?_)
  ·have hf : ¬ f = a.fid := by simpa using h
   refine wGq tK ?_ ?_ (by simp only [go_sem, ZN]; try exact rfl)
   ·simp [ZN]
   refine wU ?_ (hold2 ?_ ?_)
   ·simp [ZN, hf]
   ·simp [go_sem, ZD]
   ·simp [go_sem]
  ·have hf : f = a.fid := by simpa using h
   refine wGq tK ?_ ?_ (by simp only [go_sem, ZN]; try exact rfl)
   ·simp [ZN]
   refine wU ?_ (hold2 ?_ ?_)
   ·simp [ZN, hf]
   ·simp [go_sem, ZD]
   ·simp [go_sem]
def makeE (l : List Node) (a : Act) : Int := if dirE l a.dir = 0 then (if roomE (getN l a.dir) a.name = 0 then (if (isAt l a.fid || a.fid == 0) = true then 13 else if l.length ≥ 24 then 5 else 0) else roomE (getN l a.dir) a.name) else dirE l a.dir
def madeN (a : Act) (v : Int) : Node := ⟨a.fid, a.kind == 2, [], [], v⟩
def makeL (l : List Node) (a : Act) (v : Int) : List Node := if makeE l a = 0 then putN (putN l { enterN (getN l a.dir) a.name a.fid with version := v }) (madeN a v) else l
theorem make_ok (l : List Node) (a : Act) (v : Int) (hl : Small l) (hlen : l.length ≤ 99999990) (hent : ∀ n, n ∈ l → n.entries.length ≤ 99999990) (hname : a.name.length ≤ 100000000) (G Y N : Nat → Nat) : FnOK Tryz.prog 53 [.ptr 15 9 0 0] (dH (ZD l a v) G Y N)
  (fun r H => r = .int .i64 (makeE l a) ∧ ∀ i b, hget (dH (ZD (makeL l a v) a v) G Y N) i = some b → hget H i = some b) := by
 have hsm : (getN l a.dir).Small := hl.find a.dir
 have hen : (getN l a.dir).entries.length ≤ 99999999 := by
  unfold getN
  cases e : findN l a.dir with
  | none => simp [zeroN]
  | some n => have := hent n (findN_mem e); simp only [Option.getD_some]; omega
 have hmE : makeL l a v = if makeE l a = 0 then putN (putN l { enterN (getN l a.dir) a.name a.fid with version := v }) (madeN a v) else l := rfl
 rw [hmE]
 unfold makeE
 unfold dH
 refine ZF tK (Tryz.func53) rfl (fun C => ?_)
 simp only [Tryz.ntmps53, Tryz.results53, go_sem]
 refine wGq tK ?_ ?_ (by simp only [go_sem, ZD]; try exact rfl)
 ·simp [ZD]
 refine wP [15] Tryz.func88 (hf := (dir_ok l a v a.dir hl)) (hk := ?_)
 have hee := enter_ok (getN l a.dir) a.name a.fid hsm
 have hes := enterN_small hsm a.name a.fid hen
 have hsv : ({ enterN (getN l a.dir) a.name a.fid with version := v } : Node).Small := ⟨hes.data, hes.entries⟩
 have hl1 := putN_small hl hsv (by omega)
 have hp1 := put_in l a v (enterN (getN l a.dir) a.name a.fid) hl hes
 have hp2 := put_in (putN l { enterN (getN l a.dir) a.name a.fid with version := v }) a v (madeN a 0) hl1 ⟨by simp [madeN], by simp [madeN]⟩
 have hmv : ({ madeN a 0 with version := v } : Node) = madeN a v := rfl
 rw [hmv] at hp2
 generalize putN (putN l { enterN (getN l a.dir) a.name a.fid with version := v }) (madeN a v) = l2 at hp2
 generalize putN l { enterN (getN l a.dir) a.name a.fid with version := v } = l1 at hp1 hp2 hl1
 have hp3 : ∀ (G Y N : Nat → Nat), FnOK Tryz.prog 90 [.ptr 15 9 0 0, .agg [.int .i64 a.fid, .bool (a.kind == 2), .nils, .nils, .int .i64 0]] (dH (ZD l1 a v) G Y N) (fun r H => r = .tup [] ∧ ∀ i b, hget (dH (ZD l2 a v) G Y N) i = some b → hget H i = some b) := fun G Y N => FnOK.nrm rfl (hp2 G Y N)
 generalize enterN (getN l a.dir) a.name a.fid = en at hee hp1
 generalize hgn : getN l a.dir = n at hsm hee
 generalize hge : dirE l a.dir = e
 refine wGq tK ?_ ?_ (by simp only [go_sem, ZN]; try exact rfl)
 ·simp [ZN]
 refine wD (fun h => ?_) (fun h => ?_)
 ·have he : e ≠ 0 := by simpa using h
  refine wG tK ?_
  refine wU ?_ (hold2 ?_ ?_)
  ·simp [he]
  ·simp [go_sem, ZD, he]
  ·simp [go_sem]
 have he : e = 0 := by simpa using h
 subst he
 simp only [if_true]
 refine wG tK ?_
 refine ZW ZM ?_
 refine ZS rfl ?_
 refine sNq tK 6 ?_ ?_ (by simp only [go_sem]; exact rfl) (by simp only [go_sem]; exact rfl) (by simp only [go_sem, ZN, ZD]; try exact rfl)
 ·simp [ZN, ZD]
 refine sC Tryz.func89 (hf := (room_ok n a.name hsm hname)) (hk := ?_)
 generalize hre : roomE n a.name = e2
 refine sG tK ?_
 refine sE ?_
 refine wKd ?_
 try simp only [go_sem, gA, gB, gC]
 refine wG tK ?_
 refine wD (fun h => ?_) (fun h => ?_)
 ·have he : e2 ≠ 0 := by simpa using h
  refine wG tK ?_
  refine wU ?_ (hold2 ?_ ?_)
  ·simp [he]
  ·simp [go_sem, ZD, he]
  ·simp [go_sem]
 have he : e2 = 0 := by simpa using h
 subst he
 simp only [if_true]
 refine wG tK ?_
 refine ZW ZM ?_
 refine ZS rfl ?_
 refine sNq tK 9 ?_ ?_ (by simp only [go_sem]; exact rfl) (by simp only [go_sem]; exact rfl) (by simp only [go_sem, ZD]; try exact rfl)
 ·simp [ZD]
 refine sC Tryz.func47 (hf := (find_ok l a.fid hl)) (hk := ?_)
 simp only [go_sem, findR]
 generalize (findN l a.fid).getD zeroN = x
 generalize isAt l a.fid = z
 refine sG tK ?_
 refine sW tK ?_
 simp only [go_sem, ZN]
 refine sT tK ?_
 refine sE ?_
 refine dS tK ?_
 refine wKd ?_
 try simp only [go_sem, gA, gB, gC]
 refine wR ?_
 refine wN tK 1 ?_
 refine cw_name 44 (by simp only [go_sem]; exact rfl) (fun c44 h44 => ?_)
 simp only [go_sem]
 subst h44
 cases hz : (z || a.fid == 0) with
 | true =>
  refine wNq tK 8 ?_ ?_ (by simp only [go_sem]; exact rfl) (by simp only [go_sem]; exact rfl) (by simp only [go_sem, ZD]; try exact rfl)
  ·cases z <;> simp [ZD]
  have hb : (bif z then true else a.fid == 0) = true := by rw [← hz]; cases z <;> rfl
  simp only [go_sem, hb]
  refine wG tK ?_
  refine wD (fun h => ?_) (fun h => ?_)
  ·refine wG tK ?_
   refine wU ?_ (hold2 ?_ ?_)
   ·simp
   ·simp [go_sem, ZD]
   ·simp [go_sem]
  ·cases h
 | false =>
  refine wNq tK 8 ?_ ?_ (by simp only [go_sem]; exact rfl) (by simp only [go_sem]; exact rfl) (by simp only [go_sem, ZD]; try exact rfl)
  ·cases z <;> simp [ZD]
  have hb : (bif z then true else a.fid == 0) = false := by rw [← hz]; cases z <;> rfl
  simp only [go_sem, hb]
  refine wG tK ?_
  refine wD (fun h => ?_) (fun h => ?_)
  ·cases h
  refine wGq tK ?_ ?_ (by simp only [go_sem, ZD]; try exact rfl)
  ·simp [ZD]
  refine wD (fun h => ?_) (fun h => ?_)
  ·have h24 : l.length ≥ 24 := by simp at h; omega
   refine wG tK ?_
   refine wU ?_ (hold2 ?_ ?_)
   ·simp [h24]
   ·simp [go_sem, ZD, h24]
   ·simp [go_sem]
  have h24 : ¬ l.length ≥ 24 := by simp at h; omega
  simp only [h24, if_false, if_true]
  refine wG tK ?_
  refine ZW ZM ?_
  refine ZS rfl ?_
  refine sNq tK 12 ?_ ?_ (by simp only [go_sem]; exact rfl) (by simp only [go_sem]; exact rfl) (by simp only [go_sem, ZN, ZD]; try exact rfl)
  ·simp [ZN, ZD]
  refine sC Tryz.func91 (hf := (hee)) (hk := ?_)
  refine sE ?_
  refine draw_trip rfl (by kernel_rfl) rfl (wTP [15] Tryz.func90 (hf := (hp1))) rfl ?_
  refine wKd ?_
  try simp only [go_sem, gA, gB, gC]
  refine wG tK ?_
  refine ZW ZM ?_
  refine ZS rfl ?_
  refine sNq tK 12 ?_ ?_ (by simp only [go_sem]; exact rfl) (by simp only [go_sem]; exact rfl) (by simp only [go_sem, ZN, ZD]; try exact rfl)
  ·simp [ZN, ZD]
  refine sB tK ?_
  refine sE ?_
  refine draw_trip rfl (by kernel_rfl) rfl (wTP [15] Tryz.func90 (hf := (hp3))) rfl ?_
  refine wKd ?_
  try simp only [go_sem, gA, gB, gC]
  refine wG tK ?_
  refine wU ?_ (hold2 ?_ ?_)
  ·simp
  ·simp [go_sem]
  ·simp [go_sem]
def removeE (l : List Node) (a : Act) : Int := if namedE l a = 0 then (match findN l a.fid with
 | none => 12
 | some x => if x.entries.length > 0 then 10 else 0) else namedE l a
def removeL (l : List Node) (a : Act) (v : Int) : List Node := if removeE l a = 0 then dropN (putN l { leaveN (getN l a.dir) a.name with version := v }) a.fid else l
theorem remove_ok (l : List Node) (a : Act) (v : Int) (hl : Small l) (hlen : l.length ≤ 99999990) (hname : a.name.length ≤ 100000000) (G Y N : Nat → Nat) : FnOK Tryz.prog 55 [.ptr 15 9 0 0] (dH (ZD l a v) G Y N)
  (fun r H => r = .int .i64 (removeE l a) ∧ ∀ i b, hget (dH (ZD (removeL l a v) a v) G Y N) i = some b → hget H i = some b) := by
 have hsm : (getN l a.dir).Small := hl.find a.dir
 have hmE : removeL l a v = if removeE l a = 0 then dropN (putN l { leaveN (getN l a.dir) a.name with version := v }) a.fid else l := rfl
 rw [hmE]
 unfold removeE
 unfold dH
 refine ZF tK (Tryz.func55) rfl (fun C => ?_)
 simp only [Tryz.ntmps55, Tryz.results55, go_sem]
 refine wG tK ?_
 refine wP [15] Tryz.func92 (hf := (named_ok l a v hl hname)) (hk := ?_)
 have hee := leave_ok (getN l a.dir) a.name hsm
 have hes := leaveN_small hsm a.name
 have hsv : ({ leaveN (getN l a.dir) a.name with version := v } : Node).Small := ⟨hes.data, hes.entries⟩
 have hl1 := putN_small hl hsv (by omega)
 have hp1 := put_in l a v (leaveN (getN l a.dir) a.name) hl hes
 have hp2 := drop_ok (putN l { leaveN (getN l a.dir) a.name with version := v }) a.fid hl1
 generalize dropN (putN l { leaveN (getN l a.dir) a.name with version := v }) a.fid = l2 at hp2
 generalize putN l { leaveN (getN l a.dir) a.name with version := v } = l1 at hp1 hp2 hl1
 generalize leaveN (getN l a.dir) a.name = en at hee hp1
 generalize hgn : getN l a.dir = n at hsm hee
 generalize hge : namedE l a = e
 refine wGq tK ?_ ?_ (by simp only [go_sem, ZN]; try exact rfl)
 ·simp [ZN]
 refine wD (fun h => ?_) (fun h => ?_)
 ·have he : e ≠ 0 := by simpa using h
  refine wG tK ?_
  refine wU ?_ (hold2 ?_ ?_)
  ·simp [he]
  ·simp [go_sem, ZD, he]
  ·simp [go_sem]
 have he : e = 0 := by simpa using h
 subst he
 simp only [if_true]
 refine wG tK ?_
 refine ZW ZM ?_
 refine ZS rfl ?_
 refine sNq tK 9 ?_ ?_ (by simp only [go_sem]; exact rfl) (by simp only [go_sem]; exact rfl) (by simp only [go_sem, ZD]; try exact rfl)
 ·simp [ZD]
 refine sC Tryz.func47 (hf := (find_ok l a.fid hl)) (hk := ?_)
 simp only [go_sem, findR]
 rw [isAt_eq]
 cases hfd : findN l a.fid with
 | none =>
  simp only [Option.getD_none, Option.isSome_none]
  refine sG tK ?_
  refine sW tK ?_
  simp only [go_sem, ZN, zeroN]
  refine sT tK ?_
  refine sE ?_
  refine dS tK ?_
  refine wKd ?_
  try simp only [go_sem, gA, gB, gC]
  refine wG tK ?_
  refine wD (fun h => ?_) (fun h => ?_)
  ·refine wG tK ?_
   refine wU ?_ (hold2 ?_ ?_)
   ·simp
   ·simp [go_sem, ZD]
   ·simp [go_sem]
  ·cases h
 | some x =>
  simp only [Option.getD_some, Option.isSome_some]
  refine sG tK ?_
  refine sW tK ?_
  simp only [go_sem, ZN]
  refine sT tK ?_
  refine sE ?_
  refine dS tK ?_
  refine wKd ?_
  try simp only [go_sem, gA, gB, gC]
  refine wG tK ?_
  refine wD (fun h => ?_) (fun h => ?_)
  ·cases h
  refine wG tK ?_
  refine wD (fun h => ?_) (fun h => ?_)
  ·have h0 : x.entries.length > 0 := by have h2 := of_decide_eq_true h; omega
   refine wG tK ?_
   refine wU ?_ (hold2 ?_ ?_)
   ·simp [h0]
   ·simp [go_sem, ZD, h0]
   ·simp [go_sem]
  have h0 : ¬ x.entries.length > 0 := by have h2 := of_decide_eq_false h; omega
  simp only [h0, if_false, if_true]
  refine wG tK ?_
  refine ZW ZM ?_
  refine ZS rfl ?_
  refine sNq tK 7 ?_ ?_ (by simp only [go_sem]; exact rfl) (by simp only [go_sem]; exact rfl) (by simp only [go_sem, ZN, ZD]; try exact rfl)
  ·simp [ZN, ZD]
  refine sC Tryz.func93 (hf := (hee)) (hk := ?_)
  refine sE ?_
  refine draw_trip rfl (by kernel_rfl) rfl (wTP [15] Tryz.func90 (hf := (hp1))) rfl ?_
  refine wKd ?_
  try simp only [go_sem, gA, gB, gC]
  refine wG tK ?_
  refine ZW ZM ?_
  refine ZS rfl ?_
  refine sNq tK 10 ?_ ?_ (by simp only [go_sem]; exact rfl) (by simp only [go_sem]; exact rfl) (by simp only [go_sem, ZD]; try exact rfl)
  ·simp [ZD]
  refine sC Tryz.func94 (hf := (hp2)) (hk := ?_)
  refine sNq tK 2 ?_ ?_ (by simp only [go_sem]; exact rfl) (by simp only [go_sem]; exact rfl) (by simp only [go_sem, ZD]; try exact rfl)
  ·simp [ZD]
  refine sE ?_
  refine dSq tK ?_ ?_
  ·simp [go_sem, ZD]
  refine wKd ?_
  try simp only [go_sem, gA, gB, gC]
  refine wG tK ?_
  refine wU ?_ (hold2 ?_ ?_)
  ·simp
  ·simp [go_sem, ZD]
  ·simp [go_sem]
def storeE (l : List Node) (a : Act) : Int := match findN l a.fid with
 | none => 12
 | some n => if n.dir then 9 else if a.data.length > 20 then 4 else 0
def storeL (l : List Node) (a : Act) (v : Int) : List Node := if storeE l a = 0 then putN l { getN l a.fid with data := a.data, version := v } else l
theorem store_ok (l : List Node) (a : Act) (v : Int) (hl : Small l) (ha : a.data.length ≤ 100000000) (G Y N : Nat → Nat) : FnOK Tryz.prog 54 [.ptr 15 9 0 0] (dH (ZD l a v) G Y N)
  (fun r H => r = .int .i64 (storeE l a) ∧ ∀ i b, hget (dH (ZD (storeL l a v) a v) G Y N) i = some b → hget H i = some b) := by
 have hsm : (getN l a.fid).Small := hl.find a.fid
 have hmE : storeL l a v = if storeE l a = 0 then putN l { getN l a.fid with data := a.data, version := v } else l := rfl
 rw [hmE]
 have hp1 := put_in l a v { getN l a.fid with data := a.data } hl ⟨ha, hsm.entries⟩
 have hlet : ({ ({ getN l a.fid with data := a.data } : Node) with version := v } : Node) = { getN l a.fid with data := a.data, version := v } := rfl
 rw [hlet] at hp1
 generalize putN l { getN l a.fid with data := a.data, version := v } = l2 at hp1
 unfold storeE
 unfold getN at hp1
 unfold dH
 refine ZF tK (Tryz.func54) rfl (fun C => ?_)
 simp only [Tryz.ntmps54, Tryz.results54, go_sem]
 refine wG tK ?_
 refine ZW ZM ?_
 refine ZS rfl ?_
 refine sNq tK 9 ?_ ?_ (by simp only [go_sem]; exact rfl) (by simp only [go_sem]; exact rfl) (by simp only [go_sem, ZD]; try exact rfl)
 ·simp [ZD]
 refine sC Tryz.func47 (hf := (find_ok l a.fid hl)) (hk := ?_)
 simp only [go_sem, findR]
 rw [isAt_eq]
 cases hfd : findN l a.fid with
 | none =>
  simp only [Option.getD_none, Option.isSome_none]
  refine sG tK ?_
  refine sW tK ?_
  simp only [go_sem, ZN, zeroN]
  refine sT tK ?_
  refine sE ?_
  refine dS tK ?_
  refine wKd ?_
  try simp only [go_sem, gA, gB, gC]
  refine wG tK ?_
  refine wD (fun h => ?_) (fun h => ?_)
  ·refine wG tK ?_
   refine wU ?_ (hold2 ?_ ?_)
   ·simp
   ·simp [go_sem, ZD]
   ·simp [go_sem]
  ·cases h
 | some x =>
  rw [hfd] at hp1
  simp only [Option.getD_some, Option.isSome_some] at hp1 ⊢
  refine sG tK ?_
  refine sW tK ?_
  simp only [go_sem, ZN]
  refine sT tK ?_
  refine sE ?_
  refine dS tK ?_
  refine wKd ?_
  try simp only [go_sem, gA, gB, gC]
  refine wG tK ?_
  refine wD (fun h => ?_) (fun h => ?_)
  ·cases h
  refine wG tK ?_
  refine wD (fun h => ?_) (fun h => ?_)
  ·have h0 : x.dir = true := h
   refine wG tK ?_
   refine wU ?_ (hold2 ?_ ?_)
   ·simp [h0]
   ·simp [go_sem, ZD, h0]
   ·simp [go_sem]
  have h0 : x.dir = false := h
  refine wGq tK ?_ ?_ (by simp only [go_sem, ZD]; try exact rfl)
  ·simp [ZD]
  refine wD (fun h => ?_) (fun h => ?_)
  ·have h1 : a.data.length > 20 := by simp at h; omega
   refine wG tK ?_
   refine wU ?_ (hold2 ?_ ?_)
   ·simp [h0, h1]
   ·simp [go_sem, ZD, h0, h1]
   ·simp [go_sem]
  have h1 : ¬ a.data.length > 20 := by simp at h; omega
  have hs0 : (if x.dir = true then (9 : Int) else if a.data.length > 20 then 4 else 0) = 0 := by simp [h0, h1]
  simp only [hs0, if_true]
  refine wGq tK ?_ ?_ (by simp only [go_sem, ZD]; try exact rfl)
  ·simp [ZD]
  refine wP [15] Tryz.func90 (hf := (hp1)) (hk := ?_)
  refine wG tK ?_
  refine wU ?_ (hold2 ?_ ?_)
  ·simp
  ·simp [go_sem, ZD]
  ·simp [go_sem]
def withinF (l : List Node) (fid : Int) : Nat → Int → Option Bool
 | 0, _ => none
 | f + 1, k => if fid = k then some true else match findN l k with
  | none => some false
  | some n => if n.entries.all (fun e => decide (e.fid = k) || (withinF l fid f e.fid).isSome) then some (n.entries.any fun e => !(decide (e.fid = k)) && (withinF l fid f e.fid).getD false) else none
theorem withinIs_ok (l : List Node) (fid k : Int) (e : Entry) (b : Bool) (h : e.fid ≠ k → FnOK Tryz.prog 95 [.sl (l.map ZN), .int .i64 fid, .int .i64 e.fid] [] (fun r _ => r = .bool b)) :
  FnOK Tryz.prog 121 [.agg (ZE e), .rp [.int .i64 k] 0, .rp [.sl (l.map ZN)] 0, .rp [.int .i64 fid] 0] [] (fun r _ => r = .bool (!(decide (e.fid = k)) && b)) := by
 unfold ZE
 refine ZF tK (Tryz.func121) rfl (fun C => ?_)
 simp only [Tryz.ntmps121, Tryz.results121, go_sem]
 refine wR ?_
 refine wN tK 2 ?_
 refine wR ?_
 refine ZZ 4 rfl (rfl) ?_
 simp only [go_sem]
 refine wN tK 4 ?_
 refine cw_name 9 (by simp only [go_sem]; exact rfl) (fun c9 h9 => ?_)
 simp only [go_sem]
 cases c9 with
 | true =>
  have hne : e.fid ≠ k := by simpa using h9
  refine wG tK ?_
  refine wCC Tryz.func95 (hf := fun hb => (h hne)) (hk := ?_)
  refine wG tK ?_
  refine wT ?_
  simp [hne]
 | false =>
  have hne : e.fid = k := by simpa using h9
  refine wG tK ?_
  refine cw_pass (.bool false) rfl ?_
  simp only [go_sem]
  refine wG tK ?_
  refine wT ?_
  simp [hne]
theorem within_step (l : List Node) (hl : Small l) (fid : Int) (f : Nat) (ih : ∀ (k : Int) (b : Bool), withinF l fid f k = some b → FnOK Tryz.prog 95 [.sl (l.map ZN), .int .i64 fid, .int .i64 k] [] (fun r _ => r = .bool b)) (k : Int) (b : Bool) (hb : withinF l fid (f + 1) k = some b) :
  FnOK Tryz.prog 95 [.sl (l.map ZN), .int .i64 fid, .int .i64 k] [] (fun r _ => r = .bool b) := by
 unfold withinF at hb
 refine ZF tK (Tryz.func95) rfl (fun C => ?_)
 simp only [Tryz.ntmps95, Tryz.results95, go_sem]
 refine wG tK ?_
 refine wD (fun h => ?_) (fun h => ?_)
 ·have e : fid = k := by simpa using h
  rw [if_pos e] at hb
  refine wG tK ?_
  refine wT ?_
  simpa using hb
 have e : ¬ fid = k := by simpa using h
 rw [if_neg e] at hb
 refine ZZ 3 rfl (rfl) ?_
 refine ZZ 4 rfl (rfl) ?_
 refine ZZ 5 rfl (rfl) ?_
 simp only [go_sem]
 refine wG tK ?_
 refine wC Tryz.func47 (hf := (find_ok l k hl)) (hk := ?_)
 have hsm := hl.find k
 simp only [go_sem, findR]
 rw [isAt_eq]
 generalize hfd : findN l k = o at hb hsm
 cases o with
 | none =>
  simp only [Option.getD_none, Option.isSome_none] at hb ⊢
  refine wGq tK ?_ ?_ (by simp only [go_sem, ZN, zeroN]; try exact rfl)
  ·simp [ZN]
  refine wD (fun h => ?_) (fun h => ?_)
  ·refine wG tK ?_
   refine wT ?_
   simpa using hb
  ·cases h
 | some n =>
  simp only [Option.getD_some, Option.isSome_some] at hb hsm ⊢
  split at hb
  ·rename_i hall
   injection hb with hb
   have hcl := entry_containsFunc n.entries hsm.entries (f := 121) (caps := [.rp [.int .i64 k] 0, .rp [.sl (l.map ZN)] 0, .rp [.int .i64 fid] 0]) (p := fun e => !(decide (e.fid = k)) && (withinF l fid f e.fid).getD false) ⟨_, Go.Proofs.Tryz.func121, by kernel_rfl, rfl⟩ rfl (fun x hx => withinIs_ok l fid k x ((withinF l fid f x.fid).getD false) (fun hne => by
    have h1 := List.all_eq_true.1 hall x hx
    simp only [hne, decide_false, Bool.false_or] at h1
    cases h2 : withinF l fid f x.fid with
    | none => rw [h2] at h1; cases h1
    | some c => exact ih x.fid c h2))
   refine wGq tK ?_ ?_ (by simp only [go_sem, ZN]; try exact rfl)
   ·simp [ZN]
   refine wD (fun h => ?_) (fun h => ?_)
   ·cases h
   refine wGq tK ?_ ?_ (by simp only [go_sem, ZN]; try exact rfl)
   ·simp [ZN]
   refine wC Tryz.func120 (hf := (hcl)) (hk := ?_)
   refine wG tK ?_
   refine wT ?_
   simpa using hb
  ·cases hb
theorem within_ok (l : List Node) (hl : Small l) (fid : Int) : ∀ (f : Nat) (k : Int) (b : Bool), withinF l fid f k = some b → FnOK Tryz.prog 95 [.sl (l.map ZN), .int .i64 fid, .int .i64 k] [] (fun r _ => r = .bool b)
 | 0, _, _, h => by cases h
 | f + 1, k, b, h => within_step l hl fid f (within_ok l hl fid f) k b h
end La
namespace La
open Go Go.Eng Go.Proofs
open Classical in
noncomputable def withinB (l : List Node) (fid k : Int) : Bool := decide (∃ f, withinF l fid f k = some true)
def toN (l : List Node) (a : Act) : Node := if a.to = a.dir then leaveN (getN l a.dir) a.name else getN l a.to
noncomputable def renameE (l : List Node) (a : Act) : Int := if namedE l a = 0 then (if dirE l a.to = 0 then (if roomE (toN l a) a.toName = 0 then (if isAt l a.fid = true then (if withinB l a.to a.fid = true then 11 else 0) else 12) else roomE (toN l a) a.toName) else dirE l a.to) else namedE l a
noncomputable def renameL (l : List Node) (a : Act) (v : Int) : List Node := if renameE l a = 0 then putN (if a.to = a.dir then l else putN l { leaveN (getN l a.dir) a.name with version := v }) { enterN (toN l a) a.toName a.fid with version := v } else l
noncomputable def applyE (l : List Node) (a : Act) : Int := if a.kind = 1 then makeE l a else if a.kind = 2 then makeE l a else if a.kind = 3 then storeE l a else if a.kind = 4 then removeE l a else if a.kind = 5 then renameE l a else 1
noncomputable def applyL (l : List Node) (a : Act) (v : Int) : List Node := if a.kind = 1 then makeL l a v else if a.kind = 2 then makeL l a v else if a.kind = 3 then storeL l a v else if a.kind = 4 then removeL l a v else if a.kind = 5 then renameL l a v else l
noncomputable def applyR (l : List Node) (a : Act) (v : Int) : AV := if applyE l a = 0 then .tup [.sl ((applyL l a v).map ZN), .int .i64 0] else .tup [.sl [], .int .i64 (applyE l a)]
structure FitA (l : List Node) (a : Act) : Prop where
 small : Small l
 len : l.length ≤ 99999990
 ent : ∀ n, n ∈ l → n.entries.length ≤ 99999990
 name : a.name.length ≤ 100000000
 toName : a.toName.length ≤ 100000000
 data : a.data.length ≤ 100000000
theorem apply_raw (l : List Node) (a : Act) (v : Int) (hf : FitA l a)
  (hren : a.kind = 5 → ∀ (G Y N : Nat → Nat), FnOK Tryz.prog 56 [.ptr 15 9 0 0] (dH (ZD l a v) G Y N) (fun r H => r = .int .i64 (renameE l a) ∧ ∀ i b, hget (dH (ZD (renameL l a v) a v) G Y N) i = some b → hget H i = some b)) :
  FnOK Tryz.prog 34 [.sl (l.map ZN), .agg (ZA a), .int .i64 v] [] (fun r _ => r = if applyE l a = 0 then .tup [.sl ((applyL l a v).map ZN), .int .i64 0] else .tup [.nils, .int .i64 (applyE l a)]) := by
 have hl := hf.small
 have c1 := make_ok l a v hl hf.len hf.ent hf.name
 have c3 := store_ok l a v hl hf.data
 have c4 := remove_ok l a v hl hf.len hf.name
 generalize hE : applyE l a = e
 generalize hL : applyL l a v = L
 refine ZF tK (Tryz.func34) rfl (fun C => ?_)
 simp only [Tryz.ntmps34, Tryz.results34, go_sem]
 refine wGq tK ?_ ?_ (by simp only [go_sem, ZA]; try exact rfl)
 ·simp
 refine ZZ 4 rfl (rfl) ?_
 simp only [go_sem]
 refine ZW ZM ?_
 refine ZS rfl ?_
 refine sG tK ?_
 refine sC Tryz.func38 (hf := (own_ok l hl)) (hk := ?_)
 refine sN tK 2 ?_ (by simp only [go_sem]; exact rfl) (by simp only [go_sem]; exact rfl) (by simp only [go_sem, ZA]; try exact rfl) (by simp [go_sem, ZA])
 refine sB tK ?_
 refine sW tK ?_
 refine sE ?_
 refine dS tK ?_
 refine wKd ?_
 try simp only [go_sem, gA, gB, gC]
 refine wG tK ?_
 refine wD (fun h => ?_) (fun h => ?_)
 ·have hk : a.kind = 1 := by simpa using h
  have q1 : makeE l a = e := by rw [← hE]; simp [applyE, hk]
  have q2 : makeL l a v = L := by rw [← hL]; simp [applyL, hk]
  rw [q1, q2] at c1
  refine wG tK ?_
  refine wDT (hb := (by simp [hk])) (hk := ?_)
  refine wG tK ?_
  refine wP [15] Tryz.func53 (hf := (c1)) (hk := ?_)
  refine wG tK ?_
  refine wD (fun h => ?_) (fun h => ?_)
  ·have he : e ≠ 0 := by simpa using h
   refine wG tK ?_
   refine wT ?_
   simp [he]
  ·have he : e = 0 := by simpa using h
   refine wGq tK ?_ ?_ (by simp only [go_sem, ZD]; try exact rfl)
   ·simp [ZD]
   refine wT ?_
   simp [he]
 have hk1 : ¬ a.kind = 1 := by simpa using h
 refine wG tK ?_
 by_cases hk2 : a.kind = 2
 ·have hk : a.kind = 2 := hk2
  have q1 : makeE l a = e := by rw [← hE]; simp [applyE, hk]
  have q2 : makeL l a v = L := by rw [← hL]; simp [applyL, hk]
  rw [q1, q2] at c1
  refine wDT (hb := (by simp [hk])) (hk := ?_)
  refine wG tK ?_
  refine wP [15] Tryz.func53 (hf := (c1)) (hk := ?_)
  refine wG tK ?_
  refine wD (fun h => ?_) (fun h => ?_)
  ·have he : e ≠ 0 := by simpa using h
   refine wG tK ?_
   refine wT ?_
   simp [he]
  ·have he : e = 0 := by simpa using h
   refine wGq tK ?_ ?_ (by simp only [go_sem, ZD]; try exact rfl)
   ·simp [ZD]
   refine wT ?_
   simp [he]
 refine wDF (hb := (by simpa using hk2)) (hk := ?_)
 refine wG tK ?_
 refine wD (fun h => ?_) (fun h => ?_)
 ·have hk : a.kind = 3 := by simpa using h
  have q1 : storeE l a = e := by rw [← hE]; simp [applyE, hk]
  have q2 : storeL l a v = L := by rw [← hL]; simp [applyL, hk]
  rw [q1, q2] at c3
  refine wG tK ?_
  refine wP [15] Tryz.func54 (hf := (c3)) (hk := ?_)
  refine wG tK ?_
  refine wD (fun h => ?_) (fun h => ?_)
  ·have he : e ≠ 0 := by simpa using h
   refine wG tK ?_
   refine wT ?_
   simp [he]
  ·have he : e = 0 := by simpa using h
   refine wGq tK ?_ ?_ (by simp only [go_sem, ZD]; try exact rfl)
   ·simp [ZD]
   refine wT ?_
   simp [he]
 have hk3 : ¬ a.kind = 3 := by simpa using h
 refine wG tK ?_
 refine wD (fun h => ?_) (fun h => ?_)
 ·have hk : a.kind = 4 := by simpa using h
  have q1 : removeE l a = e := by rw [← hE]; simp [applyE, hk]
  have q2 : removeL l a v = L := by rw [← hL]; simp [applyL, hk]
  rw [q1, q2] at c4
  refine wG tK ?_
  refine wP [15] Tryz.func55 (hf := (c4)) (hk := ?_)
  refine wG tK ?_
  refine wD (fun h => ?_) (fun h => ?_)
  ·have he : e ≠ 0 := by simpa using h
   refine wG tK ?_
   refine wT ?_
   simp [he]
  ·have he : e = 0 := by simpa using h
   refine wGq tK ?_ ?_ (by simp only [go_sem, ZD]; try exact rfl)
   ·simp [ZD]
   refine wT ?_
   simp [he]
 have hk4 : ¬ a.kind = 4 := by simpa using h
 refine wG tK ?_
 refine wD (fun h => ?_) (fun h => ?_)
 ·have hk : a.kind = 5 := by simpa using h
  have c5 := hren hk
  have q1 : renameE l a = e := by rw [← hE]; simp [applyE, hk]
  have q2 : renameL l a v = L := by rw [← hL]; simp [applyL, hk]
  rw [q1, q2] at c5
  refine wG tK ?_
  refine wP [15] Tryz.func56 (hf := (c5)) (hk := ?_)
  refine wG tK ?_
  refine wD (fun h => ?_) (fun h => ?_)
  ·have he : e ≠ 0 := by simpa using h
   refine wG tK ?_
   refine wT ?_
   simp [he]
  ·have he : e = 0 := by simpa using h
   refine wGq tK ?_ ?_ (by simp only [go_sem, ZD]; try exact rfl)
   ·simp [ZD]
   refine wT ?_
   simp [he]
 have hk5 : ¬ a.kind = 5 := by simpa using h
 have q1 : e = 1 := by rw [← hE]; simp [applyE, hk1, hk2, hk3, hk4, hk5]
 subst q1
 refine wG tK ?_
 refine wDT (hb := (by simp)) (hk := ?_)
 refine wG tK ?_
 refine wT ?_
 simp
theorem apply_ok (l : List Node) (a : Act) (v : Int) (hf : FitA l a)
  (hren : a.kind = 5 → ∀ (G Y N : Nat → Nat), FnOK Tryz.prog 56 [.ptr 15 9 0 0] (dH (ZD l a v) G Y N) (fun r H => r = .int .i64 (renameE l a) ∧ ∀ i b, hget (dH (ZD (renameL l a v) a v) G Y N) i = some b → hget H i = some b)) :
  FnOK Tryz.prog 34 [.sl (l.map ZN), .agg (ZA a), .int .i64 v] [] (fun r _ => r = applyR l a v) := by
 refine FnOK.nrmR (apply_raw l a v hf hren) ?_
 unfold applyR
 split
 ·have h1 : nrmR ((applyL l a v).map ZN) = (applyL l a v).map ZN := by
   rw [nrmR_map, List.map_map]
   exact List.map_congr_left fun n _ => nrm_nodeRow n
  simp only [nrm, nrmL, h1]
 ·rfl
end La
namespace La
open Go Go.Eng Go.Proofs
theorem withinF_step (l : List Node) (fid : Int) : ∀ (f : Nat) (k : Int) (b : Bool), withinF l fid f k = some b → withinF l fid (f + 1) k = some b
 | 0, _, _, h => by cases h
 | f + 1, k, b, h => by
  rw [withinF] at h ⊢
  by_cases hk : fid = k
  ·rw [if_pos hk] at h ⊢; exact h
  ·rw [if_neg hk] at h ⊢
   cases e : findN l k with
   | none => rw [e] at h; exact h
   | some n =>
    rw [e] at h
    simp only at h ⊢
    split at h
    ·rename_i hall
     injection h with h
     have key : ∀ x, x ∈ n.entries → decide (x.fid = k) = false → withinF l fid (f + 1) x.fid = withinF l fid f x.fid := fun x hx hne => by
      have h1 := List.all_eq_true.1 hall x hx
      rw [hne, Bool.false_or] at h1
      cases h2 : withinF l fid f x.fid with
      | none => rw [h2] at h1; cases h1
      | some c => exact withinF_step l fid f x.fid c h2
     rw [if_pos (List.all_eq_true.2 fun x hx => by
      cases hne : decide (x.fid = k) with
      | true => rfl
      | false => rw [key x hx hne, ← hne]; exact List.all_eq_true.1 hall x hx), ← h]
     congr 1
     rw [Bool.eq_iff_iff, List.any_eq_true, List.any_eq_true]
     constructor
     ·rintro ⟨x, hx, h3⟩
      refine ⟨x, hx, ?_⟩
      cases hne : decide (x.fid = k) with
      | true => rw [hne] at h3; exact h3
      | false => rw [key x hx hne, hne] at h3; exact h3
     ·rintro ⟨x, hx, h3⟩
      refine ⟨x, hx, ?_⟩
      cases hne : decide (x.fid = k) with
      | true => rw [hne] at h3; exact h3
      | false => rw [hne] at h3; rw [key x hx hne]; exact h3
    ·cases h
theorem withinF_le {l : List Node} {fid k : Int} {b : Bool} {f g : Nat} (hfg : f ≤ g) (h : withinF l fid f k = some b) : withinF l fid g k = some b := by
 obtain ⟨d, rfl⟩ := Nat.exists_eq_add_of_le hfg
 clear hfg
 induction d with
 | zero => exact h
 | succ d ih => exact withinF_step l fid _ k b ih
open Classical in
theorem withinB_of {l : List Node} {fid k : Int} {b : Bool} {f : Nat} (h : withinF l fid f k = some b) : withinB l fid k = b := by
 unfold withinB
 cases b with
 | true => exact decide_eq_true ⟨f, h⟩
 | false =>
  refine decide_eq_false ?_
  rintro ⟨g, hg⟩
  rcases Nat.le_total f g with hle | hle
  ·rw [withinF_le hle h] at hg; cases hg
  ·rw [withinF_le hle hg] at h; cases h
theorem getN_small {l : List Node} (hl : Small l) (k : Int) : (getN l k).Small := hl.find k
theorem rename_ok (l : List Node) (a : Act) (v : Int) (hf : FitA l a) (f : Nat) (hw : withinF l a.to f a.fid = some (withinB l a.to a.fid)) (G Y N : Nat → Nat) : FnOK Tryz.prog 56 [.ptr 15 9 0 0] (dH (ZD l a v) G Y N)
  (fun r H => r = .int .i64 (renameE l a) ∧ ∀ i b, hget (dH (ZD (renameL l a v) a v) G Y N) i = some b → hget H i = some b) := by
 have hl := hf.small
 have hlen := hf.len
 have hmE : renameL l a v = if renameE l a = 0 then putN (if a.to = a.dir then l else putN l { leaveN (getN l a.dir) a.name with version := v }) { enterN (toN l a) a.toName a.fid with version := v } else l := rfl
 rw [hmE]
 unfold renameE
 have hwi := within_ok l hl a.to f a.fid _ hw
 generalize withinB l a.to a.fid = wb at hwi
 have hsn := getN_small hl a.dir
 have hst := getN_small hl a.to
 have hent : ∀ k, (getN l k).entries.length ≤ 99999990 := fun k => by
  unfold getN
  cases e : findN l k with
  | none => simp [zeroN]
  | some n => exact hf.ent n (findN_mem e)
 have hlv := leave_ok (getN l a.dir) a.name hsn
 have hls := leaveN_small hsn a.name
 have hto : (toN l a).Small := by unfold toN; split; exact hls; exact hst
 have htoe : (toN l a).entries.length ≤ 99999990 := by
  unfold toN
  split
  ·have h1 := List.length_filter_le (fun e : Entry => !(e.name == a.name)) (getN l a.dir).entries
   have h2 := hent a.dir
   have h3 : (leaveN (getN l a.dir) a.name).entries.length ≤ (getN l a.dir).entries.length := h1
   omega
  ·exact hent a.to
 have hroom := room_ok (toN l a) a.toName hto hf.toName
 have hent2 := enter_ok (toN l a) a.toName a.fid hto
 have hens := enterN_small hto a.toName a.fid (by omega)
 have hp1 := put_in l a v (leaveN (getN l a.dir) a.name) hl hls
 have hl1 : Small (if a.to = a.dir then l else putN l { leaveN (getN l a.dir) a.name with version := v }) := by
  split
  ·exact hl
  ·exact putN_small hl ⟨hls.data, hls.entries⟩ (by omega)
 have hp2 := put_in (if a.to = a.dir then l else putN l { leaveN (getN l a.dir) a.name with version := v }) a v (enterN (toN l a) a.toName a.fid) hl1 hens
 have hT : toN l a = if a.to = a.dir then leaveN (getN l a.dir) a.name else getN l a.to := rfl
 unfold dH
 refine ZF tK (Tryz.func56) rfl (fun C => ?_)
 simp only [Tryz.ntmps56, Tryz.results56, go_sem]
 refine wG tK ?_
 refine wP [15] Tryz.func92 (hf := (named_ok l a v hl hf.name)) (hk := ?_)
 generalize putN (if a.to = a.dir then l else putN l { leaveN (getN l a.dir) a.name with version := v }) { enterN (toN l a) a.toName a.fid with version := v } = l2 at hp2
 generalize enterN (toN l a) a.toName a.fid = en at hent2 hp2
 generalize toN l a = T at *
 generalize leaveN (getN l a.dir) a.name = lv at *
 generalize getN l a.dir = n at *
 generalize hge : namedE l a = e
 refine wGq tK ?_ ?_ (by simp only [go_sem, ZN]; try exact rfl)
 ·simp [ZN]
 refine wD (fun h => ?_) (fun h => ?_)
 ·have he : e ≠ 0 := by simpa using h
  refine wG tK ?_
  refine wU ?_ (hold2 ?_ ?_)
  ·simp [he]
  ·simp [go_sem, ZD, he]
  ·simp [go_sem]
 have he : e = 0 := by simpa using h
 subst he
 simp only [if_true]
 refine wGq tK ?_ ?_ (by simp only [go_sem, ZD]; try exact rfl)
 ·simp [ZD]
 refine wP [15] Tryz.func88 (hf := (dir_ok l a v a.to hl)) (hk := ?_)
 generalize getN l a.to = m at *
 generalize hgd : dirE l a.to = e
 refine wGq tK ?_ ?_ (by simp only [go_sem, ZN]; try exact rfl)
 ·simp [ZN]
 refine wD (fun h => ?_) (fun h => ?_)
 ·have he : e ≠ 0 := by simpa using h
  refine wG tK ?_
  refine wU ?_ (hold2 ?_ ?_)
  ·simp [he]
  ·simp [go_sem, ZD, he]
  ·simp [go_sem]
 have he : e = 0 := by simpa using h
 subst he
 simp only [if_true]
 refine wG tK ?_
 refine ZW ZM ?_
 refine ZS rfl ?_
 refine sNq tK 11 ?_ ?_ (by simp only [go_sem]; exact rfl) (by simp only [go_sem]; exact rfl) (by simp only [go_sem, ZD]; try exact rfl)
 ·simp [ZD]
 refine sE ?_
 refine wKd ?_
 try simp only [go_sem, gA, gB, gC]
 refine wD (fun h => ?_) (fun h => ?_)
 ·have htd : a.to = a.dir := by simpa using h
  simp only [htd, if_true] at hT hp2
  subst hT
  refine wG tK ?_
  refine ZW ZM ?_
  refine ZS rfl ?_
  refine sNq tK 6 ?_ ?_ (by simp only [go_sem]; exact rfl) (by simp only [go_sem]; exact rfl) (by simp only [go_sem, ZD, ZN]; try exact rfl)
  ·simp [ZD, ZN]
  refine sC Tryz.func93 (hf := (hlv)) (hk := ?_)
  refine sE ?_
  refine dSq tK ?_ ?_
  ·simp [go_sem, ZN]
  refine wKd ?_
  try simp only [go_sem, gA, gB, gC]
  refine wG tK ?_
  refine ZW ZM ?_
  refine ZS rfl ?_
  refine sNq tK 6 ?_ ?_ (by simp only [go_sem]; exact rfl) (by simp only [go_sem]; exact rfl) (by simp only [go_sem, ZD, ZN]; try exact rfl)
  ·simp [ZD, ZN]
  refine sC Tryz.func89 (hf := (hroom)) (hk := ?_)
  refine sE ?_
  refine dS tK ?_
  refine wKd ?_
  try simp only [go_sem, gA, gB, gC]
  generalize hgr : roomE T a.toName = e
  refine wG tK ?_
  refine wD (fun h => ?_) (fun h => ?_)
  ·have he : e ≠ 0 := by simpa using h
   refine wG tK ?_
   refine wU ?_ (hold2 ?_ ?_)
   ·simp [he]
   ·simp [go_sem, ZD, he]
   ·simp [go_sem]
  have he : e = 0 := by simpa using h
  subst he
  simp only [if_true]
  refine wG tK ?_
  refine ZW ZM ?_
  refine ZS rfl ?_
  refine sNq tK 9 ?_ ?_ (by simp only [go_sem]; exact rfl) (by simp only [go_sem]; exact rfl) (by simp only [go_sem, ZD]; try exact rfl)
  ·simp [ZD]
  refine sC Tryz.func47 (hf := (find_ok l a.fid hl)) (hk := ?_)
  simp only [go_sem, findR]
  generalize hgx : (findN l a.fid).getD zeroN = x
  generalize hga : isAt l a.fid = ia
  refine sG tK ?_
  refine sW tK ?_
  simp only [go_sem, ZN]
  refine sT tK ?_
  refine sE ?_
  refine dS tK ?_
  refine wKd ?_
  try simp only [go_sem, gA, gB, gC]
  refine wG tK ?_
  refine wD (fun h => ?_) (fun h => ?_)
  ·have h0 : ia = false := by simpa using h
   subst h0
   refine wG tK ?_
   refine wU ?_ (hold2 ?_ ?_)
   ·simp
   ·simp [go_sem, ZD]
   ·simp [go_sem]
  have h0 : ia = true := by simpa using h
  subst h0
  simp only [if_true]
  refine wG tK ?_
  refine ZW ZM ?_
  refine ZS rfl ?_
  refine sNq tK 14 ?_ ?_ (by simp only [go_sem]; exact rfl) (by simp only [go_sem]; exact rfl) (by simp only [go_sem, ZD]; try exact rfl)
  ·simp [ZD]
  refine sC Tryz.func95 (hf := (hwi)) (hk := ?_)
  refine sE ?_
  refine wKd ?_
  try simp only [go_sem, gA, gB, gC]
  refine wD (fun h => ?_) (fun h => ?_)
  ·have h0 : wb = true := by simpa using h
   subst h0
   refine wG tK ?_
   refine wU ?_ (hold2 ?_ ?_)
   ·simp
   ·simp [go_sem, ZD]
   ·simp [go_sem]
  have h0 : wb = false := by simpa using h
  subst h0
  simp only [Bool.false_eq_true, if_false, if_true]
  refine wG tK ?_
  refine ZW ZM ?_
  refine ZS rfl ?_
  refine sNq tK 11 ?_ ?_ (by simp only [go_sem]; exact rfl) (by simp only [go_sem]; exact rfl) (by simp only [go_sem, ZD]; try exact rfl)
  ·simp [ZD]
  refine sE ?_
  refine wKd ?_
  try simp only [go_sem, gA, gB, gC]
  refine wDF (hb := (by simp [htd])) (hk := ?_)
  refine wG tK ?_
  refine ZW ZM ?_
  refine ZS rfl ?_
  refine sNq tK 12 ?_ ?_ (by simp only [go_sem]; exact rfl) (by simp only [go_sem]; exact rfl) (by simp only [go_sem, ZD, ZN]; try exact rfl)
  ·simp [ZD, ZN]
  refine sC Tryz.func91 (hf := (hent2)) (hk := ?_)
  refine sE ?_
  refine draw_trip rfl (by kernel_rfl) rfl (wTP [15] Tryz.func90 (hf := (hp2))) rfl ?_
  refine wKd ?_
  try simp only [go_sem, gA, gB, gC]
  refine wG tK ?_
  refine wU ?_ (hold2 ?_ ?_)
  ·simp
  ·simp [go_sem, ZD]
  ·simp [go_sem]
 ·have htd : ¬ a.to = a.dir := by simpa using h
  simp only [htd, if_false] at hT hp2
  subst hT
  generalize putN l { lv with version := v } = l1 at *
  refine wG tK ?_
  refine ZW ZM ?_
  refine ZS rfl ?_
  refine sNq tK 6 ?_ ?_ (by simp only [go_sem]; exact rfl) (by simp only [go_sem]; exact rfl) (by simp only [go_sem, ZD, ZN]; try exact rfl)
  ·simp [ZD, ZN]
  refine sC Tryz.func89 (hf := (hroom)) (hk := ?_)
  refine sE ?_
  refine dS tK ?_
  refine wKd ?_
  try simp only [go_sem, gA, gB, gC]
  generalize hgr : roomE T a.toName = e
  refine wG tK ?_
  refine wD (fun h => ?_) (fun h => ?_)
  ·have he : e ≠ 0 := by simpa using h
   refine wG tK ?_
   refine wU ?_ (hold2 ?_ ?_)
   ·simp [he]
   ·simp [go_sem, ZD, he]
   ·simp [go_sem]
  have he : e = 0 := by simpa using h
  subst he
  simp only [if_true]
  refine wG tK ?_
  refine ZW ZM ?_
  refine ZS rfl ?_
  refine sNq tK 9 ?_ ?_ (by simp only [go_sem]; exact rfl) (by simp only [go_sem]; exact rfl) (by simp only [go_sem, ZD]; try exact rfl)
  ·simp [ZD]
  refine sC Tryz.func47 (hf := (find_ok l a.fid hl)) (hk := ?_)
  simp only [go_sem, findR]
  generalize hgx : (findN l a.fid).getD zeroN = x
  generalize hga : isAt l a.fid = ia
  refine sG tK ?_
  refine sW tK ?_
  simp only [go_sem, ZN]
  refine sT tK ?_
  refine sE ?_
  refine dS tK ?_
  refine wKd ?_
  try simp only [go_sem, gA, gB, gC]
  refine wG tK ?_
  refine wD (fun h => ?_) (fun h => ?_)
  ·have h0 : ia = false := by simpa using h
   subst h0
   refine wG tK ?_
   refine wU ?_ (hold2 ?_ ?_)
   ·simp
   ·simp [go_sem, ZD]
   ·simp [go_sem]
  have h0 : ia = true := by simpa using h
  subst h0
  simp only [if_true]
  refine wG tK ?_
  refine ZW ZM ?_
  refine ZS rfl ?_
  refine sNq tK 14 ?_ ?_ (by simp only [go_sem]; exact rfl) (by simp only [go_sem]; exact rfl) (by simp only [go_sem, ZD]; try exact rfl)
  ·simp [ZD]
  refine sC Tryz.func95 (hf := (hwi)) (hk := ?_)
  refine sE ?_
  refine wKd ?_
  try simp only [go_sem, gA, gB, gC]
  refine wD (fun h => ?_) (fun h => ?_)
  ·have h0 : wb = true := by simpa using h
   subst h0
   refine wG tK ?_
   refine wU ?_ (hold2 ?_ ?_)
   ·simp
   ·simp [go_sem, ZD]
   ·simp [go_sem]
  have h0 : wb = false := by simpa using h
  subst h0
  simp only [Bool.false_eq_true, if_false, if_true]
  refine wG tK ?_
  refine ZW ZM ?_
  refine ZS rfl ?_
  refine sNq tK 11 ?_ ?_ (by simp only [go_sem]; exact rfl) (by simp only [go_sem]; exact rfl) (by simp only [go_sem, ZD]; try exact rfl)
  ·simp [ZD]
  refine sE ?_
  refine wKd ?_
  try simp only [go_sem, gA, gB, gC]
  refine wDT (hb := (by simp [htd])) (hk := ?_)
  refine wG tK ?_
  refine ZW ZM ?_
  refine ZS rfl ?_
  refine sNq tK 7 ?_ ?_ (by simp only [go_sem]; exact rfl) (by simp only [go_sem]; exact rfl) (by simp only [go_sem, ZD, ZN]; try exact rfl)
  ·simp [ZD, ZN]
  refine sC Tryz.func93 (hf := (hlv)) (hk := ?_)
  refine sE ?_
  refine draw_trip rfl (by kernel_rfl) rfl (wTP [15] Tryz.func90 (hf := (hp1))) rfl ?_
  refine wKd ?_
  try simp only [go_sem, gA, gB, gC]
  refine wG tK ?_
  refine ZW ZM ?_
  refine ZS rfl ?_
  refine sNq tK 12 ?_ ?_ (by simp only [go_sem]; exact rfl) (by simp only [go_sem]; exact rfl) (by simp only [go_sem, ZD, ZN]; try exact rfl)
  ·simp [ZD, ZN]
  refine sC Tryz.func91 (hf := (hent2)) (hk := ?_)
  refine sE ?_
  refine draw_trip rfl (by kernel_rfl) rfl (wTP [15] Tryz.func90 (hf := (hp2))) rfl ?_
  refine wKd ?_
  try simp only [go_sem, gA, gB, gC]
  refine wG tK ?_
  refine wU ?_ (hold2 ?_ ?_)
  ·simp
  ·simp [go_sem, ZD]
  ·simp [go_sem]
end La
namespace La
open Go
theorem findN_put {l : List Node} (h : Up l) (n : Node) (k : Int) : findN (putN l n) k = if k = n.fid then some n else findN l k := by
 by_cases e : k = n.fid
 ·subst e; rw [if_pos rfl]; exact puts_found h n
 ·rw [if_neg e]; exact (puts_other h n e).symm
theorem findN_drop {l : List Node} (h : Up l) (f k : Int) : findN (dropN l f) k = if k = f then none else findN l k := by
 obtain ⟨h1, h2⟩ := dropN_up h f
 by_cases e : k = f
 ·subst e
  rw [if_pos rfl]
  exact (findN_none h1).2 fun x hx => ((h2 x).1 hx).2
 ·rw [if_neg e]
  cases e1 : findN l k with
  | none =>
   rw [findN_none h1]
   exact fun x hx => (findN_none h).1 e1 x ((h2 x).1 hx).1
  | some x =>
   obtain ⟨k1, k2⟩ := (ZO h).1 e1
   exact (ZO h1).2 ⟨(h2 x).2 ⟨k1, by rw [k2]; exact e⟩, k2⟩
end La
namespace La
open Go Go.Eng
def Falls (r : Int → Nat) (l : List Node) : Prop := ∀ n, n ∈ l → ∀ e, e ∈ n.entries → r e.fid < r n.fid
inductive Reach (l : List Node) : Int → Int → Prop
 | refl (k : Int) : Reach l k k
 | head (n : Node) (e : Entry) (t : Int) (hn : n ∈ l) (he : e ∈ n.entries) (h : Reach l e.fid t) : Reach l n.fid t
theorem Reach.tail {l : List Node} {k : Int} {n : Node} (hn : n ∈ l) {e : Entry} (he : e ∈ n.entries) (h : Reach l k n.fid) : Reach l k e.fid := by
 generalize ht : n.fid = t at h
 induction h with
 | refl k => subst ht; exact .head n e _ hn he (.refl _)
 | head m d t hm hd h ih => exact .head m d _ hm hd (ih ht)
theorem within_ends {l : List Node} (hu : Up l) {r : Int → Nat} (hr : Falls r l) (t : Int) : ∀ (f : Nat) (k : Int), r k < f → ∃ b, withinF l t f k = some b
 | 0, k, h => by omega
 | f + 1, k, h => by
  rw [withinF]
  split
  ·exact ⟨_, rfl⟩
  ·cases e : findN l k with
   | none => exact ⟨_, rfl⟩
   | some n =>
    obtain ⟨hn, hk⟩ := (ZO hu).1 e
    simp only
    rw [if_pos (List.all_eq_true.2 fun x hx => by
     have h1 := hr n hn x hx
     obtain ⟨b, hb⟩ := within_ends hu hr t f x.fid (by rw [hk] at h1; omega)
     rw [hb, Option.isSome_some, Bool.or_true])]
    exact ⟨_, rfl⟩
theorem within_reach {l : List Node} (hu : Up l) {r : Int → Nat} (hr : Falls r l) {k t : Int} (h : Reach l k t) : ∀ (f : Nat) (b : Bool), withinF l t f k = some b → b = true := by
 induction h with
 | refl k =>
  intro f b hb
  cases f with
  | zero => cases hb
  | succ f => rw [withinF, if_pos rfl] at hb; injection hb with hb; exact hb.symm
 | head n e t hn he h ih =>
  intro f b hb
  cases f with
  | zero => cases hb
  | succ f =>
   rw [withinF] at hb
   split at hb
   ·injection hb with hb; exact hb.symm
   ·rw [(ZO hu).2 ⟨hn, rfl⟩] at hb
    simp only at hb
    split at hb
    ·rename_i hall
     injection hb with hb
     rw [← hb, List.any_eq_true]
     have hne : decide (e.fid = n.fid) = false := decide_eq_false fun h0 => by have := hr n hn e he; rw [h0] at this; omega
     have h1 := List.all_eq_true.1 hall e he
     rw [hne, Bool.false_or] at h1
     refine ⟨e, he, ?_⟩
     cases h2 : withinF l t f e.fid with
     | none => rw [h2] at h1; cases h1
     | some c => rw [hne, ih f c h2]; rfl
    ·cases hb
theorem enterE_mem {l : List Entry} {s : List UInt8} {f : Int} {x : Entry} (h : x ∈ enterE l s f) : x = ⟨s, f⟩ ∨ x ∈ l := by
 unfold enterE at h
 split at h
 ·rcases List.mem_or_eq_of_mem_set h with h | h
  ·exact .inr h
  ·exact .inl h
 ·rcases List.mem_append.1 h with h | h
  ·exact .inr (List.mem_of_mem_take h)
  ·rcases List.mem_cons.1 h with h | h
   ·exact .inl h
   ·exact .inr (List.mem_of_mem_drop h)
theorem leaveE_mem {l : List Entry} {s : List UInt8} {x : Entry} (h : x ∈ leaveE l s) : x ∈ l := (List.mem_filter.1 h).1
theorem pmem {l : List Node} {n x : Node} (h : x ∈ putN l n) : x = n ∨ x ∈ l := by
 unfold putN at h
 split at h
 ·rcases List.mem_or_eq_of_mem_set h with h | h
  ·exact .inr h
  ·exact .inl h
 ·rcases List.mem_append.1 h with h | h
  ·exact .inr (List.mem_of_mem_take h)
  ·rcases List.mem_cons.1 h with h | h
   ·exact .inl h
   ·exact .inr (List.mem_of_mem_drop h)
structure Good (l : List Node) : Prop where
 up : Up l
 falls : ∃ r, Falls r l
 len : l.length ≤ 24
 data : ∀ n, n ∈ l → n.data.length ≤ 20
 ent : ∀ n, n ∈ l → n.entries.length ≤ 6
theorem Good.ends {l : List Node} (h : Good l) (t k : Int) : ∃ f, withinF l t f k = some (withinB l t k) := by
 obtain ⟨r, hr⟩ := h.falls
 obtain ⟨b, hb⟩ := within_ends h.up hr t (r k + 1) k (by omega)
 exact ⟨_, by rw [withinB_of hb]; exact hb⟩
theorem dirE_zero {l : List Node} {k : Int} (h : dirE l k = 0) : ∃ n, findN l k = some n ∧ getN l k = n ∧ n.dir = true := by
 unfold dirE at h
 unfold getN
 cases e : findN l k with
 | none => rw [e] at h; cases h
 | some n =>
  rw [e] at h
  simp only at h
  cases hd : n.dir with
  | false => rw [hd] at h; cases h
  | true => exact ⟨n, rfl, rfl, hd⟩
theorem putN_at {l : List Node} {n : Node} (h : isAt l n.fid = true) : (putN l n).length = l.length := by
 unfold putN; rw [if_pos h, List.length_set]
theorem isAt_of {l : List Node} {k : Int} {n : Node} (h : findN l k = some n) : isAt l k = true := by rw [isAt_eq, h]; rfl
theorem enterE_len (l : List Entry) (s : List UInt8) (f : Int) : (enterE l s f).length ≤ l.length + 1 := by
 unfold enterE
 split
 ·simp
 ·have := eplace_le l s
  simp; omega
theorem leaveE_len (l : List Entry) (s : List UInt8) : (leaveE l s).length ≤ l.length := List.length_filter_le _ _
theorem roomE_zero {n : Node} {s : List UInt8} (h : roomE n s = 0) : n.entries.length ≤ 5 := by
 unfold roomE at h
 split at h
 ·split at h
  ·cases h
  ·split at h
   ·cases h
   ·omega
 ·cases h
end La
