/- Texts of this claim, part 18: RTree, PApply, PReach, PNm, PWor. No condition. -/
import Derived.Test.YtfiiingppbkpkaaGreatXF15
import Derived.Test.YtfiiingppbkpkaaGreatXF11
import Derived.Test.YtfiiingppbkpkaaGreatXF17
import Derived.Test.YtfiiingppbkpkaaGreatXF14
set_option maxRecDepth 10000
set_option maxHeartbeats 4000000
set_option linter.unusedSimpArgs false
set_option linter.unusedVariables false
namespace La
open Go Go.Eng Go.Proofs
theorem rise_ext {α : Type} : ∀ {a b : List (Int × α)}, RiseM a → RiseM b → (∀ p, p ∈ a ↔ p ∈ b) → a = b
 | [], [], _, _, _ => rfl
 | [], q :: b, _, _, h => absurd ((h q).2 List.mem_cons_self) (by simp)
 | p :: a, [], _, _, h => absurd ((h p).1 List.mem_cons_self) (by simp)
 | p :: a, q :: b, ha, hb, h => by
  have ha' := List.pairwise_cons.1 ha
  have hb' := List.pairwise_cons.1 hb
  have hpq : p = q := by
   rcases List.mem_cons.1 ((h p).1 List.mem_cons_self) with e | e
   ·exact e
   ·rcases List.mem_cons.1 ((h q).2 List.mem_cons_self) with e2 | e2
    ·exact e2.symm
    ·have h1 := hb'.1 p e
     have h2 := ha'.1 q e2
     omega
  subst hpq
  refine congrArg _ (rise_ext ha'.2 hb'.2 fun r => ?_)
  constructor
  ·intro hr
   rcases List.mem_cons.1 ((h r).1 (List.mem_cons_of_mem _ hr)) with e | e
   ·subst e; exact absurd (ha'.1 _ hr) (by omega)
   ·exact e
  ·intro hr
   rcases List.mem_cons.1 ((h r).2 (List.mem_cons_of_mem _ hr)) with e | e
   ·subst e; exact absurd (hb'.1 _ hr) (by omega)
   ·exact e
def seenM {α : Type} (m : List (Int × α)) (seen : List Int) : List (Int × α) := m.filter fun p => seen.contains p.1
theorem seenM_put {α : Type} {m : List (Int × α)} (h : RiseM m) {n : Int} {v : α} (hm : (n, v) ∈ m) {seen : List Int} : mput (seenM m seen) n v = seenM m (n :: seen) := by
 have hr : RiseM (seenM m seen) := h.filter _
 refine rise_ext (mput_rise hr) (h.filter _) fun p => ?_
 obtain ⟨k, x⟩ := p
 rw [mem_mput hr]
 unfold seenM
 simp only [List.mem_filter, List.contains_cons, Bool.or_eq_true, beq_iff_eq]
 constructor
 ·rintro (⟨rfl, rfl⟩ | ⟨h1, h2, h3⟩)
  ·exact ⟨hm, .inl rfl⟩
  ·exact ⟨h2, .inr h3⟩
 ·rintro ⟨h1, h2⟩
  by_cases e : k = n
  ·subst e
   have a1 := mget_of_mem h h1
   have a2 := mget_of_mem h hm
   rw [a1] at a2; injection a2 with a2
   exact .inl ⟨rfl, a2⟩
  ·rcases h2 with h2 | h2
   ·exact absurd h2 e
   ·exact .inr ⟨e, h1, h2⟩
theorem seenM_all {α : Type} {m : List (Int × α)} {seen : List Int} (h : ∀ p, p ∈ m → p.1 ∈ seen) : seenM m seen = m := by
 unfold seenM
 exact List.filter_eq_self.2 fun p hp => by simpa using h p hp
def leftM {α : Type} : List (Int × α) → List Int → Nat
 | [], _ => 0
 | p :: r, seen => (if p.1 ∈ seen then 0 else 1) + leftM r seen
theorem leftM_le {α : Type} (n : Int) (seen : List Int) : ∀ m : List (Int × α), leftM m (n :: seen) ≤ leftM m seen
 | [] => Nat.le_refl _
 | p :: r => by
  have ih := leftM_le n seen r
  unfold leftM
  by_cases h : p.1 ∈ seen
  ·rw [if_pos h, if_pos (List.mem_cons_of_mem _ h)]; omega
  ·rw [if_neg h]; split <;> omega
theorem leftM_lt {α : Type} {n : Int} {v : α} {seen : List Int} : ∀ {m : List (Int × α)}, (n, v) ∈ m → n ∉ seen → leftM m (n :: seen) < leftM m seen
 | [], h, _ => by cases h
 | p :: r, h, hs => by
  have hle := leftM_le n seen r
  unfold leftM
  rcases List.mem_cons.1 h with rfl | h
  ·rw [if_pos List.mem_cons_self, if_neg hs]; omega
  ·have ih := leftM_lt h hs
   by_cases h2 : p.1 ∈ seen
   ·rw [if_pos h2, if_pos (List.mem_cons_of_mem _ h2)]; omega
   ·rw [if_neg h2]; split <;> omega
theorem seenM_nil {α : Type} (m : List (Int × α)) : seenM m [] = [] := by unfold seenM; simp
theorem mN_mem {m : List (Int × Node)} {n : Int} {v : AV} (h : (n, v) ∈ mN m) : ∃ nd, v = .agg (ZN nd) ∧ (n, nd) ∈ m := by
 obtain ⟨p, hp, e⟩ := List.mem_map.1 h
 injection e with e1 e2
 exact ⟨p.2, e2.symm, by rw [← e1]; exact hp⟩
theorem mN_has {m : List (Int × Node)} {n : Int} {nd : Node} (h : (n, nd) ∈ m) : (n, AV.agg (ZN nd)) ∈ mN m := List.mem_map.2 ⟨_, h, rfl⟩
theorem mN_len (m : List (Int × Node)) : (mN m).length = m.length := by simp [mN]
theorem mN_nil : ([] : List (Int × AV)) = mN [] := rfl
theorem with_ok (m : List (Int × Node)) (n : Node) (hr : RiseM m) : FnOK Tryz.prog 61 [.rm (mN m), .agg (ZN n)] [] (fun r _ => r = .rm (mN (mput m n.fid n))) := by
 unfold ZN
 refine ZF tK (Tryz.func61) rfl (fun C => ?_)
 simp only [Tryz.ntmps61, Tryz.results61, go_sem]
 refine wG tK ?_
 refine cw_range tK rfl rfl rfl (by simp only [go_sem]; try exact rfl) (by simp only [go_sem]; try exact rfl) (by simp only [go_sem]; try exact rfl) ?_
 refine wG tK ?_
 refine ZL (fun _ : List Int => True) (fun seen => leftM m seen) (fun _ => [(6, .any), (7, .any), (11, .any), (12, .any), (13, .any), (14, .any), (15, .any), (16, .any), (17, .any), (18, .any)]) (fun seen => [(8, .map (mN (seenM m seen))), (10, .iter (mN m) seen)]) [] trivial ?_ fun seen _ => ?_
 ·simp only [go_sem]
  exact ZU (by simp [go_sem]) (by simp [go_sem, seenM_nil, mN_nil]) (by simp [go_sem])
 simp only [go_sem]
 refine wR ?_
 refine cw_next rfl rfl (by simp only [go_sem]; try exact rfl) (by simp only [go_sem]; try exact rfl) (fun hall => ?_) (fun n v hnv hns => ?_)
 ·have hsa : seenM m seen = m := seenM_all fun p hp => hall (p.1, .agg (ZN p.2)) (mN_has hp)
  rw [hsa]
  simp only [go_sem]
  refine wG tK ?_
  refine wDF (hb := (rfl)) (hk := ?_)
  refine wGq tK ?_ ?_
  ·simp [AV.deepB, AV.pureB]
  rw [show AV.agg [.int .i64 n.fid, .bool n.dir, .sl (n.data.map ZY), .sl (n.entries.map ZE), .int .i64 n.version] = .agg (ZN n) from rfl, mN_put]
  refine cw_freezeM 8 rfl ?_
  simp only [go_sem]
  refine wT ?_
  rfl
 ·obtain ⟨nd, rfl, hmem⟩ := mN_mem hnv
  have hpt := seenM_put hr hmem (seen := seen)
  have hlt := leftM_lt hmem hns
  simp only [go_sem]
  refine wG tK ?_
  refine wDT (hb := (rfl)) (hk := ?_)
  refine wR ?_
  refine cw_entry rfl rfl (by simp only [go_sem]; try exact rfl) (by simp only [go_sem]; try exact rfl) (hnv) ?_
  simp only [go_sem]
  refine wGq tK ?_ ?_ (by simp only [go_sem, ZN]; try exact rfl)
  ·simp [ZN, AV.deepB, AV.pureB]
  refine ZB ⟨n :: seen, hlt, ZU ?_ ?_ ?_⟩
  ·simp [go_sem]
  ·simp [go_sem, ← hpt, ← mN_put, ZN]
  ·simp [go_sem]
theorem mdel_seen {α : Type} {m : List (Int × α)} (h : RiseM m) {n : Int} {v : α} (hm : (n, v) ∈ m) (seen : List Int) (fid : Int) :
  (n ≠ fid → mput (mdel (seenM m seen) fid) n v = mdel (seenM m (n :: seen)) fid) ∧ (n = fid → mdel (seenM m seen) fid = mdel (seenM m (n :: seen)) fid) := by
 have hr : RiseM (seenM m seen) := h.filter _
 refine ⟨fun hne => ?_, fun he => ?_⟩
 ·rw [← seenM_put h hm]
  refine rise_ext (mput_rise (mdel_rise hr)) (mdel_rise (mput_rise hr)) fun p => ?_
  obtain ⟨k, x⟩ := p
  rw [mem_mput (mdel_rise hr)]
  unfold mdel
  rw [List.mem_filter, List.mem_filter, mem_mput hr]
  simp only [Bool.not_eq_true', beq_eq_false_iff_ne]
  constructor
  ·rintro (⟨rfl, rfl⟩ | ⟨h1, h2, h3⟩)
   ·exact ⟨.inl ⟨rfl, rfl⟩, hne⟩
   ·exact ⟨.inr ⟨h1, h2⟩, h3⟩
  ·rintro ⟨⟨rfl, rfl⟩ | ⟨h1, h2⟩, h3⟩
   ·exact .inl ⟨rfl, rfl⟩
   ·exact .inr ⟨h1, h2, h3⟩
 ·subst he
  unfold mdel seenM
  rw [List.filter_filter, List.filter_filter]
  refine List.filter_congr fun p _ => ?_
  simp only [List.contains_cons]
  cases h1 : (p.1 == n) <;> simp
theorem mdel_nil {α : Type} (fid : Int) : mdel ([] : List (Int × α)) fid = [] := rfl
theorem without_ok (m : List (Int × Node)) (fid : Int) (hr : RiseM m) : FnOK Tryz.prog 65 [.rm (mN m), .int .i64 fid] [] (fun r _ => r = .rm (mN (mdel m fid))) := by
 refine ZF tK (Tryz.func65) rfl (fun C => ?_)
 simp only [Tryz.ntmps65, Tryz.results65, go_sem]
 refine wG tK ?_
 refine cw_range tK rfl rfl rfl (by simp only [go_sem]; try exact rfl) (by simp only [go_sem]; try exact rfl) (by simp only [go_sem]; try exact rfl) ?_
 refine wG tK ?_
 refine ZL (fun _ : List Int => True) (fun seen => leftM m seen) (fun _ => [(6, .any), (7, .any), (11, .any), (12, .any), (13, .any), (14, .any), (15, .any), (16, .any), (17, .any), (18, .any), (19, .any), (20, .any), (21, .any)]) (fun seen => [(8, .map (mN (mdel (seenM m seen) fid))), (10, .iter (mN m) seen)]) [] trivial ?_ fun seen _ => ?_
 ·simp only [go_sem]
  exact ZU (by simp [go_sem]) (by simp [go_sem, seenM_nil, mdel_nil, mN_nil]) (by simp [go_sem])
 simp only [go_sem]
 refine wR ?_
 refine cw_next rfl rfl (by simp only [go_sem]; try exact rfl) (by simp only [go_sem]; try exact rfl) (fun hall => ?_) (fun n v hnv hns => ?_)
 ·have hsa : seenM m seen = m := seenM_all fun p hp => hall (p.1, .agg (ZN p.2)) (mN_has hp)
  rw [hsa]
  simp only [go_sem]
  refine wG tK ?_
  refine wDF (hb := (rfl)) (hk := ?_)
  refine wG tK ?_
  refine cw_freezeM 8 rfl ?_
  simp only [go_sem]
  refine wT ?_
  rfl
 ·obtain ⟨nd, rfl, hmem⟩ := mN_mem hnv
  obtain ⟨hp1, hp2⟩ := mdel_seen hr hmem seen fid
  have hlt := leftM_lt hmem hns
  simp only [go_sem]
  refine wG tK ?_
  refine wDT (hb := (rfl)) (hk := ?_)
  refine wR ?_
  refine cw_entry rfl rfl (by simp only [go_sem]; try exact rfl) (by simp only [go_sem]; try exact rfl) (hnv) ?_
  simp only [go_sem]
  refine wGq tK ?_ ?_ (by simp only [go_sem, ZN]; try exact rfl)
  ·simp [ZN]
  by_cases hf : n = fid
  ·have hp2 := hp2 hf
   refine wDF (hb := (by simp [hf])) (hk := ?_)
   refine wG tK ?_
   refine ZB ⟨n :: seen, hlt, ZU ?_ ?_ ?_⟩
   ·simp [go_sem]
   ·simp [go_sem, ← hp2]
   ·simp [go_sem]
  ·have hp1 := hp1 hf
   refine wDT (hb := (by simpa using hf)) (hk := ?_)
   refine wGq tK ?_ ?_ (by simp only [go_sem, ZN]; try exact rfl)
   ·simp [ZN, AV.deepB, AV.pureB]
   refine ZB ⟨n :: seen, hlt, ZU ?_ ?_ ?_⟩
   ·simp [go_sem]
   ·simp [go_sem, ← hp1, ← mN_put, ZN]
   ·simp [go_sem]
def rEntryE (l : List Entry) (s : List UInt8) : Option Entry := l.find? fun e => e.name == s
def rEntryR (l : List Entry) (s : List UInt8) : AV := match rEntryE l s with
 | some e => .tup [.int .i64 e.fid, .bool true]
 | none => .tup [.int .i64 0, .bool false]
theorem find_none_take {l : List Entry} {s : List UInt8} (h : ∀ e, e ∈ l → (e.name == s) = false) : rEntryE l s = none := List.find?_eq_none.2 fun e he => by rw [h e he]; simp
theorem find_some_at {l : List Entry} {s : List UInt8} {i : Nat} (hi : i < l.length) (h : ∀ e, e ∈ l.take i → (e.name == s) = false) (hs : ((l.getD i default).name == s) = true) : rEntryE l s = some (l.getD i default) := by
 unfold rEntryE
 have e : l = l.take i ++ (l.getD i default :: l.drop (i + 1)) := by rw [← drop_getD hi, List.take_append_drop]
 conv => lhs; rw [e]
 rw [List.find?_append, List.find?_eq_none.2 (fun e he => by rw [h e he]; simp), Option.none_or, List.find?_cons, hs]
theorem rentry_ok (n : Node) (s : List UInt8) (hn : n.entries.length ≤ 100000000) : FnOK Tryz.prog 63 [.agg (ZN n), .str s] [] (fun r _ => r = rEntryR n.entries s) := by
 unfold rEntryR ZN
 refine ZF tK (Tryz.func63) rfl (fun C => ?_)
 simp only [Tryz.ntmps63, Tryz.results63, go_sem]
 refine wG tK ?_
 refine ZL (fun i : Nat => i ≤ n.entries.length ∧ ∀ e, e ∈ n.entries.take i → (e.name == s) = false) (fun i => n.entries.length - i) (fun i => [(7, .any), (11, .int .i64 i), (12, .any), (13, .any), (14, .any), (15, .any), (16, .any), (17, .any), (18, .any), (19, .any), (20, .any), (21, .any)]) (fun _ => []) 0 ⟨by omega, by simp⟩ ?_ fun i hi => ?_
 ·simp only [go_sem]
  exact ZU (by simp [go_sem]) (by simp [go_sem]) (by simp [go_sem])
 obtain ⟨hi, hno⟩ := hi
 simp only [go_sem]
 refine wG tK ?_
 refine wD (fun h => ?_) (fun h => ?_)
 ·have hlt : i < n.entries.length := by simp at h; omega
  have hg : (n.entries.map ZE).getD i [] = ZE (n.entries.getD i default) := Fam.getD hlt
  have hw := wi1 (i := i) (by omega)
  have hfs := @find_some_at n.entries s i hlt hno
  have htk := ZT hlt
  generalize n.entries.getD i default = e at *
  refine wGq tK ?_ ?_ (by simp only [go_sem, hg, ZE]; try exact rfl)
  ·simp [hg, ZE, hlt]
  cases hb : (e.name == s) with
  | true =>
   rw [hfs hb]
   refine wDT (hb := (by simp)) (hk := ?_)
   refine wG tK ?_
   refine wT ?_
   rfl
  | false =>
   refine wDF (hb := (by simp)) (hk := ?_)
   refine wG tK ?_ (by simp only [go_sem, hw]; try exact rfl) (by simp [go_sem, hw])
   refine ZB ⟨i + 1, ⟨by omega, ?_⟩, by omega, ZU ?_ ?_ ?_⟩
   ·rw [htk]
    intro x hx
    rcases List.mem_append.1 hx with hx | hx
    ·exact hno x hx
    ·rw [List.mem_singleton.1 hx]; exact hb
   ·simp [go_sem]
   ·simp [go_sem]
   ·simp [go_sem]
 ·have e : i = n.entries.length := by simp at h; omega
  subst e
  rw [List.take_length] at hno
  rw [find_none_take hno]
  refine wG tK ?_
  refine wT ?_
  rfl
def rLeaveE (l : List Entry) (s : List UInt8) : List Entry := l.filter fun e => !(e.name == s)
def rLeaveN (n : Node) (s : List UInt8) : Node := { n with entries := rLeaveE n.entries s }
theorem rleave_ok (n : Node) (s : List UInt8) (hn : n.entries.length ≤ 100000000) : FnOK Tryz.prog 64 [.agg (ZN n), .str s] [] (fun r _ => r = .agg (ZN (rLeaveN n s))) := by
 have hz : rLeaveE (n.entries.take n.entries.length) s = rLeaveE n.entries s := by rw [List.take_length]
 unfold rLeaveN ZN
 simp only
 rw [← hz]
 refine ZF tK (Tryz.func64) rfl (fun C => ?_)
 simp only [Tryz.ntmps64, Tryz.results64, go_sem]
 refine wG tK ?_
 refine cw_le (le_empty 22 135 2 (by simp only [go_sem]; try exact rfl)) ?_
 simp only [go_sem]
 refine ZL (fun i : Nat => i ≤ n.entries.length) (fun i => n.entries.length - i) (fun i => [(5, .osl 22 2 0 (rLeaveE (n.entries.take i) s).length), (7, .any), (11, .int .i64 i), (12, .any), (13, .any), (14, .any), (15, .any), (16, .any), (17, .any), (18, .any), (19, .any), (20, .any), (21, .any), (22, .any), (23, .any)]) (fun i => [(22, .cells 135 2 ((rLeaveE (n.entries.take i) s).map ZE))]) 0 (by omega) ?_ fun i hi => ?_
 ·simp only [go_sem]
  exact ZU (by simp [go_sem, rLeaveE]) (by simp [go_sem, rLeaveE]) (by simp [go_sem])
 simp only [go_sem]
 refine wG tK ?_
 refine wD (fun h => ?_) (fun h => ?_)
 ·have hlt : i < n.entries.length := by simp at h; omega
  have hg : (n.entries.map ZE).getD i [] = ZE (n.entries.getD i default) := Fam.getD hlt
  have hw := wi1 (i := i) (by omega)
  have htk : rLeaveE (n.entries.take (i + 1)) s = if ((n.entries.getD i default).name == s) = true then rLeaveE (n.entries.take i) s else rLeaveE (n.entries.take i) s ++ [n.entries.getD i default] := by
   rw [ZT hlt]; unfold rLeaveE
   rw [List.filter_append, List.filter_cons]
   cases ((n.entries.getD i default).name == s) <;> simp
  have hll : (rLeaveE (n.entries.take i) s).length ≤ i := by
   have := List.length_filter_le (fun e : Entry => !(e.name == s)) (n.entries.take i)
   unfold rLeaveE
   simp only [List.length_take] at this
   omega
  generalize n.entries.getD i default = e at *
  refine wGq tK ?_ ?_ (by simp only [go_sem, hg, ZE]; try exact rfl)
  ·simp [hg, ZE, hlt]
  cases hb : (e.name == s) with
  | true =>
   rw [hb, if_pos rfl] at htk
   refine wDF (hb := (by simp)) (hk := ?_)
   refine wG tK ?_ (by simp only [go_sem, hw]; try exact rfl) (by simp [go_sem, hw])
   refine ZB ⟨i + 1, by omega, by omega, ZU ?_ ?_ ?_⟩
   ·simp [go_sem, htk]
   ·simp [go_sem, htk]
   ·simp [go_sem]
  | false =>
   rw [hb, if_neg Bool.false_ne_true] at htk
   refine wDT (hb := (by simp)) (hk := ?_)
   refine wGq tK ?_ ?_ (by simp only [go_sem, hw]; try exact rfl)
   ·simp [rowsOf]; omega
   refine ZB ⟨i + 1, by omega, by omega, ZU ?_ ?_ ?_⟩
   ·simp [go_sem, htk]
   ·simp [go_sem, htk, ZE]
   ·simp [go_sem]
 ·have e : i = n.entries.length := by simp at h; omega
  subst e
  refine wG tK ?_
  refine ZZ 22 rfl (entryRow_pure _) ?_
  simp only [go_sem]
  refine wT ?_
  simp
end La
namespace La
open Go Go.Eng
theorem get_ext {α : Type} {a b : List (Int × α)} (ha : RiseM a) (hb : RiseM b) (h : ∀ k, mget a k = mget b k) : a = b :=
 rise_ext ha hb fun p => by
  obtain ⟨k, x⟩ := p
  constructor
  ·intro hp; exact mget_mem (by rw [← h]; exact mget_of_mem ha hp)
  ·intro hp; exact mget_mem (by rw [h]; exact mget_of_mem hb hp)
theorem mget_mdel {α : Type} {m : List (Int × α)} (h : RiseM m) (f k : Int) : mget (mdel m f) k = if k = f then none else mget m k := by
 have hd : RiseM (mdel m f) := mdel_rise h
 have hm : ∀ x, (k, x) ∈ mdel m f ↔ (k, x) ∈ m ∧ k ≠ f := fun x => by
  unfold mdel; rw [List.mem_filter]; simp
 by_cases e : k = f
 ·rw [if_pos e]
  cases e1 : mget (mdel m f) k with
  | none => rfl
  | some x => exact absurd e ((hm x).1 (mget_mem e1)).2
 ·rw [if_neg e]
  cases e1 : mget m k with
  | none =>
   cases e2 : mget (mdel m f) k with
   | none => rfl
   | some x =>
    have := mget_of_mem h ((hm x).1 (mget_mem e2)).1
    rw [e1] at this; cases this
  | some x => exact mget_of_mem hd ((hm x).2 ⟨mget_mem e1, e⟩)
theorem mapD_put {l : List Node} (h : Up l) (n : Node) : mput (mapD l) n.fid n = mapD (putN l n) :=
 get_ext (mput_rise (mapD_rise l)) (mapD_rise _) fun k => by
  rw [mget_mput (mapD_rise l), mapD_get h, mapD_get (putN_up h n).1, findN_put h]
theorem mapD_del {l : List Node} (h : Up l) (f : Int) : mdel (mapD l) f = mapD (dropN l f) :=
 get_ext (mdel_rise (mapD_rise l)) (mapD_rise _) fun k => by
  rw [mget_mdel (mapD_rise l), mapD_get h, mapD_get (dropN_up h f).1, findN_drop h]
theorem mapD_eq {l : List Node} (h : Up l) : mapD l = l.map fun n => (n.fid, n) := by
 refine rise_ext (mapD_rise l) ?_ fun p => ?_
 ·exact List.pairwise_map.2 h
 ·obtain ⟨k, x⟩ := p
  rw [List.mem_map]
  constructor
  ·intro hp
   have := mget_of_mem (mapD_rise l) hp
   rw [mapD_get h] at this
   obtain ⟨h1, h2⟩ := (ZO h).1 this
   exact ⟨x, h1, by rw [h2]⟩
  ·rintro ⟨n, hn, e⟩
   injection e with e1 e2
   subst e1 e2
   exact mget_mem (by rw [mapD_get h]; exact (ZO h).2 ⟨hn, rfl⟩)
theorem mapD_len {l : List Node} (h : Up l) : (mapD l).length = l.length := by rw [mapD_eq h, List.length_map]
theorem rEntry_entryN {n : Node} (h : EUp n.entries) (s : List UInt8) : rEntryR n.entries s = match entryN n s with | some f => .tup [.int .i64 f, .bool true] | none => .tup [.int .i64 0, .bool false] := by
 unfold rEntryR
 cases e : rEntryE n.entries s with
 | none =>
  have : entryN n s = none := (entryN_none h).2 fun x hx hn => by
   have := List.find?_eq_none.1 e x hx
   simp [hn] at this
  rw [this]
 | some x =>
  have hx : x ∈ n.entries := List.mem_of_find?_eq_some e
  have hs : x.name = s := by have := List.find?_some e; simpa using this
  have : entryN n s = some x.fid := (YE h).2 (by rw [← hs]; exact hx)
  rw [this]
def entS (s : List UInt8) (f : Int) (q : Bool × List Entry) (e : Entry) : Bool × List Entry := if (!q.1 && Op.bytesLess s e.name) = true then (true, q.2 ++ [⟨s, f⟩] ++ [e]) else (q.1, q.2 ++ [e])
def entT (s : List UInt8) (f : Int) (l : List Entry) : Bool × List Entry := l.foldl (entS s f) (false, [])
def rEnterE (l : List Entry) (s : List UInt8) (f : Int) : List Entry := if (entT s f (rLeaveE l s)).1 = true then (entT s f (rLeaveE l s)).2 else (entT s f (rLeaveE l s)).2 ++ [⟨s, f⟩]
def rEnterN (n : Node) (s : List UInt8) (f : Int) : Node := { n with entries := rEnterE n.entries s f }
theorem entT_len (s : List UInt8) (f : Int) (l : List Entry) : (entT s f l).2.length ≤ 2 * l.length := by
 have : ∀ (l : List Entry) (q : Bool × List Entry), (l.foldl (entS s f) q).2.length ≤ q.2.length + 2 * l.length := fun l => by
  induction l with
  | nil => intro q; simp
  | cons e r ih =>
   intro q
   have h1 := ih (entS s f q e)
   have h2 : (entS s f q e).2.length ≤ q.2.length + 2 := by unfold entS; split <;> simp
   rw [List.foldl_cons, List.length_cons]
   omega
 have := this l (false, [])
 simpa [entT] using this
theorem entT_snoc (s : List UInt8) (f : Int) (l : List Entry) (e : Entry) : entT s f (l ++ [e]) = entS s f (entT s f l) e := by unfold entT; rw [List.foldl_append]; rfl
theorem entS_low (s : List UInt8) (f : Int) : ∀ (l : List Entry) (b : Bool) (q : List Entry), (∀ e, e ∈ l → e.name < s) → l.foldl (entS s f) (b, q) = (b, q ++ l)
 | [], b, q, _ => by simp
 | e :: r, b, q, h => by
  have h1 := h e List.mem_cons_self
  have h2 : Op.bytesLess s e.name = false := by
   rw [less_iff]
   exact decide_eq_false fun h3 => sirr _ (strans h1 h3)
  rw [List.foldl_cons, show entS s f (b, q) e = (b, q ++ [e]) from by simp [entS, h2], entS_low s f r b _ fun x hx => h x (List.mem_cons_of_mem _ hx)]
  simp
theorem entS_true (s : List UInt8) (f : Int) : ∀ (l : List Entry) (q : List Entry), l.foldl (entS s f) (true, q) = (true, q ++ l)
 | [], q => by simp
 | e :: r, q => by
  rw [List.foldl_cons, show entS s f (true, q) e = (true, q ++ [e]) from by simp [entS], entS_true s f r]
  simp
theorem rEnter_enter {l : List Entry} (h : EUp l) {s : List UInt8} (hs : isE l s = false) (f : Int) : rEnterE l s f = enterE l s f := by
 obtain ⟨h1, h2⟩ := h.parts hs
 have hlv : rLeaveE l s = l := by
  unfold rLeaveE
  refine List.filter_eq_self.2 fun e he => ?_
  have : e.name ≠ s := fun hn => by
   have := (isE_iff h s).2 ⟨e, he, hn⟩
   rw [hs] at this; cases this
  simpa using this
 unfold rEnterE
 rw [hlv]
 unfold enterE
 rw [hs, if_neg (show ¬ (false = true) by simp)]
 have hl : entT s f l = (l.drop (eplace l s)).foldl (entS s f) (false, l.take (eplace l s)) := by
  unfold entT
  conv => lhs; rw [← List.take_append_drop (eplace l s) l]
  rw [List.foldl_append, entS_low s f _ false [] h1]
  simp
 rw [hl]
 generalize hd : l.drop (eplace l s) = d at h2 ⊢
 cases d with
 | nil => simp
 | cons e r =>
  have h3 : Op.bytesLess s e.name = true := by rw [less_iff]; exact decide_eq_true (h2 e List.mem_cons_self)
  rw [List.foldl_cons, show entS s f (false, l.take (eplace l s)) e = (true, l.take (eplace l s) ++ [⟨s, f⟩] ++ [e]) from by simp [entS, h3], entS_true]
  simp
theorem rEnterN_enterN {n : Node} (h : EUp n.entries) {s : List UInt8} (hs : isE n.entries s = false) (f : Int) : rEnterN n s f = enterN n s f := by
 unfold rEnterN enterN; rw [rEnter_enter h hs]
open Classical in
noncomputable def rRenameE (l : List Node) (a : Act) : Int := if namedE l a = 0 then (if dirE l a.to = 0 then (if roomE (toN l a) a.toName = 0 then (if isAt l a.fid = true then (if decide (MReach (mapD l) a.fid a.to) = true then 11 else 0) else 12) else roomE (toN l a) a.toName) else dirE l a.to) else namedE l a
noncomputable def rRenameL (l : List Node) (a : Act) (v : Int) : List Node := if rRenameE l a = 0 then putN (if a.to = a.dir then l else putN l { leaveN (getN l a.dir) a.name with version := v }) { enterN (toN l a) a.toName a.fid with version := v } else l
noncomputable def rApplyE (l : List Node) (a : Act) : Int := if a.kind = 1 then makeE l a else if a.kind = 2 then makeE l a else if a.kind = 3 then storeE l a else if a.kind = 4 then removeE l a else if a.kind = 5 then rRenameE l a else 1
noncomputable def rApplyL (l : List Node) (a : Act) (v : Int) : List Node := if a.kind = 1 then makeL l a v else if a.kind = 2 then makeL l a v else if a.kind = 3 then storeL l a v else if a.kind = 4 then removeL l a v else if a.kind = 5 then rRenameL l a v else l
noncomputable def rApplyA (l : List Node) (a : Act) (v : Int) : AV := if rApplyE l a = 0 then .tup [.rm (mN (mapD (rApplyL l a v))), .int .i64 0] else .tup [.nilm, .int .i64 (rApplyE l a)]
structure Ri (l : List Node) : Prop where
 up : Up l
 eup : ∀ n, n ∈ l → EUp n.entries
theorem Ri.find {l : List Node} (h : Ri l) (k : Int) : EUp (getN l k).entries := by
 unfold getN
 cases e : findN l k with
 | none => exact List.Pairwise.nil
 | some n => exact h.eup n ((ZO h.up).1 e).1
theorem Ri.put {l : List Node} (h : Ri l) {n : Node} (hn : EUp n.entries) : Ri (putN l n) :=
 ⟨(putN_up h.up n).1, fun m hm => by
  rcases pmem hm with rfl | hm
  ·exact hn
  ·exact h.eup m hm⟩
theorem Ri.drop {l : List Node} (h : Ri l) (f : Int) : Ri (dropN l f) := ⟨(dropN_up h.up f).1, fun m hm => h.eup m (((dropN_up h.up f).2 m).1 hm).1⟩
theorem Ri.to {l : List Node} (h : Ri l) (a : Act) : EUp (toN l a).entries := by
 unfold toN
 split
 ·exact leave_up (h.find _) _
 ·exact h.find _
theorem Ri.apply {l : List Node} (h : Ri l) (a : Act) (v : Int) : Ri (rApplyL l a v) := by
 have hmk : Ri (makeL l a v) := by
  unfold makeL
  split
  ·rename_i he
   unfold makeE at he
   split at he
   ·split at he
    ·rename_i hr
     refine (h.put ?_).put List.Pairwise.nil
     exact (enterE_up (h.find _) (roomE_free hr).2 _).1
    ·rename_i hr; exact absurd he hr
   ·rename_i hr; exact absurd he hr
  ·exact h
 unfold rApplyL
 split
 ·exact hmk
 ·split
  ·exact hmk
  ·split
   ·unfold storeL
    split
    ·exact h.put (h.find _)
    ·exact h
   ·split
    ·unfold removeL
     split
     ·exact (h.put (leave_up (h.find _) _)).drop _
     ·exact h
    ·split
     ·unfold rRenameL
      split
      ·rename_i he
       have hr : roomE (toN l a) a.toName = 0 := by
        unfold rRenameE at he
        split at he
        ·split at he
         ·split at he
          ·assumption
          ·rename_i hr; exact absurd he hr
         ·rename_i hr; exact absurd he hr
        ·rename_i hr; exact absurd he hr
       refine Ri.put ?_ (enterE_up (h.to a) (roomE_free hr).2 _).1
       split
       ·exact h
       ·exact h.put (leave_up (h.find _) _)
      ·exact h
     ·exact h
theorem MReach.head {m : List (Int × Node)} {k : Int} {n : Node} {e : Entry} {t : Int} (hn : mget m k = some n) (he : e ∈ n.entries) (h : MReach m e.fid t) : MReach m k t := by
 induction h with
 | refl => exact .step .refl hn he
 | step _ hn' he' ih => exact .step ih hn' he'
theorem reach_of_mreach {l : List Node} (hu : Up l) {k t : Int} (h : MReach (mapD l) k t) : Reach l k t := by
 induction h with
 | refl => exact .refl _
 | step _ hn he ih =>
  rw [mapD_get hu] at hn
  obtain ⟨h1, h2⟩ := (ZO hu).1 hn
  subst h2
  exact Reach.tail h1 he ih
theorem mreach_of_within {l : List Node} (hu : Up l) (t : Int) : ∀ (f : Nat) (k : Int), withinF l t f k = some true → MReach (mapD l) k t
 | 0, _, h => by cases h
 | f + 1, k, h => by
  rw [withinF] at h
  split at h
  ·rename_i e; rw [e]; exact .refl
  ·cases e : findN l k with
   | none => rw [e] at h; cases h
   | some n =>
    rw [e] at h
    simp only at h
    split at h
    ·injection h with h
     obtain ⟨x, hx, hx2⟩ := List.any_eq_true.1 h
     rw [Bool.and_eq_true] at hx2
     have h3 : withinF l t f x.fid = some true := by
      have := hx2.2
      cases h4 : withinF l t f x.fid with
      | none => rw [h4] at this; cases this
      | some b => rw [h4] at this; exact congrArg some this
     exact MReach.head (by rw [mapD_get hu]; exact e) hx (mreach_of_within hu t f x.fid h3)
    ·cases h
open Classical in
theorem Good.within {l : List Node} (h : Good l) (t k : Int) : withinB l t k = decide (MReach (mapD l) k t) := by
 obtain ⟨f, hf⟩ := h.ends t k
 obtain ⟨r, hr⟩ := h.falls
 by_cases hm : MReach (mapD l) k t
 ·rw [decide_eq_true hm]
  exact within_reach h.up hr (reach_of_mreach h.up hm) f _ hf
 ·rw [decide_eq_false hm]
  cases hb : withinB l t k with
  | false => rfl
  | true => rw [hb] at hf; exact absurd (mreach_of_within h.up t f k hf) hm
theorem Good.renameE {l : List Node} (h : Good l) (a : Act) : rRenameE l a = La.renameE l a := by
 unfold rRenameE La.renameE
 rw [h.within a.to a.fid]
theorem Good.renameL {l : List Node} (h : Good l) (a : Act) (v : Int) : rRenameL l a v = La.renameL l a v := by
 unfold rRenameL La.renameL
 rw [h.renameE a]
theorem Good.applyE {l : List Node} (h : Good l) (a : Act) : rApplyE l a = La.applyE l a := by
 unfold rApplyE La.applyE
 rw [h.renameE a]
theorem Good.applyL {l : List Node} (h : Good l) (a : Act) (v : Int) : rApplyL l a v = La.applyL l a v := by
 unfold rApplyL La.applyL
 rw [h.renameL a v]
def NmE (l : List Entry) : Prop := ∀ e, e ∈ l → e.name.length ≤ 40
structure Nm (l : List Node) : Prop where
 up : Up l
 nm : ∀ n, n ∈ l → NmE n.entries
theorem NmE.nil : NmE [] := fun _ h => by cases h
theorem nameB_len {s : List UInt8} (h : nameB s = true) : s.length ≤ 40 := by
 unfold nameB at h
 rw [Bool.and_eq_true, Bool.and_eq_true, decide_eq_true_eq, decide_eq_true_eq] at h
 omega
theorem NmE.enter {l : List Entry} (h : NmE l) {s : List UInt8} (hs : nameB s = true) (f : Int) : NmE (enterE l s f) := fun e he => by
 rcases enterE_mem he with rfl | he
 ·exact nameB_len hs
 ·exact h e he
theorem NmE.leave {l : List Entry} (h : NmE l) (s : List UInt8) : NmE (leaveE l s) := fun e he => h e (leaveE_mem he)
theorem Nm.find {l : List Node} (h : Nm l) (k : Int) : NmE (getN l k).entries := by
 unfold getN
 cases e : findN l k with
 | none => exact .nil
 | some n => exact h.nm n ((ZO h.up).1 e).1
theorem Nm.put {l : List Node} (h : Nm l) {n : Node} (hn : NmE n.entries) : Nm (putN l n) :=
 ⟨(putN_up h.up n).1, fun m hm => by
  rcases pmem hm with rfl | hm
  ·exact hn
  ·exact h.nm m hm⟩
theorem Nm.drop {l : List Node} (h : Nm l) (f : Int) : Nm (dropN l f) := ⟨(dropN_up h.up f).1, fun m hm => h.nm m (((dropN_up h.up f).2 m).1 hm).1⟩
theorem Nm.to {l : List Node} (h : Nm l) (a : Act) : NmE (toN l a).entries := by
 unfold toN
 split
 ·exact (h.find _).leave _
 ·exact h.find _
theorem Nm.apply {l : List Node} (h : Nm l) (a : Act) (v : Int) : Nm (rApplyL l a v) := by
 have hmk : Nm (makeL l a v) := by
  unfold makeL
  split
  ·rename_i he
   unfold makeE at he
   split at he
   ·split at he
    ·rename_i hr
     refine (h.put ?_).put .nil
     exact (h.find _).enter (roomE_free hr).1 _
    ·rename_i hr; exact absurd he hr
   ·rename_i hr; exact absurd he hr
  ·exact h
 unfold rApplyL
 split
 ·exact hmk
 ·split
  ·exact hmk
  ·split
   ·unfold storeL
    split
    ·exact h.put (h.find _)
    ·exact h
   ·split
    ·unfold removeL
     split
     ·exact (h.put ((h.find _).leave _)).drop _
     ·exact h
    ·split
     ·unfold rRenameL
      split
      ·rename_i he
       have hr : roomE (toN l a) a.toName = 0 := by
        unfold rRenameE at he
        split at he
        ·split at he
         ·split at he
          ·assumption
          ·rename_i hr; exact absurd he hr
         ·rename_i hr; exact absurd he hr
        ·rename_i hr; exact absurd he hr
       refine Nm.put ?_ ((h.to a).enter (roomE_free hr).1 _)
       split
       ·exact h
       ·exact h.put ((h.find _).leave _)
      ·exact h
     ·exact h
theorem Wh.nm {l : List Node} (h : Wh l) {n : Node} (hn : n ∈ l) : NmE n.entries := fun e he => nameB_len (h.name n.fid e.name e.fid ⟨n, hn, rfl, he⟩)
theorem apply_ver {l : List Node} {a : Act} {v : Int} {n : Node} (he : applyE l a = 0) (h : n ∈ applyL l a v) : n.version = v ∨ n ∈ l := by
 unfold applyE at he
 unfold applyL at h
 have hmk : n ∈ makeL l a v → n.version = v ∨ n ∈ l := fun h => by
  unfold makeL at h
  split at h
  ·rcases pmem h with rfl | h
   ·exact .inl rfl
   ·rcases pmem h with rfl | h
    ·exact .inl rfl
    ·exact .inr h
  ·exact .inr h
 split at h
 ·exact hmk h
 ·split at h
  ·exact hmk h
  ·split at h
   ·unfold storeL at h
    split at h
    ·rcases pmem h with rfl | h
     ·exact .inl rfl
     ·exact .inr h
    ·exact .inr h
   ·split at h
    ·unfold removeL at h
     split at h
     ·rcases pmem (List.mem_filter.1 h).1 with rfl | h
      ·exact .inl rfl
      ·exact .inr h
     ·exact .inr h
    ·split at h
     ·unfold renameL at h
      split at h
      ·rcases pmem h with rfl | h
       ·exact .inl rfl
       ·split at h
        ·exact .inr h
        ·rcases pmem h with rfl | h
         ·exact .inl rfl
         ·exact .inr h
      ·exact .inr h
     ·exact .inr h
theorem Hist.ver {p : List Past} {t : List Node} (h : Hist p t) : ∀ n, n ∈ t → 0 ≤ n.version ∧ n.version ≤ (p.length : Int) := by
 induction h with
 | nil => intro n hn; rw [List.mem_singleton.1 hn]; simp [rootN]
 | @snoc p t c a h ha he ih =>
  intro n hn
  simp only [List.length_append, List.length_cons, List.length_nil]
  rcases apply_ver he hn with h1 | h1
  ·rw [h1]; omega
  ·have := ih n h1; omega
theorem Hist.det {p : List Past} {t : List Node} (h : Hist p t) : ∀ {t'}, Hist p t' → t = t' := by
 induction h with
 | nil =>
  intro t' h'
  generalize hq : ([] : List Past) = q at h'
  cases h' with
  | nil => rfl
  | snoc c a _ _ _ => simp at hq
 | @snoc p t c a h ha he ih =>
  intro t' h'
  generalize hq : p ++ [⟨c, a⟩] = q at h'
  cases h' with
  | nil => simp at hq
  | @snoc p2 t2 c2 a2 h2 _ _ =>
   obtain ⟨h3, h4⟩ := List.append_inj' hq rfl
   subst h3
   injection h4 with h4
   injection h4 with h4 h5
   subst h5
   rw [ih h2]
theorem Hist.back {p : List Past} {c : Int} {a : Act} {t' : List Node} (h : Hist (p ++ [⟨c, a⟩]) t') : ∃ t, Hist p t ∧ applyE t a = 0 ∧ t' = applyL t a ((p.length + 1 : Nat) : Int) := by
 generalize hq : p ++ [(⟨c, a⟩ : Past)] = q at h
 cases h with
 | nil => simp at hq
 | @snoc p2 t2 c2 a2 h2 ha he =>
  obtain ⟨h3, h4⟩ := List.append_inj' hq rfl
  subst h3
  injection h4 with h4
  injection h4 with h4 h5
  subst h5
  exact ⟨t2, h2, he, rfl⟩
def Hst (s : Srv) (n : Node) : Prop := n.version ≤ (s.past.length : Int) ∧ ∀ m, m ∈ s.tree → m.fid = n.fid → m.version = n.version → m = n
theorem Hst.at {s : Srv} (h : Hist s.past s.tree) {n : Node} (hn : n ∈ s.tree) : Hst s n := ⟨(h.ver n hn).2, fun _ hm hf _ => up_same h.good.up hm hn hf⟩
theorem hst_grow {p : List Past} {n : Node} : ∀ (q : List Past) {t t' : List Node}, Hist p t → Hist (p ++ q.reverse) t' → n.version ≤ (p.length : Int) → (∀ m, m ∈ t → m.fid = n.fid → m.version = n.version → m = n) →
  ∀ m, m ∈ t' → m.fid = n.fid → m.version = n.version → m = n
 | [], t, t', h, h', _, hm => by
  rw [List.reverse_nil, List.append_nil] at h'
  rw [← h.det h']; exact hm
 | x :: q, t, t', h, h', hv, hm => by
  rw [List.reverse_cons, ← List.append_assoc] at h'
  obtain ⟨t2, h2, he, rfl⟩ := Hist.back (c := x.client) (a := x.act) h'
  have ih := hst_grow q h h2 hv hm
  intro m hmm hf hver
  rcases apply_ver he hmm with h3 | h3
  ·rw [h3] at hver
   simp only [List.length_append, List.length_reverse] at hver
   omega
  ·exact ih m h3 hf hver
structure Grown (s s' : Srv) : Prop where
 hist : Hist s'.past s'.tree
 past : ∃ q, s'.past = s.past ++ q
theorem Grown.refl {s : Srv} (h : Hist s.past s.tree) : Grown s s := ⟨h, [], by simp⟩
theorem Grown.trans {a b c : Srv} (h : Grown a b) (k : Grown b c) : Grown a c := by
 obtain ⟨q, hq⟩ := h.past
 obtain ⟨r, hr⟩ := k.past
 exact ⟨k.hist, q ++ r, by rw [hr, hq, List.append_assoc]⟩
theorem Hst.grow {s s' : Srv} (h : Hist s.past s.tree) (hg : Grown s s') {n : Node} (hn : Hst s n) : Hst s' n := by
 obtain ⟨q, hq⟩ := hg.past
 have h1 := hg.hist
 refine ⟨by rw [hq, List.length_append]; have := hn.1; omega, hst_grow (p := s.past) q.reverse h ?_ hn.1 hn.2⟩
 rw [List.reverse_reverse, ← hq]; exact h1
theorem staleK_no {t : List Node} (hu : Up t) {k : Kept} (hd : k.dirty = false) (h : staleK t k = false) : ∃ n, n ∈ t ∧ n.fid = k.node.fid ∧ n.version = k.node.version := by
 unfold staleK at h
 rw [hd, isAt_eq] at h
 cases e : findN t k.node.fid with
 | none => rw [e] at h; simp at h
 | some n =>
  rw [e] at h
  simp only [Bool.not_false, Option.isSome_some, Bool.not_true, Option.getD_some, Bool.false_or, Bool.true_and, Bool.not_eq_false', beq_iff_eq] at h
  obtain ⟨h1, h2⟩ := (ZO hu).1 e
  exact ⟨n, h1, h2, h⟩
theorem staleK_in {s : Srv} (hh : Hist s.past s.tree) {k : Kept} (hk : Hst s k.node) (hd : k.dirty = false) (h : staleK s.tree k = false) : k.node ∈ s.tree := by
 obtain ⟨n, h1, h2, h3⟩ := staleK_no hh.good.up hd h
 rw [← hk.2 n h1 h2 h3]; exact h1
structure ActS (a : Act) : Prop where
 name : a.name.length ≤ 40
 toName : a.toName.length ≤ 40
 data : a.data.length ≤ 20
theorem ActS.fit {a : Act} (h : ActS a) : ActFit a := ⟨by have := h.name; omega, by have := h.toName; omega, by have := h.data; omega⟩
structure HoardOK (h : Hoard) : Prop where
 path : h.path.length ≤ 40
 worth : 1 ≤ h.worth ∧ h.worth ≤ 100
structure CInv (B T : Nat) (s : Srv) (c : Cli) : Prop where
 room : 3 ≤ c.room ∧ c.room ≤ 24
 nod : (c.cache.map fun k => k.node.fid).Nodup
 len : (c.cache.length : Int) ≤ c.room
 falls : ∃ r, Falls r (nodesK c.cache)
 data : ∀ k, k ∈ c.cache → k.node.data.length ≤ 20
 ent : ∀ k, k ∈ c.cache → k.node.entries.length ≤ 6
 eup : ∀ k, k ∈ c.cache → EUp k.node.entries
 nam : ∀ k, k ∈ c.cache → NmE k.node.entries
 here : c.away = false → c.log = [] ∧ ∀ k, k ∈ c.cache → k.dirty = false ∧ k.node ∈ s.tree
 hst : ∀ k, k ∈ c.cache → k.dirty = false → Hst s k.node
 log : c.log.length ≤ 20
 logS : ∀ r, r ∈ c.log → ActS r.act
 rep : c.repair.length ≤ B
 repS : ∀ r, r ∈ c.repair → ActS r.act
 hoards : c.hoards.length ≤ 6
 hoardS : ∀ h, h ∈ c.hoards → HoardOK h
 clock : 0 ≤ c.clock ∧ c.clock ≤ (T : Int)
 made : 0 ≤ c.made ∧ c.made ≤ (B : Int)
 logged : 0 ≤ c.logged ∧ c.logged ≤ (B : Int)
theorem CInv.mono {B B' T T' : Nat} {s : Srv} {c : Cli} (h : CInv B T s c) (hB : B ≤ B') (hT : T ≤ T') : CInv B' T' s c :=
 { h with rep := Nat.le_trans h.rep hB, clock := ⟨h.clock.1, by have := h.clock.2; omega⟩, made := ⟨h.made.1, by have := h.made.2; omega⟩, logged := ⟨h.logged.1, by have := h.logged.2; omega⟩ }
theorem CInv.new (B T : Nat) (s : Srv) (i room : Int) (h : 3 ≤ room ∧ room ≤ 24) : CInv B T s (newC i room) where
 room := h
 nod := List.Pairwise.nil
 len := by simp [newC]; omega
 falls := ⟨fun _ => 0, fun n hn => by cases hn⟩
 data := fun k hk => by cases hk
 ent := fun k hk => by cases hk
 eup := fun k hk => by cases hk
 nam := fun k hk => by cases hk
 here := fun _ => ⟨rfl, fun k hk => by cases hk⟩
 hst := fun k hk => by cases hk
 log := by simp [newC]
 logS := fun r hr => by cases hr
 rep := by simp [newC]
 repS := fun r hr => by cases hr
 hoards := by simp [newC]
 hoardS := fun r hr => by cases hr
 clock := by simp [newC]
 made := by simp [newC]
 logged := by simp [newC]
theorem falls_sub {r : Int → Nat} {l m : List Node} (h : Falls r l) (hs : ∀ n, n ∈ m → ∃ o, o ∈ l ∧ o.fid = n.fid ∧ o.entries = n.entries) : Falls r m := fun n hn e he => by
 obtain ⟨o, h1, h2, h3⟩ := hs n hn
 rw [← h3] at he
 rw [← h2]; exact h o h1 e he
theorem mem_nodesK {l : List Kept} {n : Node} : n ∈ nodesK l ↔ ∃ k, k ∈ l ∧ k.node = n := by
 unfold nodesK; exact List.mem_map
structure Of (t : List Node) (l : List Kept) : Prop where
 each : ∀ k, k ∈ l → ∃ n, n ∈ t ∧ n.fid = k.node.fid ∧ n.dir = k.node.dir ∧ n.data = k.node.data ∧ n.entries = k.node.entries
theorem Of.falls {t : List Node} {l : List Kept} (h : Of t l) (hf : ∃ r, Falls r t) : ∃ r, Falls r (nodesK l) := by
 obtain ⟨r, hr⟩ := hf
 refine ⟨r, falls_sub hr fun n hn => ?_⟩
 obtain ⟨k, hk, rfl⟩ := mem_nodesK.1 hn
 obtain ⟨o, h1, h2, _, _, h5⟩ := h.each k hk
 exact ⟨o, h1, h2, h5⟩
theorem Of.mem {t : List Node} {l : List Kept} (h : ∀ k, k ∈ l → k.node ∈ t) : Of t l := ⟨fun k hk => ⟨k.node, h k hk, rfl, rfl, rfl, rfl⟩⟩
structure UInv (B T : Nat) (u : U) : Prop where
 srv : SrvOK B u.s
 cli : CInv B T u.s u.c
theorem UInv.mono {B B' T T' : Nat} {u : U} (h : UInv B T u) (hB : B ≤ B') (hT : T ≤ T') : UInv B' T' u := ⟨h.srv.mono hB, h.cli.mono hB hT⟩
theorem getF_node (f w c : Int) (k : Kept) : (getF f w c k).node = k.node := by unfold getF; split <;> rfl
theorem getF_dirty (f w c : Int) (k : Kept) : (getF f w c k).dirty = k.dirty := by unfold getF; split <;> rfl
theorem look_mem {l : List Kept} {f w c : Int} {k : Kept} (h : k ∈ l.map (getF f w c)) : ∃ x, x ∈ l ∧ x.node = k.node ∧ x.dirty = k.dirty := by
 obtain ⟨x, hx, rfl⟩ := List.mem_map.1 h
 exact ⟨x, hx, (getF_node _ _ _ _).symm, (getF_dirty _ _ _ _).symm⟩
theorem look_fids (l : List Kept) (f w c : Int) : (l.map (getF f w c)).map (fun k => k.node.fid) = l.map fun k => k.node.fid := by
 rw [List.map_map]; exact List.map_congr_left fun k _ => by simp [getF_node]
theorem look_nodes (l : List Kept) (f w c : Int) : nodesK (l.map (getF f w c)) = nodesK l := by
 unfold nodesK; rw [List.map_map]; exact List.map_congr_left fun k _ => by simp [getF_node]
theorem look_inv {B T : Nat} {u : U} (h : UInv B T u) (f w : Int) : UInv B (T + 1) (lookU u f w) := by
 obtain ⟨hs, h⟩ := h
 refine ⟨hs, ?_⟩
 exact { h with
  nod := by show (List.map _ (u.c.cache.map _)).Nodup; rw [look_fids]; exact h.nod
  len := by show ((List.map _ u.c.cache).length : Int) ≤ _; rw [List.length_map]; exact h.len
  falls := by show ∃ r, Falls r (nodesK (u.c.cache.map _)); rw [look_nodes]; exact h.falls
  data := fun k hk => by obtain ⟨x, hx, h1, _⟩ := look_mem hk; rw [← h1]; exact h.data x hx
  ent := fun k hk => by obtain ⟨x, hx, h1, _⟩ := look_mem hk; rw [← h1]; exact h.ent x hx
  eup := fun k hk => by obtain ⟨x, hx, h1, _⟩ := look_mem hk; rw [← h1]; exact h.eup x hx
  nam := fun k hk => by obtain ⟨x, hx, h1, _⟩ := look_mem hk; rw [← h1]; exact h.nam x hx
  here := fun ha => ⟨(h.here ha).1, fun k hk => by obtain ⟨x, hx, h1, h2⟩ := look_mem hk; rw [← h1, ← h2]; exact (h.here ha).2 x hx⟩
  hst := fun k hk hd => by obtain ⟨x, hx, h1, h2⟩ := look_mem hk; rw [← h1]; exact h.hst x hx (h2.trans hd)
  clock := by have := h.clock; show 0 ≤ u.c.clock + 1 ∧ u.c.clock + 1 ≤ ((T + 1 : Nat) : Int); omega }
theorem kplace_none {l : List Kept} {f : Int} (h : kplace l f = none) : ∀ x, x ∈ l → x.node.fid ≠ f := fun x hx e => by
 have := List.findIdx?_eq_none_iff.1 h x hx
 simp [e] at this
theorem kplace_at {l : List Kept} {f : Int} {i : Nat} (h : kplace l f = some i) : i < l.length ∧ (l.getD i default).node.fid = f := by
 obtain ⟨h1, h2, _⟩ := List.findIdx?_eq_some_iff_getElem.1 h
 exact ⟨h1, by rw [List.getD_eq_getElem?_getD, List.getElem?_eq_getElem h1]; exact of_decide_eq_true h2⟩
theorem shrinkK_subl {room : Int} : ∀ (f : Nat) (l L : List Kept), shrinkK room f l = some L → L.Sublist l
 | 0, l, L, h => by rw [shrinkK] at h; injection h with h; subst h; exact List.Sublist.refl _
 | f + 1, l, L, h => by
  rw [shrinkK] at h
  split at h
  ·split at h
   ·cases h
   ·exact (shrinkK_subl f _ L h).trans (List.eraseIdx_sublist _ _)
  ·injection h with h; subst h; exact List.Sublist.refl _
theorem shrinkK_len {room : Int} (hr : 1 ≤ room) : ∀ (f : Nat) (l L : List Kept), shrinkK room f l = some L → l.length < f → (L.length : Int) < room
 | 0, l, L, h, hf => by omega
 | f + 1, l, L, h, hf => by
  rw [shrinkK] at h
  split at h
  ·rename_i hge
   split at h
   ·cases h
   ·rename_i i hw
    have hi : i < l.length := worstAt_lt l l.length i hw
    exact shrinkK_len hr f _ L h (by rw [List.length_eraseIdx, if_pos hi]; omega)
  ·injection h with h; subst h; omega
structure Kp (l : List Kept) (room : Int) (k : Kept) (L : List Kept) : Prop where
 mem : ∀ x, x ∈ L → (x ∈ l ∧ x.node.fid ≠ k.node.fid) ∨ (x.node = k.node ∧ x.dirty = k.dirty)
 nod : (L.map fun x => x.node.fid).Nodup
 len : (L.length : Int) ≤ room
 has : ∃ x, x ∈ L ∧ x.node = k.node ∧ x.dirty = k.dirty
theorem nodup_at {l : List Kept} (h : (l.map fun x => x.node.fid).Nodup) {i j : Nat} {a b : Kept} (ha : l[i]? = some a) (hb : l[j]? = some b) (hf : a.node.fid = b.node.fid) : i = j := by
 have h1 := List.getElem?_eq_some_iff.1 ha
 have h2 := List.getElem?_eq_some_iff.1 hb
 obtain ⟨hi, h1⟩ := h1
 obtain ⟨hj, h2⟩ := h2
 refine (List.getElem_inj (xs := l.map fun x => x.node.fid) (i := i) (j := j) (h₀ := by simpa using hi) (h₁ := by simpa using hj) h).1 ?_
 rw [List.getElem_map, List.getElem_map, h1, h2, hf]
theorem set_fids {l : List Kept} {i : Nat} {k : Kept} (hi : i < l.length) (hf : (l.getD i default).node.fid = k.node.fid) : (l.set i k).map (fun x => x.node.fid) = l.map fun x => x.node.fid := by
 rw [List.map_set]
 refine List.ext_getElem? fun j => ?_
 rw [List.getElem?_set]
 split
 ·rename_i e
  subst e
  rw [List.getElem?_map, List.getElem?_eq_getElem hi]
  rw [List.getD_eq_getElem?_getD, List.getElem?_eq_getElem hi] at hf
  simp only [List.length_map, hi, if_true, Option.map_some]
  exact congrArg some hf.symm
 ·rfl
theorem keepK_kp {l L : List Kept} {room : Int} {k : Kept} (hr : 1 ≤ room) (hn : (l.map fun x => x.node.fid).Nodup) (hl : (l.length : Int) ≤ room) (h : keepK l room k = some L) : Kp l room k L := by
 unfold keepK at h
 cases e : kplace l k.node.fid with
 | some i =>
  rw [e] at h
  injection h with h
  subst h
  obtain ⟨hi, hf⟩ := kplace_at e
  refine ⟨fun x hx => ?_, ?_, by rw [List.length_set]; exact hl, ⟨{ k with worth := maxI k.worth (l.getD i default).worth }, List.mem_iff_getElem.2 ⟨i, by simpa using hi, by simp⟩, rfl, rfl⟩⟩
  ·obtain ⟨j, hj⟩ := List.getElem?_of_mem hx
   rw [List.getElem?_set] at hj
   split at hj
   ·rename_i e2
    subst e2
    simp only [hi, if_true, Option.some.injEq] at hj
    exact .inr ⟨by rw [← hj], by rw [← hj]⟩
   ·rename_i hne
    refine .inl ⟨List.mem_of_getElem? hj, fun hxf => hne ?_⟩
    refine nodup_at hn (List.getElem?_eq_getElem hi) hj ?_
    rw [List.getD_eq_getElem?_getD, List.getElem?_eq_getElem hi] at hf
    exact hf.trans hxf.symm
  ·rw [set_fids hi (by exact hf)]; exact hn
 | none =>
  rw [e] at h
  obtain ⟨L0, h0, rfl⟩ := Option.map_eq_some_iff.1 h
  have h1 := shrinkK_subl _ _ _ h0
  have h2 := shrinkK_len hr _ _ _ h0 (Nat.lt_succ_self _)
  have hno := kplace_none e
  refine ⟨fun x hx => ?_, ?_, by rw [List.length_append]; simp; omega, ⟨k, by simp, rfl, rfl⟩⟩
  ·rcases List.mem_append.1 hx with hx | hx
   ·exact .inl ⟨h1.subset hx, hno x (h1.subset hx)⟩
   ·rw [List.mem_singleton.1 hx]; exact .inr ⟨rfl, rfl⟩
  ·rw [List.map_append, List.nodup_append]
   refine ⟨hn.sublist (h1.map _), by simp, fun a ha b hb => ?_⟩
   obtain ⟨x, hx, rfl⟩ := List.mem_map.1 ha
   simp only [List.map_cons, List.map_nil, List.mem_singleton] at hb
   rw [hb]
   exact hno x (h1.subset hx)
theorem CInv.within {B T : Nat} {s : Srv} {c : Cli} (h : CInv B T s c) (hh : Hist s.past s.tree) {L : List Kept} (hn : (L.map fun k => k.node.fid).Nodup) (hl : (L.length : Int) ≤ c.room) (hm : ∀ k, k ∈ L → k.dirty = false ∧ k.node ∈ s.tree) : CInv B T s { c with cache := L } :=
 { h with
  nod := hn
  len := hl
  falls := (Of.mem fun k hk => (hm k hk).2).falls hh.good.falls
  data := fun k hk => hh.good.data _ (hm k hk).2
  ent := fun k hk => hh.good.ent _ (hm k hk).2
  eup := fun k hk => (hh.whole.loc _ (hm k hk).2).eup
  nam := fun k hk => hh.whole.nm (hm k hk).2
  here := fun ha => ⟨(h.here ha).1, hm⟩
  hst := fun k hk _ => Hst.at hh (hm k hk).2 }
theorem keepU_inv {B T : Nat} {u : U} (h : UInv B T u) (ha : u.c.away = false) {n : Node} (hn : n ∈ u.s.tree) (w c : Int) : UInv B T (keepU u ⟨n, false, w, c⟩) := by
 unfold keepU
 split
 ·rename_i l hl
  have hk := keepK_kp (by have := h.cli.room; omega) h.cli.nod h.cli.len hl
  refine ⟨h.srv, h.cli.within h.srv.hist hk.nod hk.len fun x hx => ?_⟩
  rcases hk.mem x hx with ⟨h1, _⟩ | ⟨h1, h2⟩
  ·exact (h.cli.here ha).2 x h1
  ·exact ⟨h2, by rw [h1]; exact hn⟩
 ·exact h
theorem getU_inv {B T : Nat} {u : U} (h : UInv B T u) (f w : Int) : UInv B (T + 1) (getU u f w).u := by
 unfold getU
 split
 ·exact look_inv h f w
 ·split
  ·exact look_inv h f w
  ·rename_i ha
   split
   ·exact look_inv h f w
   ·rename_i n hn
    exact keepU_inv (look_inv h f w) (show u.c.away = false by simpa using ha) ((ZO h.srv.hist.good.up).1 hn).1 w _
theorem goR_inv {B : Nat} (w : Int) : ∀ (l : List (List UInt8)) (T : Nat) (g : Got), UInv B T g.u → UInv B (T + l.length) (goR w l g).u
 | [], T, g, h => by unfold goR; split <;> exact h
 | s :: r, T, g, h => by
  unfold goR
  have hm : UInv B (T + (s :: r).length) g.u := h.mono (Nat.le_refl _) (by simp)
  split
  ·exact hm
  ·split
   ·exact hm
   ·split
    ·exact hm
    ·rename_i f _
     have := goR_inv w r (T + 1) (getU g.u f w) (getU_inv h f w)
     rwa [show T + 1 + r.length = T + (s :: r).length by simp; omega] at this
theorem goU_inv {B T : Nat} {u : U} (h : UInv B T u) (l : List (List UInt8)) (w : Int) : UInv B (T + 1 + l.length) (goU u l w).u := goR_inv w l (T + 1) _ (getU_inv h 0 w)
theorem splitR_len (s : List UInt8) : (splitR s).1.length ≤ 41 ∧ ∀ x, x ∈ (splitR s).1 → x.length ≤ 40 ∧ nameB x = true := by
 unfold splitR
 split
 ·simp
 ·rename_i h1
  split
  ·simp
  ·split
   ·simp
   ·split
    ·rename_i h4
     have h2 := cutL_le 47 (s.drop 1)
     have h5 : (s.drop 1).length = s.length - 1 := List.length_drop
     refine ⟨by show (cutL 47 (s.drop 1)).length ≤ 41; omega, fun x hx => ⟨?_, List.all_eq_true.1 h4 x hx⟩⟩
     have h3 := cutL_part 47 (s.drop 1) x hx
     omega
    ·simp
theorem dirU_inv {B T : Nat} {u : U} (h : UInv B T u) (path : List UInt8) : UInv B (T + 42) (dirU u path).u := by
 unfold dirU
 split
 ·exact h.mono (Nat.le_refl _) (by omega)
 ·split
  ·exact h.mono (Nat.le_refl _) (by omega)
  ·refine (goU_inv h _ 0).mono (Nat.le_refl _) ?_
   have := (splitR_len path).1
   simp only [List.length_take]
   omega
theorem dirU_name (u : U) (path : List UInt8) : (dirU u path).name.length ≤ 40 := by
 unfold dirU
 split
 ·simp
 ·split
  ·simp
  ·rename_i h
   refine ((splitR_len path).2 _ ?_).1
   have hi : (splitR path).1.length - 1 < (splitR path).1.length := by omega
   rw [List.getD_eq_getElem?_getD, List.getElem?_eq_getElem hi]
   exact List.getElem_mem hi
end La
