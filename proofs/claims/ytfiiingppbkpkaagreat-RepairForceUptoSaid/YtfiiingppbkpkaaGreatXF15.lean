/- Texts of this claim, part 15: PGood, TSame, Ali2, Hof, PLog, Fid, Logs, Srv, Srv2, Cach, Cach2, Unl, Maps, PJud, Jud. No condition. -/
import Derived.Test.YtfiiingppbkpkaaGreatXF14
import Derived.Test.YtfiiingppbkpkaaGreatXF11
import Derived.Test.YtfiiingppbkpkaaGreatXF10
import Derived.Test.YtfiiingppbkpkaaGreatXF13
import Derived.Test.YtfiiingppbkpkaaGreatXF9
import Derived.Test.YtfiiingppbkpkaaGreatXF12
set_option maxRecDepth 10000
set_option maxHeartbeats 4000000
set_option linter.unusedSimpArgs false
set_option linter.unusedVariables false
namespace La
open Go Go.Eng Go.Proofs
theorem good_make {l : List Node} (h : Good l) (a : Act) (v : Int) (he : makeE l a = 0) : Good (makeL l a v) := by
 have hL : makeL l a v = putN (putN l { enterN (getN l a.dir) a.name a.fid with version := v }) (madeN a v) := by unfold makeL; rw [if_pos he]
 rw [hL]
 unfold makeE at he
 split at he
 ·rename_i hd
  obtain ⟨n, hf, hg, _⟩ := dirE_zero hd
  rw [hg] at he ⊢
  obtain ⟨hn, hnk⟩ := (ZO h.up).1 hf
  split at he
  ·rename_i hro
   have h5 := roomE_zero hro
   split at he
   ·cases he
   ·rename_i hnew
    have hno : isAt l a.fid = false := by
     cases e : isAt l a.fid with
     | false => rfl
     | true => rw [e] at hnew; exact absurd rfl hnew
    have hnoN : ∀ x, x ∈ l → x.fid ≠ a.fid := (findN_none h.up).1 (by
     cases e : findN l a.fid with
     | none => rfl
     | some m => rw [isAt_of e] at hno; cases hno)
    split at he
    ·cases he
    ·rename_i h24
     obtain ⟨r, hr⟩ := h.falls
     have hfid : ({ enterN n a.name a.fid with version := v } : Node).fid = n.fid := rfl
     have hu1 := putN_up h.up { enterN n a.name a.fid with version := v }
     refine ⟨(putN_up hu1.1 (madeN a v)).1, ⟨fun x => if x = a.fid then 0 else r x + 1, fun x hx e hx2 => ?_⟩, ?_, fun x hx => ?_, fun x hx => ?_⟩
     ·rcases pmem hx with rfl | hx
      ·simp [madeN] at hx2
      ·rcases pmem hx with rfl | hx
       ·have hnf : n.fid ≠ a.fid := hnoN n hn
        have hx3 : e ∈ enterE n.entries a.name a.fid := hx2
        show (if e.fid = a.fid then 0 else r e.fid + 1) < (if n.fid = a.fid then 0 else r n.fid + 1)
        rw [if_neg hnf]
        rcases enterE_mem hx3 with rfl | hx3
        ·simp
        ·have := hr n hn e hx3
         split <;> omega
       ·have hnf : x.fid ≠ a.fid := hnoN x hx
        have := hr x hx e hx2
        simp only
        rw [if_neg hnf]
        split <;> omega
     ·have h1 := putN_length (putN l { enterN n a.name a.fid with version := v }) (madeN a v)
      have h2 : (putN l { enterN n a.name a.fid with version := v }).length = l.length := putN_at (by rw [hfid, hnk]; exact isAt_of hf)
      omega
     ·rcases pmem hx with rfl | hx
      ·simp [madeN]
      ·rcases pmem hx with rfl | hx
       ·exact h.data n hn
       ·exact h.data x hx
     ·rcases pmem hx with rfl | hx
      ·simp [madeN]
      ·rcases pmem hx with rfl | hx
       ·have := enterE_len n.entries a.name a.fid
        show (enterE n.entries a.name a.fid).length ≤ 6
        omega
       ·exact h.ent x hx
  ·rename_i hro; exact absurd he hro
 ·rename_i hd; exact absurd he hd
theorem good_store {l : List Node} (h : Good l) (a : Act) (v : Int) (he : storeE l a = 0) : Good (storeL l a v) := by
 have hL : storeL l a v = putN l { getN l a.fid with data := a.data, version := v } := by unfold storeL; rw [if_pos he]
 rw [hL]
 unfold storeE at he
 cases hf : findN l a.fid with
 | none => rw [hf] at he; cases he
 | some n =>
  rw [hf] at he
  simp only at he
  obtain ⟨hn, hnk⟩ := (ZO h.up).1 hf
  have hg : getN l a.fid = n := by unfold getN; rw [hf]; rfl
  rw [hg]
  split at he
  ·cases he
  ·split at he
   ·cases he
   ·rename_i h20
    obtain ⟨r, hr⟩ := h.falls
    refine ⟨(putN_up h.up _).1, ⟨r, fun x hx e hx2 => ?_⟩, ?_, fun x hx => ?_, fun x hx => ?_⟩
    ·rcases pmem hx with rfl | hx
     ·exact hr n hn e hx2
     ·exact hr x hx e hx2
    ·rw [putN_at (by show isAt l n.fid = true; rw [hnk]; exact isAt_of hf)]; exact h.len
    ·rcases pmem hx with rfl | hx
     ·show a.data.length ≤ 20; omega
     ·exact h.data x hx
    ·rcases pmem hx with rfl | hx
     ·exact h.ent n hn
     ·exact h.ent x hx
theorem namedE_zero {l : List Node} {a : Act} (h : namedE l a = 0) : ∃ n, findN l a.dir = some n ∧ getN l a.dir = n := by
 unfold namedE at h
 split at h
 ·rename_i hd
  obtain ⟨n, h1, h2, _⟩ := dirE_zero hd
  exact ⟨n, h1, h2⟩
 ·rename_i hd; exact absurd h hd
theorem good_leave {l : List Node} (h : Good l) {n : Node} (hn : n ∈ l) (hf : findN l n.fid = some n) (s : List UInt8) (v : Int) {r : Int → Nat} (hr : Falls r l) :
  Good (putN l { leaveN n s with version := v }) ∧ Falls r (putN l { leaveN n s with version := v }) := by
 have hr2 : Falls r (putN l { leaveN n s with version := v }) := fun x hx e hx2 => by
  rcases pmem hx with rfl | hx
  ·exact hr n hn e (leaveE_mem hx2)
  ·exact hr x hx e hx2
 refine ⟨⟨(putN_up h.up _).1, ⟨r, hr2⟩, ?_, fun x hx => ?_, fun x hx => ?_⟩, hr2⟩
 ·rw [putN_at (by show isAt l n.fid = true; exact isAt_of hf)]; exact h.len
 ·rcases pmem hx with rfl | hx
  ·exact h.data n hn
  ·exact h.data x hx
 ·rcases pmem hx with rfl | hx
  ·have := leaveE_len n.entries s
   have := h.ent n hn
   show (leaveE n.entries s).length ≤ 6
   omega
  ·exact h.ent x hx
theorem good_remove {l : List Node} (h : Good l) (a : Act) (v : Int) (he : removeE l a = 0) : Good (removeL l a v) := by
 have hL : removeL l a v = dropN (putN l { leaveN (getN l a.dir) a.name with version := v }) a.fid := by unfold removeL; rw [if_pos he]
 rw [hL]
 unfold removeE at he
 split at he
 ·rename_i hnm
  obtain ⟨n, hf, hg⟩ := namedE_zero hnm
  rw [hg]
  obtain ⟨hn, hnk⟩ := (ZO h.up).1 hf
  obtain ⟨r, hr⟩ := h.falls
  obtain ⟨h1, hr1⟩ := good_leave h hn (by rw [hnk]; exact hf) a.name v hr
  have hsub : ∀ x, x ∈ dropN (putN l { leaveN n a.name with version := v }) a.fid → x ∈ putN l { leaveN n a.name with version := v } := fun x hx => (List.mem_filter.1 hx).1
  refine ⟨(dropN_up h1.up a.fid).1, ⟨r, fun x hx e hx2 => hr1 x (hsub x hx) e hx2⟩, ?_, fun x hx => h1.data x (hsub x hx), fun x hx => h1.ent x (hsub x hx)⟩
  have := List.length_filter_le (fun n : Node => !(n.fid == a.fid)) (putN l { leaveN n a.name with version := v })
  have := h1.len
  unfold dropN
  omega
 ·rename_i hnm; exact absurd he hnm
open Classical in
theorem good_rename {l : List Node} (h : Good l) (a : Act) (v : Int) (he : renameE l a = 0) : Good (renameL l a v) := by
 have hL : renameL l a v = putN (if a.to = a.dir then l else putN l { leaveN (getN l a.dir) a.name with version := v }) { enterN (toN l a) a.toName a.fid with version := v } := by unfold renameL; rw [if_pos he]
 rw [hL]
 unfold renameE at he
 split at he
 ·rename_i hnm
  obtain ⟨n, hf, hg⟩ := namedE_zero hnm
  obtain ⟨hn, hnk⟩ := (ZO h.up).1 hf
  split at he
  ·rename_i hdt
   obtain ⟨t, htf, htg, _⟩ := dirE_zero hdt
   obtain ⟨htm, htk⟩ := (ZO h.up).1 htf
   split at he
   ·rename_i hro
    have h5 := roomE_zero hro
    split at he
    ·split at he
     ·cases he
     ·rename_i hwb
      obtain ⟨f, hw⟩ := h.ends a.to a.fid
      obtain ⟨r, hr⟩ := h.falls
      have hnr : ¬ Reach l a.fid a.to := fun hR => by
       have := within_reach h.up hr hR f _ hw
       exact hwb this
      -- the node that gets the entry: that directory, some entries less
      have hTf : (toN l a).fid = a.to := by
       unfold toN
       split
       ·rename_i htd; show (getN l a.dir).fid = a.to; rw [hg, hnk, htd]
       ·rw [htg, htk]
      have hTe : ∀ e, e ∈ (toN l a).entries → e ∈ t.entries := fun e hx => by
       unfold toN at hx
       split at hx
       ·rename_i htd
        have h1 := leaveE_mem hx
        rw [hg] at h1
        rw [htd, hf] at htf
        injection htf with htf
        rwa [← htf]
       ·rwa [htg] at hx
      have hTd : (toN l a).data.length ≤ 20 := by
       unfold toN
       split
       ·show (getN l a.dir).data.length ≤ 20; rw [hg]; exact h.data n hn
       ·rw [htg]; exact h.data t htm
      have key : ∀ l1 : List Node, Up l1 → (∀ x, x ∈ l1 → x.data.length ≤ 20 ∧ x.entries.length ≤ 6) → l1.length ≤ 24 → isAt l1 a.to = true →
        (∀ x, x ∈ l1 → ∃ y, y ∈ l ∧ y.fid = x.fid ∧ ∀ e, e ∈ x.entries → e ∈ y.entries) → Good (putN l1 { enterN (toN l a) a.toName a.fid with version := v }) := fun l1 hu1 hs1 hl1 ha1 hsub => by
       let q : Int → Nat := fun x => if Reach l a.fid x then r x else r x + (r a.fid + 1)
       have hq : ∀ y, y ∈ l → ∀ e, e ∈ y.entries → q e.fid < q y.fid := fun y hy e hx => by
        have h1 := hr y hy e hx
        show (if Reach l a.fid e.fid then r e.fid else r e.fid + (r a.fid + 1)) < (if Reach l a.fid y.fid then r y.fid else r y.fid + (r a.fid + 1))
        by_cases hR : Reach l a.fid y.fid
        ·rw [if_pos hR, if_pos (hR.tail hy hx)]; exact h1
        ·rw [if_neg hR]
         split <;> omega
       refine ⟨(putN_up hu1 _).1, ⟨q, fun x hx e hx2 => ?_⟩, ?_, fun x hx => ?_, fun x hx => ?_⟩
       ·rcases pmem hx with rfl | hx
        ·have hx3 : e ∈ enterE (toN l a).entries a.toName a.fid := hx2
         show q e.fid < q (toN l a).fid
         rw [hTf]
         rcases enterE_mem hx3 with rfl | hx3
         ·show (if Reach l a.fid a.fid then r a.fid else r a.fid + (r a.fid + 1)) < (if Reach l a.fid a.to then r a.to else r a.to + (r a.fid + 1))
          rw [if_pos (.refl _), if_neg hnr]; omega
         ·have := hq t htm e (hTe e hx3)
          rwa [htk] at this
        ·obtain ⟨y, hy, hyf, hye⟩ := hsub x hx
         have := hq y hy e (hye e hx2)
         rwa [hyf] at this
       ·rw [putN_at (by show isAt l1 (toN l a).fid = true; rw [hTf]; exact ha1)]; exact hl1
       ·rcases pmem hx with rfl | hx
        ·exact hTd
        ·exact (hs1 x hx).1
       ·rcases pmem hx with rfl | hx
        ·have := enterE_len (toN l a).entries a.toName a.fid
         show (enterE (toN l a).entries a.toName a.fid).length ≤ 6
         omega
        ·exact (hs1 x hx).2
      split
      ·exact key l h.up (fun x hx => ⟨h.data x hx, h.ent x hx⟩) h.len (isAt_of htf) (fun x hx => ⟨x, hx, rfl, fun _ h => h⟩)
      ·rename_i htd
       rw [hg]
       obtain ⟨h1, _⟩ := good_leave h hn (by rw [hnk]; exact hf) a.name v hr
       refine key _ h1.up (fun x hx => ⟨h1.data x hx, h1.ent x hx⟩) h1.len ?_ (fun x hx => ?_)
       ·have : findN (putN l { leaveN n a.name with version := v }) a.to = some t := by
         rw [findN_put h.up, if_neg (fun e => htd (e.trans (show n.fid = a.dir from hnk)))]; exact htf
        exact isAt_of this
       ·rcases pmem hx with rfl | hx
        ·exact ⟨n, hn, rfl, fun e hx2 => leaveE_mem hx2⟩
        ·exact ⟨x, hx, rfl, fun _ h => h⟩
    ·cases he
   ·rename_i hro; exact absurd he hro
  ·rename_i hdt; exact absurd he hdt
 ·rename_i hnm; exact absurd he hnm
theorem good_apply {l : List Node} (h : Good l) (a : Act) (v : Int) (he : applyE l a = 0) : Good (applyL l a v) := by
 unfold applyE at he
 unfold applyL
 split at he
 ·rename_i h1; rw [if_pos h1]; exact good_make h a v he
 ·rename_i h1
  rw [if_neg h1]
  split at he
  ·rename_i h2; rw [if_pos h2]; exact good_make h a v he
  ·rename_i h2
   rw [if_neg h2]
   split at he
   ·rename_i h3; rw [if_pos h3]; exact good_store h a v he
   ·rename_i h3
    rw [if_neg h3]
    split at he
    ·rename_i h4; rw [if_pos h4]; exact good_remove h a v he
    ·rename_i h4
     rw [if_neg h4]
     split at he
     ·rename_i h5; rw [if_pos h5]; exact good_rename h a v he
     ·cases he
theorem good_root : Good [⟨0, true, [], [], 0⟩] := ⟨by unfold Up; simp, ⟨fun _ => 0, fun n hn e he => by rw [List.mem_singleton.1 hn] at he; simp at he⟩, by simp, fun n hn => by rw [List.mem_singleton.1 hn]; simp, fun n hn => by rw [List.mem_singleton.1 hn]; simp⟩
theorem Good.small {l : List Node} (h : Good l) : Small l := ⟨by have := h.len; omega, fun n hn => ⟨by have := h.data n hn; omega, by have := h.ent n hn; omega⟩⟩
theorem Good.fit {l : List Node} (h : Good l) {a : Act} (h1 : a.name.length ≤ 100000000) (h2 : a.toName.length ≤ 100000000) (h3 : a.data.length ≤ 100000000) : FitA l a :=
 ⟨h.small, by have := h.len; omega, fun n hn => by have := h.ent n hn; omega, h1, h2, h3⟩
structure ActFit (a : Act) : Prop where
 name : a.name.length ≤ 100000000
 toName : a.toName.length ≤ 100000000
 data : a.data.length ≤ 100000000
theorem apply_good {l : List Node} (h : Good l) (a : Act) (v : Int) (ha : ActFit a) : FnOK Tryz.prog 34 [.sl (l.map ZN), .agg (ZA a), .int .i64 v] [] (fun r _ => r = applyR l a v) := by
 obtain ⟨f, hf⟩ := h.ends a.to a.fid
 exact apply_ok l a v (h.fit ha.name ha.toName ha.data) (fun _ => rename_ok l a v (h.fit ha.name ha.toName ha.data) f hf)
def rootN : Node := ⟨0, true, [], [], 0⟩
end La
namespace La
def fids (a : Act) : List Int := if a.kind = 3 then [a.fid] else if a.kind = 5 then [a.fid, a.dir, a.to] else [a.fid, a.dir]
def Rec.names (r : Rec) (fid : Int) : Bool := (fids r.act).contains fid
def isMade (fid : Int) (r : Rec) : Bool := r.act.fid == fid && (r.act.kind == 1 || r.act.kind == 2)
def touches (a : Act) (dir : Int) (name : List UInt8) : Bool :=
 if a.kind = 1 ∨ a.kind = 2 ∨ a.kind = 4 then a.dir == dir && a.name == name
 else if a.kind = 5 then (a.dir == dir && a.name == name) || (a.to == dir && a.toName == name) else false
def bars (fid dir : Int) (name : List UInt8) (x : Rec) : Bool := (x.act.kind != 3 && x.names fid) || touches x.act dir name
def cancels (l : List Rec) (r : Rec) : Bool :=
 match l.findIdx? (isMade r.act.fid) with
 | none => false
 | some k => r.act.kind == 4 && (l.getD k default).act.dir == r.act.dir && (l.getD k default).act.name == r.act.name && !((l.drop (k + 1)).any (bars r.act.fid (l.getD k default).act.dir (l.getD k default).act.name))
def stored (r x : Rec) : Bool := x.act.kind == 3 && x.act.fid == r.act.fid
def unstored (l : List Rec) (r : Rec) : List Rec := if r.act.kind = 3 then l.filter fun x => !(stored r x) else l
def addLog (l : List Rec) (r : Rec) : Option (List Rec) :=
 if cancels l r then some (l.filter fun x => !(x.names r.act.fid))
 else if (unstored l r).length ≥ 20 then none else some (unstored l r ++ [r])
theorem unstored_sub (l : List Rec) (r : Rec) : (unstored l r).Sublist l := by
 unfold unstored
 split
 ·exact List.filter_sublist
 ·exact List.Sublist.refl _
def addStep (r : Rec) (s : Int) (x : Rec) : Int :=
 if s = 0 then (if isMade r.act.fid x then (if x.act.dir = r.act.dir ∧ x.act.name = r.act.name then 1 else 2) else 0)
 else if s = 1 then (if bars r.act.fid r.act.dir r.act.name x then 2 else 1) else s
theorem addStep_two (r : Rec) : ∀ l : List Rec, l.foldl (addStep r) 2 = 2
 | [] => rfl
 | x :: l => by simp only [List.foldl_cons]; rw [show addStep r 2 x = 2 from by simp [addStep]]; exact addStep_two r l
theorem addStep_one (r : Rec) : ∀ l : List Rec, l.foldl (addStep r) 1 = if l.any (bars r.act.fid r.act.dir r.act.name) then 2 else 1
 | [] => rfl
 | x :: l => by
  simp only [List.foldl_cons, List.any_cons]
  by_cases h : bars r.act.fid r.act.dir r.act.name x = true
  ·rw [show addStep r 1 x = 2 from by simp [addStep, h], addStep_two]; simp [h]
  ·rw [show addStep r 1 x = 1 from by simp [addStep, h], addStep_one]; simp [h]
theorem addStep_cancels (r : Rec) (hk : r.act.kind = 4) : ∀ l : List Rec, (l.foldl (addStep r) 0 == 1) = cancels l r
 | [] => rfl
 | x :: l => by
  have ih := addStep_cancels r hk l
  simp only [List.foldl_cons]
  unfold cancels at ih ⊢
  rw [List.findIdx?_cons]
  by_cases h : isMade r.act.fid x = true
  ·simp only [h, if_true]
   by_cases h2 : x.act.dir = r.act.dir ∧ x.act.name = r.act.name
   ·rw [show addStep r 0 x = 1 from by simp [addStep, h, h2], addStep_one]
    simp only [List.getD_cons_zero, h2.1, h2.2, hk, List.drop_succ_cons, List.drop_zero, Nat.zero_add]
    cases (l.any (bars r.act.fid r.act.dir r.act.name)) <;> simp
   ·rw [show addStep r 0 x = 2 from by simp only [addStep, h, if_true, if_neg h2], addStep_two]
    simp only [List.getD_cons_zero]
    by_cases h3 : x.act.dir = r.act.dir
    ·have h4 : ¬ x.act.name = r.act.name := fun e => h2 ⟨h3, e⟩
     simp [h4]
    ·simp [h3]
  ·rw [show addStep r 0 x = 0 from by simp [addStep, h], ih]
   simp only [h, if_false, Bool.false_eq_true]
   cases e : l.findIdx? (isMade r.act.fid) with
   | none => simp
   | some k => simp
end La
namespace La
open Go Go.Eng Go.Proofs
theorem fids_ok (a : Act) : FnOK Tryz.prog 43 [.agg (ZA a)] [] (fun r _ => r = .sl ((fids a).map ZI)) := by
 unfold ZA
 refine ZF tK (Tryz.func43) rfl (fun C => ?_)
 simp only [Tryz.ntmps43, Tryz.results43, go_sem]
 refine wG tK ?_
 refine wD (fun h => ?_) (fun h => ?_)
 ·refine wG tK ?_
  refine ZZ 9 rfl (rfl) ?_
  simp only [go_sem]
  refine wT ?_
  simp [go_sem, fids, ZI, eq_of_beq h]
 ·refine wG tK ?_
  have h1 : a.kind ≠ 3 := by simpa using h
  refine wD (fun h => ?_) (fun h => ?_)
  ·refine wG tK ?_
   refine ZZ 18 rfl (rfl) ?_
   simp only [go_sem]
   refine wT ?_
   have h2 : a.kind = 5 := by simpa using h
   simp [go_sem, fids, ZI, h2]
  ·refine wG tK ?_
   refine ZZ 23 rfl (rfl) ?_
   simp only [go_sem]
   refine wT ?_
   have h2 : a.kind ≠ 5 := by simpa using h
   simp [go_sem, fids, ZI, h1, h2]
theorem fids_len (a : Act) : (fids a).length ≤ 3 := by
 unfold fids
 split
 ·simp
 ·split <;> simp
theorem index_ok (l : List Int) (hlen : l.length ≤ 100000000) (v : Int) : FnOK Tryz.prog 72 [.sl (l.map ZI), .int .i64 v] [] (fun r _ => r = .int .i64 (idxI (l.findIdx? (v == ·)))) := by
 refine ZF tK (Tryz.func72) rfl (fun C => ?_)
 simp only [Tryz.ntmps72, Tryz.results72, go_sem]
 refine wG tK ?_
 refine ZL (fun i : Nat => i ≤ l.length ∧ ∀ x, x ∈ l.take i → (v == x) = false) (fun i => l.length - i) (fun i => [(8, .int .i64 i), (5, .any), (9, .any), (10, .any), (11, .any), (12, .any), (13, .any), (14, .any), (15, .any), (16, .any), (17, .any), (18, .any)]) (fun _ => []) 0 ⟨by omega, by simp⟩ ?_ fun i hi => ?_
 ·simp only [go_sem]
  exact ZU (by simp [go_sem]) (by simp [go_sem]) (by simp only [go_sem])
 obtain ⟨hi, hno⟩ := hi
 simp only [go_sem]
 refine wG tK ?_
 refine wD (fun h => ?_) (fun h => ?_)
 ·have hlt : i < l.length := by simp at h; omega
  have hg : (l.map ZI).getD i [] = ZI (l.getD i default) := Fam.getD hlt
  have htk := ZT hlt
  have hgi : l[i]? = some (l.getD i default) := by rw [List.getD_eq_getElem?_getD, List.getElem?_eq_getElem hlt]; rfl
  generalize l.getD i default = n at hg htk hgi
  refine wGq tK ?_ ?_ (by simp only [go_sem, hg, ZI]; try exact rfl)
  ·simp [hlt]
  refine wD (fun h => ?_) (fun h => ?_)
  ·refine wG tK ?_
   refine wT ?_
   rw [findIdx_at hgi hno h]; rfl
  ·have hw : IntKind.i64.wrap ((i : Int) + 1) = (i : Int) + 1 := wrap_small (by omega) (by omega)
   refine wG tK ?_ (by simp only [go_sem, hw]; try exact rfl) (by simp [go_sem, hw])
   refine ZB ⟨i + 1, ⟨by omega, ?_⟩, by omega, ZU ?_ ?_ ?_⟩
   ·rw [htk]
    intro x hx
    rcases List.mem_append.1 hx with hx | hx
    ·exact hno x hx
    ·rw [List.mem_singleton.1 hx]; exact h
   ·simp [go_sem]
   ·simp [go_sem]
   ·simp only [go_sem]
 ·have e : i = l.length := by simp at h; omega
  refine wG tK ?_
  refine wT ?_
  rw [e, List.take_length] at hno
  rw [List.findIdx?_eq_none_iff.2 hno]; rfl
theorem contains_ok (l : List Int) (hlen : l.length ≤ 100000000) (v : Int) : FnOK Tryz.prog 48 [.sl (l.map ZI), .int .i64 v] [] (fun r _ => r = .bool (l.contains v)) := by
 refine ZF tK (Tryz.func48) rfl (fun C => ?_)
 simp only [Tryz.ntmps48, Tryz.results48, go_sem]
 refine wG tK ?_
 refine wC Tryz.func72 (hf := (index_ok l hlen v)) (hk := ?_)
 refine wG tK ?_
 refine wT ?_
 rw [idxI_any, List.contains_eq_any_beq]
theorem cond_and (a b : Bool) : (bif a then b else false) = (a && b) := by cases a <;> rfl
theorem cond_or (a b : Bool) : (bif a then true else b) = (a || b) := by cases a <;> rfl
def Act.Small (a : Act) : Prop := a.data.length ≤ 100000000
structure SmallL (l : List Rec) : Prop where
 len : l.length ≤ 100000000
 each : ∀ r, r ∈ l → r.act.Small
theorem acts_own (a : Act) (ha : a.Small) : FnOK Tryz.prog 35 [.agg (ZA a)] [] (fun r _ => r = .agg (ZA a)) := by
 unfold ZA
 refine ZF tK (Tryz.func35) rfl (fun C => ?_)
 simp only [Tryz.ntmps35, Tryz.results35, go_sem]
 refine wG tK ?_
 refine wC Tryz.func57 (hf := (clone_bytes _ ha)) (hk := ?_)
 refine wG tK ?_
 refine wT ?_
 rfl
theorem logs_ownH (l : List Rec) (hl : SmallL l) : FnOK Tryz.prog 46 [.sl (l.map ZR)] [] (fun r H => r = .osl 19 9 0 (l.map ZR).length ∧ ∀ i b, hget [(19, .cells 56 9 (l.map ZR))] i = some b → hget H i = some b) := by
 have hlen := hl.len
 refine ZF tK (Tryz.func46) rfl (fun C => ?_)
 simp only [Tryz.ntmps46, Tryz.results46, go_sem]
 refine wG tK ?_
 refine ZL (fun i : Nat => i ≤ l.length) (fun i => l.length - i) (fun i => [(3, .osl 19 9 0 i), (5, .any), (8, .int .i64 i), (9, .any), (10, .any), (11, .any), (12, .any), (13, .any), (14, .any), (15, .any), (16, .any), (17, .any), (18, .any), (19, .any), (20, .any)])
  (fun i => [(19, .cells 56 9 ((l.take i).map ZR))]) 0 (by omega) ?_ fun i hi => ?_
 ·simp only [go_sem]
  exact ZU (by simp [go_sem]) (by simp [go_sem]) (by simp only [go_sem])
 simp only [go_sem]
 refine wG tK ?_
 refine wD (fun h => ?_) (fun h => ?_)
 ·have hlt : i < l.length := by simp at h; omega
  have hn := hl.each _ (YG hlt)
  have hg : (l.map ZR).getD i [] = ZR (l.getD i default) := Fam.getD hlt
  have hs := take_succ_map ZR hlt
  generalize l.getD i default = n at hn hg hs
  refine wGq tK ?_ ?_ (by simp only [go_sem, hg, ZR]; try exact rfl)
  ·simp [hlt, ZR]
  refine wC Tryz.func35 (hf := (acts_own n.act hn)) (hk := ?_)
  have ht : List.take i (List.map ZR (List.take i l)) = List.map ZR (List.take i l) := List.take_of_length_le (by simp; omega)
  have hw : IntKind.i64.wrap ((i : Int) + 1) = (i : Int) + 1 := wrap_small (by omega) (by omega)
  refine wGq tK ?_ ?_ (by simp only [go_sem, ht, hw, ZA]; try exact rfl)
  ·simp [rowsOf]; omega
  refine ZB ⟨i + 1, by omega, by omega, ZU ?_ ?_ ?_⟩
  ·simp [go_sem]
  ·simp [go_sem, hs, ZR]
  ·simp only [go_sem]
 ·have e : i = l.length := by simp at h; omega
  subst e
  refine wG tK ?_
  refine wT ?_
  simp [go_sem]
theorem logs_own (l : List Rec) (hl : SmallL l) : FnOK Tryz.prog 46 [.sl (l.map ZR)] [] (fun r _ => r = .sl (l.map ZR)) := FnOK.read (logs_ownH l hl) (recRow_pure _)
structure Srv where
 tree : List Node
 next : Int
 past : List Past
def ZQ (s : Srv) : List AV := [.sl (s.tree.map ZN), .int .i64 s.next, .sl (s.past.map ZP)]
@[go_sem, simp] theorem srvRow_refsL (s : Srv) : refsL (ZQ s) = [] := rfl
theorem version_ok (s : Srv) (h : s.past.length ≤ 100000000) : FnOK Tryz.prog 14 [.agg (ZQ s)] [] (fun r _ => r = .int .i64 ((s.past.length + 1 : Nat) : Int)) := by
 have hw : IntKind.i64.wrap ((s.past.length : Int) + 1) = ((s.past.length + 1 : Nat) : Int) := by rw [Eng.wrap_small (by omega) (by omega)]; rfl
 unfold ZQ
 refine ZF tK (Tryz.func14) rfl (fun C => ?_)
 simp only [Tryz.ntmps14, Tryz.results14, go_sem]
 refine wG tK ?_ (by simp only [go_sem, hw]; try exact rfl) (by simp [go_sem, hw])
 refine wT ?_
 rfl
structure SmallP (l : List Past) : Prop where
 len : l.length ≤ 90000000
 each : ∀ p, p ∈ l → p.act.data.length ≤ 100000000
theorem sown_ok (s : Srv) (ht : Small s.tree) (hp : SmallP s.past) : FnOK Tryz.prog 13 [.agg (ZQ s)] [] (fun r _ => r = .agg (ZQ s)) := by
 have hlen := hp.len
 unfold ZQ
 refine ZF tK (Tryz.func13) rfl (fun C => ?_)
 simp only [Tryz.ntmps13, Tryz.results13, go_sem]
 refine wG tK ?_
 refine ZZ 1 rfl (rfl) ?_
 simp only [go_sem]
 refine ZW ZM ?_
 refine ZS rfl ?_
 refine sN tK 2 ?_
 refine sC Tryz.func38 (hf := (own_ok s.tree ht)) (hk := ?_)
 refine sN tK 2 ?_
 refine sB tK ?_
 refine sW tK ?_
 refine sE ?_
 refine dS tK ?_
 refine wKd ?_
 try simp only [go_sem, gA, gB, gC]
 refine wG tK ?_
 refine cw_le (le_nilB 28 8 3 (by simp only [go_sem]; try exact rfl) (by simp only [go_sem]; try exact rfl)) ?_
 refine cw_le (le_empty 28 88 8 (by simp only [go_sem]; try exact rfl)) ?_
 simp only [go_sem]
 refine ZL (fun i : Nat => i ≤ s.past.length) (fun i => s.past.length - i) (fun i => [(5, .any), (15, .int .i64 i), (16, .any), (17, .any), (18, .any), (19, .any), (20, .any), (21, .any), (22, .any), (23, .any), (24, .any), (25, .any), (26, .any), (27, .any), (28, .any), (29, .any), (30, .any)])
  (fun i => [(3, .cells 31 3 [[.sl (s.tree.map ZN), .int .i64 s.next, .osl 28 8 0 i]]), (28, .cells 88 8 ((s.past.take i).map ZP))]) 0 (by omega) ?_ fun i hi => ?_
 ·simp only [go_sem]
  exact ZU (by simp [go_sem]) (by simp [go_sem]) (by simp only [go_sem])
 simp only [go_sem]
 refine wG tK ?_
 refine wD (fun h => ?_) (fun h => ?_)
 ·have hlt : i < s.past.length := by simp at h; omega
  have hw := wi1 (i := i) (by omega)
  have hg : (s.past.map ZP).getD i [] = ZP (s.past.getD i default) := Fam.getD hlt
  have hs := take_succ_map ZP hlt
  have ha := hp.each _ (YG hlt)
  generalize s.past.getD i default = x at *
  refine wGq tK ?_ ?_ (by simp only [go_sem, hg, ZP]; try exact rfl)
  ·simp [hg, ZP, hlt]
  refine ZZ 5 rfl (rfl) ?_
  simp only [go_sem]
  refine ZW ZM ?_
  refine ZS rfl ?_
  refine sN tK 6 ?_
  refine sC Tryz.func35 (hf := (acts_own x.act ha)) (hk := ?_)
  simp only [go_sem, ZA]
  refine sB tK ?_
  refine sW tK ?_
  refine sE ?_
  refine draw_le (le_killB 28 3 (by simp only [go_sem]; exact rfl) (by simp only [go_sem, kill]; exact rfl)) ?_
  simp only [go_sem]
  refine dSq tK ?_ ?_
  ·simp [go_sem, rowsOf]
   refine ⟨by omega, by omega, fun x hx y hy hr => ?_⟩
   have h1 := List.mem_of_mem_take (List.mem_of_mem_take hx)
   have := List.all_eq_true.1 (List.all_eq_true.1 (pastRow_noRef 28 s.past) x h1) y hy
   simp only [Bool.not_eq_true', List.contains_eq_mem, decide_eq_false_iff_not] at this
   exact this hr
  simp only [go_sem]
  refine dS tK ?_
  refine dS tK ?_
  refine wKd ?_
  try simp only [go_sem, gA, gB, gC]
  refine wG tK ?_ (by simp only [go_sem, hw]; try exact rfl) (by simp [go_sem, hw])
  refine ZB ⟨i + 1, by omega, by omega, ZU ?_ ?_ ?_⟩
  ·simp [go_sem]
  ·simp [go_sem, hs, ZP, List.take_take]
  ·simp only [go_sem]
 ·have e : i = s.past.length := by simp at h; omega
  subst e
  refine wG tK ?_
  refine ZZ 28 rfl (pastRow_pure _) ?_
  simp only [go_sem]
  refine wT ?_
  simp
theorem sown_okH (s : Srv) (ht : Small s.tree) (hp : SmallP s.past) : FnOK Tryz.prog 13 [.agg (ZQ s)] [] (fun r H => r = .agg [.sl (s.tree.map ZN), .int .i64 s.next, .osl 28 8 0 s.past.length] ∧ ∀ i b, hget [(28, .cells 88 8 (s.past.map ZP))] i = some b → hget H i = some b) := by
 have hlen := hp.len
 unfold ZQ
 refine ZF tK (Tryz.func13) rfl (fun C => ?_)
 simp only [Tryz.ntmps13, Tryz.results13, go_sem]
 refine wG tK ?_
 refine ZZ 1 rfl (rfl) ?_
 simp only [go_sem]
 refine ZW ZM ?_
 refine ZS rfl ?_
 refine sN tK 2 ?_
 refine sC Tryz.func38 (hf := (own_ok s.tree ht)) (hk := ?_)
 refine sN tK 2 ?_
 refine sB tK ?_
 refine sW tK ?_
 refine sE ?_
 refine dS tK ?_
 refine wKd ?_
 try simp only [go_sem, gA, gB, gC]
 refine wG tK ?_
 refine cw_le (le_nilB 28 8 3 (by simp only [go_sem]; try exact rfl) (by simp only [go_sem]; try exact rfl)) ?_
 refine cw_le (le_empty 28 88 8 (by simp only [go_sem]; try exact rfl)) ?_
 simp only [go_sem]
 refine ZL (fun i : Nat => i ≤ s.past.length) (fun i => s.past.length - i) (fun i => [(5, .any), (15, .int .i64 i), (16, .any), (17, .any), (18, .any), (19, .any), (20, .any), (21, .any), (22, .any), (23, .any), (24, .any), (25, .any), (26, .any), (27, .any), (28, .any), (29, .any), (30, .any)])
  (fun i => [(3, .cells 31 3 [[.sl (s.tree.map ZN), .int .i64 s.next, .osl 28 8 0 i]]), (28, .cells 88 8 ((s.past.take i).map ZP))]) 0 (by omega) ?_ fun i hi => ?_
 ·simp only [go_sem]
  exact ZU (by simp [go_sem]) (by simp [go_sem]) (by simp only [go_sem])
 simp only [go_sem]
 refine wG tK ?_
 refine wD (fun h => ?_) (fun h => ?_)
 ·have hlt : i < s.past.length := by simp at h; omega
  have hw := wi1 (i := i) (by omega)
  have hg : (s.past.map ZP).getD i [] = ZP (s.past.getD i default) := Fam.getD hlt
  have hs := take_succ_map ZP hlt
  have ha := hp.each _ (YG hlt)
  generalize s.past.getD i default = x at *
  refine wGq tK ?_ ?_ (by simp only [go_sem, hg, ZP]; try exact rfl)
  ·simp [hg, ZP, hlt]
  refine ZZ 5 rfl (rfl) ?_
  simp only [go_sem]
  refine ZW ZM ?_
  refine ZS rfl ?_
  refine sN tK 6 ?_
  refine sC Tryz.func35 (hf := (acts_own x.act ha)) (hk := ?_)
  simp only [go_sem, ZA]
  refine sB tK ?_
  refine sW tK ?_
  refine sE ?_
  refine draw_le (le_killB 28 3 (by simp only [go_sem]; exact rfl) (by simp only [go_sem, kill]; exact rfl)) ?_
  simp only [go_sem]
  refine dSq tK ?_ ?_
  ·simp [go_sem, rowsOf]
   refine ⟨by omega, by omega, fun x hx y hy hr => ?_⟩
   have h1 := List.mem_of_mem_take (List.mem_of_mem_take hx)
   have := List.all_eq_true.1 (List.all_eq_true.1 (pastRow_noRef 28 s.past) x h1) y hy
   simp only [Bool.not_eq_true', List.contains_eq_mem, decide_eq_false_iff_not] at this
   exact this hr
  simp only [go_sem]
  refine dS tK ?_
  refine dS tK ?_
  refine wKd ?_
  try simp only [go_sem, gA, gB, gC]
  refine wG tK ?_ (by simp only [go_sem, hw]; try exact rfl) (by simp [go_sem, hw])
  refine ZB ⟨i + 1, by omega, by omega, ZU ?_ ?_ ?_⟩
  ·simp [go_sem]
  ·simp [go_sem, hs, ZP, List.take_take]
  ·simp only [go_sem]
 ·have e : i = s.past.length := by simp at h; omega
  subst e
  refine wG tK ?_
  refine wT ?_
  simp [go_sem]
def madeB (a : Act) : Bool := a.kind == 1 || a.kind == 2
def doA (s : Srv) (a : Act) : Act := if madeB a then { a with fid := s.next } else a
noncomputable def doE (s : Srv) (a : Act) : Int := applyE s.tree (doA s a)
noncomputable def doS (s : Srv) (c : Int) (a : Act) : Srv := ⟨applyL s.tree (doA s a) ((s.past.length + 1 : Nat) : Int), if madeB a then s.next + 1 else s.next, s.past ++ [⟨c, doA s a⟩]⟩
structure SmallK (l : List Kept) : Prop where
 len : l.length ≤ 100000000
 each : ∀ k, k ∈ l → k.node.Small
def kplace (l : List Kept) (fid : Int) : Option Nat := l.findIdx? fun k => k.node.fid == fid
def hasK (l : List Kept) (fid : Int) : Bool := l.any fun k => k.node.fid == fid
def staleK (at_ : List Node) (k : Kept) : Bool := !k.dirty && (!isAt at_ k.node.fid || !(((findN at_ k.node.fid).getD zeroN).version == k.node.version))
def mapUpto (f : Nat → Int) (g : Nat → AV) : Nat → List (Int × AV)
 | 0 => []
 | i + 1 => mput (mapUpto f g i) (f i) (g i)
theorem mapUpto_rise (f : Nat → Int) (g : Nat → AV) : ∀ i, (mapUpto f g i).Pairwise fun a b => a.1 < b.1
 | 0 => List.Pairwise.nil
 | i + 1 => mput_rise (mapUpto_rise f g i)
theorem mapUpto_none {f : Nat → Int} {g : Nat → AV} {k : Int} : ∀ {i}, (∀ j, j < i → f j ≠ k) → mget (mapUpto f g i) k = none
 | 0, _ => rfl
 | i + 1, h => by
  rw [mapUpto, mget_mput (mapUpto_rise f g i), if_neg (fun e => h i (by omega) e.symm)]
  exact mapUpto_none fun j hj => h j (by omega)
theorem mapUpto_some {f : Nat → Int} {g : Nat → AV} {k : Int} : ∀ {i j}, j < i → f j = k → (∀ m, j < m → m < i → f m ≠ k) → mget (mapUpto f g i) k = some (g j)
 | 0, _, h, _, _ => by omega
 | i + 1, j, h, he, hl => by
  rw [mapUpto, mget_mput (mapUpto_rise f g i)]
  by_cases hj : j = i
  ·subst hj; rw [if_pos he.symm]
  ·rw [if_neg (fun e => hl i (by omega) (by omega) e.symm)]
   exact mapUpto_some (by omega) he fun m h1 h2 => hl m h1 (by omega)
def fidK (l : List Kept) (i : Nat) : Int := (l.getD i default).node.fid
def UnlikeN (l : List Kept) (n : Nat) : Prop := ∀ i, i < n → ∀ j, j < i → fidK l j ≠ fidK l i
instance (l : List Kept) (n : Nat) : Decidable (UnlikeN l n) := by unfold UnlikeN; infer_instance
def fidN (l : List Node) (i : Nat) : Int := (l.getD i default).fid
def mapUN (l : List Node) (i : Nat) : List (Int × AV) := mapUpto (fidN l) (fun i => .agg (ZN (l.getD i default))) i
def mapN (l : List Node) : List (Int × AV) := mapUN l l.length
theorem mapN_get {l : List Node} (h : Up l) (k : Int) : mget (mapN l) k = (findN l k).map fun n => .agg (ZN n) := by
 unfold mapN mapUN
 cases e : findN l k with
 | none =>
  have hn := (findN_none h).1 e
  exact mapUpto_none fun j hj => hn _ (YG hj)
 | some n =>
  obtain ⟨hm, hf⟩ := (ZO h).1 e
  obtain ⟨j, hj⟩ := List.getElem?_of_mem hm
  have hjl : j < l.length := (List.getElem?_eq_some_iff.1 hj).1
  have hjd := getD_of hj
  rw [mapUpto_some (j := j) hjl (by unfold fidN; rw [hjd]; exact hf) fun m h1 h2 h3 => by
   have := h.lt h1 h2
   unfold fidN at h3
   rw [hjd, hf, h3] at this
   omega]
  simp only [Option.map_some, hjd]
theorem mget_map {α β : Type} (g : α → β) : ∀ (m : List (Int × α)) (f : Int), mget (m.map fun p => (p.1, g p.2)) f = (mget m f).map g
 | [], _ => rfl
 | p :: r, f => by
  simp only [List.map_cons, mget, mget_map g r f]
  split <;> rfl
theorem mput_map {α β : Type} (g : α → β) : ∀ (m : List (Int × α)) (f : Int) (v : α), mput (m.map fun p => (p.1, g p.2)) f (g v) = (mput m f v).map fun p => (p.1, g p.2)
 | [], _, _ => rfl
 | p :: r, f, v => by
  simp only [List.map_cons, mput, mput_map g r f v]
  split
  ·rfl
  ·split <;> rfl
theorem mdel_map {α β : Type} (g : α → β) (m : List (Int × α)) (f : Int) : mdel (m.map fun p => (p.1, g p.2)) f = (mdel m f).map fun p => (p.1, g p.2) := by
 unfold mdel; rw [List.filter_map]; rfl
def mI (m : List (Int × Int)) : List (Int × AV) := m.map fun p => (p.1, .int .i64 p.2)
def mB (m : List (Int × Bool)) : List (Int × AV) := m.map fun p => (p.1, .bool p.2)
def getB (m : List (Int × Bool)) (f : Int) : Bool := (mget m f).getD false
def getI (m : List (Int × Int)) (f : Int) : Int := (mget m f).getD 0
def hasI (m : List (Int × Int)) (f : Int) : Bool := (mget m f).isSome
@[go_sem] theorem mI_get (m : List (Int × Int)) (f : Int) : (mget (mI m) f).getD (.int .i64 0) = .int .i64 (getI m f) := by
 unfold mI getI; rw [mget_map (fun x => AV.int .i64 x)]; cases mget m f <;> rfl
@[go_sem] theorem mI_has (m : List (Int × Int)) (f : Int) : (mget (mI m) f).isSome = hasI m f := by
 unfold mI hasI; rw [mget_map (fun x => AV.int .i64 x)]; cases mget m f <;> rfl
@[go_sem] theorem mI_put (m : List (Int × Int)) (f x : Int) : mput (mI m) f (.int .i64 x) = mI (mput m f x) := mput_map (fun x => AV.int .i64 x) m f x
@[go_sem] theorem mI_del (m : List (Int × Int)) (f : Int) : mdel (mI m) f = mI (mdel m f) := mdel_map (fun x => AV.int .i64 x) m f
@[go_sem] theorem mB_get (m : List (Int × Bool)) (f : Int) : (mget (mB m) f).getD (.bool false) = .bool (getB m f) := by
 unfold mB getB; rw [mget_map AV.bool]; cases mget m f <;> rfl
@[go_sem] theorem mB_put (m : List (Int × Bool)) (f : Int) (x : Bool) : mput (mB m) f (.bool x) = mB (mput m f x) := mput_map AV.bool m f x
def mN (m : List (Int × Node)) : List (Int × AV) := m.map fun p => (p.1, .agg (ZN p.2))
theorem mN_get (m : List (Int × Node)) (k : Int) : mget (mN m) k = (mget m k).map fun n => .agg (ZN n) := mget_map (fun n => AV.agg (ZN n)) m k
theorem mN_put (m : List (Int × Node)) (k : Int) (n : Node) : mput (mN m) k (.agg (ZN n)) = mN (mput m k n) := mput_map (fun n => AV.agg (ZN n)) m k n
def RiseM {α : Type} (m : List (Int × α)) : Prop := m.Pairwise fun a b => a.1 < b.1
theorem getB_put {m : List (Int × Bool)} (h : RiseM m) (f : Int) (b : Bool) (x : Int) : getB (mput m f b) x = if x = f then b else getB m x := by
 unfold getB; rw [mget_mput h]; split <;> rfl
structure JS where
 l : List Node
 next : Int
 version : Int
 own : List (Int × Int)
 ours : List (Int × Bool)
 lost : List (Int × Bool)
def atF (m : List (Int × Int)) (f : Int) : Int := if hasI m f = true then getI m f else f
def restsB (j : JS) (a : Act) : Bool := (fids a).any (getB j.lost)
def staleB (j : JS) (r : Rec) (a : Act) : Bool :=
 if ((a.kind ≠ 3 ∧ a.kind ≠ 4) ∨ r.version < 0) ∨ getB j.ours a.fid = true then false
 else match findN j.l a.fid with
  | none => true
  | some n => n.version != r.version
def own1 (j : JS) (r : Rec) : List (Int × Int) := if madeB r.act = true then mput j.own r.act.fid j.next else j.own
def actJ (j : JS) (r : Rec) : Act := { r.act with fid := atF (own1 j r) r.act.fid, dir := atF (own1 j r) r.act.dir, to := if r.act.kind = 5 then atF (own1 j r) r.act.to else r.act.to }
noncomputable def oneE (j : JS) (r : Rec) : Int :=
 if restsB j r.act = true then 14
 else if madeB r.act = true ∧ (hasI j.own r.act.fid = true ∨ r.act.fid ≥ 0) then 2
 else if staleB { j with own := own1 j r } r (actJ j r) = true then 13
 else applyE j.l (actJ j r)
noncomputable def oneJ (j : JS) (r : Rec) : JS :=
 if restsB j r.act = true then j
 else if madeB r.act = true ∧ (hasI j.own r.act.fid = true ∨ r.act.fid ≥ 0) then j
 else if staleB { j with own := own1 j r } r (actJ j r) = true then { j with own := own1 j r }
 else if applyE j.l (actJ j r) ≠ 0 then { j with own := if madeB r.act = true then mdel (own1 j r) r.act.fid else own1 j r }
 else { j with l := applyL j.l (actJ j r) j.version, next := if madeB r.act = true then j.next + 1 else j.next, version := j.version + 1, own := own1 j r }
def oneA (j : JS) (r : Rec) : Act :=
 if restsB j r.act = true then r.act
 else if madeB r.act = true ∧ (hasI j.own r.act.fid = true ∨ r.act.fid ≥ 0) then r.act
 else actJ j r
noncomputable def oneV (j : JS) (r : Rec) : Verdict := ⟨oneE j r, if oneE j r = 0 then (actJ j r).fid else 0⟩
structure JG where
 j : JS
 vs : List Verdict
 done : List Act
def lose (j : JS) (f : Int) : JS := { j with lost := mput j.lost f true }
def oursP (m : List (Int × Bool)) (l : List Int) : List (Int × Bool) := l.foldl (fun m f => mput m f true) m
noncomputable def stepJ (s : JG) (r : Rec) : JG :=
 if oneE s.j r = 0 then ⟨{ oneJ s.j r with ours := oursP (oneJ s.j r).ours (fids (oneA s.j r)) }, s.vs ++ [oneV s.j r], s.done ++ [oneA s.j r]⟩
 else ⟨lose (oneJ s.j r) r.act.fid, s.vs ++ [oneV s.j r], s.done⟩
def startJ (l : List Node) (next version : Int) : JG := ⟨⟨l, next, version, [], [], []⟩, [], []⟩
noncomputable def judgeJ (l : List Node) (next version : Int) (log : List Rec) : JG := log.foldl stepJ (startJ l next version)
noncomputable def takeS (s : Srv) (c : Int) (log : List Rec) : Srv :=
 ⟨(judgeJ s.tree s.next ((s.past.length + 1 : Nat) : Int) log).j.l, (judgeJ s.tree s.next ((s.past.length + 1 : Nat) : Int) log).j.next, s.past ++ (judgeJ s.tree s.next ((s.past.length + 1 : Nat) : Int) log).done.map fun a => ⟨c, a⟩⟩
inductive Hist : List Past → List Node → Prop
 | nil : Hist [] [rootN]
 | snoc {p : List Past} {t : List Node} (c : Int) (a : Act) (h : Hist p t) (ha : ActFit a) (he : applyE t a = 0) : Hist (p ++ [⟨c, a⟩]) (applyL t a ((p.length + 1 : Nat) : Int))
theorem Hist.good {p : List Past} {t : List Node} (h : Hist p t) : Good t := by
 induction h with
 | nil => exact good_root
 | snoc c a h ha he ih => exact good_apply ih _ _ he
theorem Hist.st {p : List Past} {t : List Node} (h : Hist p t) : ∃ st : Nat → List Node, st 0 = [rootN] ∧ st p.length = t ∧
  ∀ i, i < p.length → Good (st i) ∧ ActFit (p.getD i default).act ∧ applyE (st i) (p.getD i default).act = 0 ∧ st (i + 1) = applyL (st i) (p.getD i default).act ((i + 1 : Nat) : Int) := by
 induction h with
 | nil => exact ⟨fun _ => [rootN], rfl, rfl, fun i hi => by simp at hi⟩
 | @snoc p t c a h ha he ih =>
  obtain ⟨st, h0, h1, h2⟩ := ih
  refine ⟨fun i => if i ≤ p.length then st i else applyL t a ((p.length + 1 : Nat) : Int), ?_, ?_, fun i hi => ?_⟩
  ·simp [h0]
  ·show (if (p ++ [(⟨c, a⟩ : Past)]).length ≤ p.length then _ else _) = _
   rw [if_neg (by simp)]
  ·have hl : (p ++ [(⟨c, a⟩ : Past)]).length = p.length + 1 := by simp
   rw [hl] at hi
   by_cases e : i < p.length
   ·have hg : (p ++ [(⟨c, a⟩ : Past)]).getD i default = p.getD i default := by
     rw [List.getD_eq_getElem?_getD, List.getElem?_append_left e, List.getD_eq_getElem?_getD]
    rw [hg]
    simp only [show i ≤ p.length by omega, if_true, show i + 1 ≤ p.length by omega]
    exact h2 i e
   ·have e2 : i = p.length := by omega
    subst e2
    have hg : (p ++ [(⟨c, a⟩ : Past)]).getD p.length default = ⟨c, a⟩ := by
     rw [List.getD_eq_getElem?_getD, List.getElem?_append_right (Nat.le_refl _)]; simp
    rw [hg]
    simp only [Nat.le_refl, if_true, show ¬ p.length + 1 ≤ p.length by omega, if_false, h1]
    exact ⟨h.good, ha, he, trivial⟩
theorem actJ_fit {j : JS} {r : Rec} (h : ActFit r.act) : ActFit (actJ j r) := ⟨h.name, h.toName, h.data⟩
structure JInv (p : List Past) (c : Int) (k : Nat) (n0 : Int) (s : JG) : Prop where
 hist : Hist (p ++ s.done.map fun a => ⟨c, a⟩) s.j.l
 version : s.j.version = ((p.length + s.done.length + 1 : Nat) : Int)
 len : s.done.length ≤ k
 vlen : s.vs.length = k
 next : n0 ≤ s.j.next ∧ s.j.next ≤ n0 + k
theorem JInv.step {p : List Past} {c : Int} {k : Nat} {n0 : Int} {s : JG} (h : JInv p c k n0 s) {r : Rec} (hr : ActFit r.act) : JInv p c (k + 1) n0 (stepJ s r) := by
 unfold stepJ
 have h1 := h.next
 have h2 := h.len
 have h3 := h.vlen
 by_cases he : oneE s.j r = 0
 ·rw [if_pos he]
  unfold oneE at he
  split at he
  ·omega
  ·rename_i c1
   split at he
   ·omega
   ·rename_i c2
    split at he
    ·omega
    ·rename_i c3
     have hJ : oneJ s.j r = { s.j with l := applyL s.j.l (actJ s.j r) s.j.version, next := if madeB r.act = true then s.j.next + 1 else s.j.next, version := s.j.version + 1, own := own1 s.j r } := by
      unfold oneJ; rw [if_neg c1, if_neg c2, if_neg c3, if_neg (by simp [he])]
     have hA : oneA s.j r = actJ s.j r := by unfold oneA; rw [if_neg c1, if_neg c2]
     rw [hJ, hA]
     refine ⟨?_, ?_, ?_, ?_, ?_⟩
     ·have := Hist.snoc c (actJ s.j r) h.hist (actJ_fit hr) he
      rw [List.length_append, List.length_map, ← h.version] at this
      simpa using this
     ·have := h.version
      simp only [List.length_append, List.length_cons, List.length_nil]
      omega
     ·simp only [List.length_append, List.length_cons, List.length_nil]; omega
     ·simp only [List.length_append, List.length_cons, List.length_nil]; omega
     ·simp only
      split <;> omega
 ·rw [if_neg he]
  have hJ : (oneJ s.j r).l = s.j.l ∧ (oneJ s.j r).next = s.j.next ∧ (oneJ s.j r).version = s.j.version := by
   unfold oneJ
   unfold oneE at he
   split
   ·exact ⟨rfl, rfl, rfl⟩
   ·rename_i c1
    rw [if_neg c1] at he
    split
    ·exact ⟨rfl, rfl, rfl⟩
    ·rename_i c2
     rw [if_neg c2] at he
     split
     ·exact ⟨rfl, rfl, rfl⟩
     ·rename_i c3
      rw [if_neg c3] at he
      rw [if_pos he]
      exact ⟨rfl, rfl, rfl⟩
  obtain ⟨j1, j2, j3⟩ := hJ
  refine ⟨?_, ?_, ?_, ?_, ?_⟩
  ·show Hist _ (oneJ s.j r).l
   rw [j1]; exact h.hist
  ·show (oneJ s.j r).version = _
   rw [j3]; exact h.version
  ·show s.done.length ≤ k + 1; omega
  ·simp only [List.length_append, List.length_cons, List.length_nil]; omega
  ·show n0 ≤ (oneJ s.j r).next ∧ (oneJ s.j r).next ≤ n0 + ((k + 1 : Nat) : Int)
   rw [j2]; omega
theorem JInv.start {p : List Past} {t : List Node} (h : Hist p t) (c n0 : Int) : JInv p c 0 n0 (startJ t n0 ((p.length + 1 : Nat) : Int)) :=
 ⟨by simpa [startJ] using h, by simp [startJ], by simp [startJ], by simp [startJ], by simp [startJ]⟩
theorem JInv.judge {p : List Past} {t : List Node} (h : Hist p t) (c n0 : Int) (log : List Rec) (hl : ∀ r, r ∈ log → ActFit r.act) : JInv p c log.length n0 (judgeJ t n0 ((p.length + 1 : Nat) : Int) log) := by
 have key : ∀ (l : List Rec) (k : Nat) (s : JG), (∀ r, r ∈ l → ActFit r.act) → JInv p c k n0 s → JInv p c (k + l.length) n0 (l.foldl stepJ s) := fun l => by
  induction l with
  | nil => exact fun k s _ h => h
  | cons r l ih =>
   intro k s hl h
   have := ih (k + 1) (stepJ s r) (fun x hx => hl x (List.mem_cons_of_mem _ hx)) (h.step (hl r List.mem_cons_self))
   rw [List.foldl_cons, List.length_cons, show k + (l.length + 1) = k + 1 + l.length by omega]
   exact this
 have := key log 0 _ hl (JInv.start h c n0)
 rwa [Nat.zero_add] at this
structure SrvOK (k : Nat) (s : Srv) : Prop where
 hist : Hist s.past s.tree
 len : s.past.length ≤ k
 next : 1 ≤ s.next ∧ s.next ≤ 1 + k
theorem SrvOK.new : SrvOK 0 ⟨[rootN], 1, []⟩ := ⟨.nil, by simp, by simp⟩
theorem SrvOK.mono {k m : Nat} {s : Srv} (h : SrvOK k s) (hk : k ≤ m) : SrvOK m s := ⟨h.hist, by have := h.len; omega, by have := h.next; omega⟩
theorem SrvOK.step {k : Nat} {s : Srv} (h : SrvOK k s) (c : Int) {a : Act} (ha : ActFit a) (he : doE s a = 0) : SrvOK (k + 1) (doS s c a) := by
 have h1 := h.len
 have h2 := h.next
 have hf : ActFit (doA s a) := by unfold doA; split; exact ⟨ha.name, ha.toName, ha.data⟩; exact ha
 refine ⟨Hist.snoc c _ h.hist hf he, by simp [doS]; omega, ?_⟩
 show 1 ≤ (if madeB a = true then s.next + 1 else s.next) ∧ (if madeB a = true then s.next + 1 else s.next) ≤ 1 + ((k + 1 : Nat) : Int)
 split <;> omega
theorem SrvOK.take {k : Nat} {s : Srv} (h : SrvOK k s) (c : Int) {log : List Rec} (hl : ∀ r, r ∈ log → ActFit r.act) : SrvOK (k + log.length) (takeS s c log) := by
 have h1 := h.len
 have h2 := h.next
 have hj := JInv.judge h.hist c s.next log hl
 have h3 := hj.len
 have h4 := hj.next
 exact ⟨hj.hist, by simp only [takeS, List.length_append, List.length_map]; omega, by show 1 ≤ (judgeJ s.tree s.next _ log).j.next ∧ (judgeJ s.tree s.next _ log).j.next ≤ _; omega⟩
def jRow (j : JS) : List AV := [.sl (j.l.map ZN), .int .i64 j.next, .int .i64 j.version, .mp 25, .mp 26, .mp 27]
def jB (j : JS) : List (Nat × Blk) := [(29, .cells 139 6 [jRow j]), (27, .map (mB j.lost)), (26, .map (mB j.ours)), (25, .map (mI j.own))]
def jH (j : JS) (G Y N : Nat → Nat) : List (Nat × Blk) := jB j ++ pins [29, 25, 26, 27] G Y N
def jcH (j : JS) (G Y N : Nat → Nat) : List (Nat × Blk) := ([(2, .cells 136 1 [[.ptr 29 6 0 0]])] ++ jB j) ++ pins [29, 25, 26, 27, 2] G Y N
def jaH (j : JS) (a : Act) (G Y N : Nat → Nat) : List (Nat × Blk) := ([(6, .cells 26 7 [ZA a])] ++ jB j) ++ pins [29, 25, 26, 27, 6] G Y N
def Holds (L H : List (Nat × Blk)) : Prop := ∀ i b, hget L i = some b → hget H i = some b
theorem YH (H : List (Nat × Blk)) : Holds [] H := fun _ _ h => nomatch h
theorem ZH {L H : List (Nat × Blk)} {k : Nat} {B : Blk} (h : hget H k = some B) (hL : Holds L H) : Holds ((k, B) :: L) H := fun i b hb => by
 simp only [hget] at hb
 split at hb
 ·rename_i e; subst e; rw [h]; exact hb
 ·exact hL i b hb
theorem fid_ok (j : JS) (f : Int) (G Y N : Nat → Nat) : FnOK Tryz.prog 98 [.ptr 29 6 0 0, .int .i64 f] (jH j G Y N) (fun r H => r = .int .i64 (atF j.own f) ∧ Holds (jH j G Y N) H) := by
 unfold jH jB jRow atF
 refine ZF tK (Tryz.func98) rfl (fun C => ?_)
 simp only [Tryz.ntmps98, Tryz.results98, go_sem]
 refine wR ?_
 refine wN tK 1 ?_
 refine wR ?_
 refine wN tK 5 ?_
 refine wG tK ?_
 cases e : hasI j.own f with
 | true =>
  refine wDT (hb := (by simp [e])) (hk := ?_)
  refine wG tK ?_
  refine wT ?_
  exact ⟨rfl, fun i b hb => hb⟩
 | false =>
  refine wDF (hb := (by simp [e])) (hk := ?_)
  refine wG tK ?_
  refine wT ?_
  exact ⟨rfl, fun i b hb => hb⟩
theorem lost_ok (j : JS) (f : Int) (G Y N : Nat → Nat) : FnOK Tryz.prog 122 [.int .i64 f, .ptr 2 1 0 0] (jcH j G Y N) (fun r H => r = .bool (getB j.lost f) ∧ Holds (jcH j G Y N) H) := by
 unfold jcH jB jRow
 refine ZF tK (Tryz.func122) rfl (fun C => ?_)
 simp only [Tryz.ntmps122, Tryz.results122, go_sem]
 refine wG tK ?_
 refine wT ?_
 exact ⟨rfl, fun i b hb => hb⟩
theorem lostIdx_ok (j : JS) (l : List Int) (hlen : l.length ≤ 100000000) (G Y N : Nat → Nat) : FnOK Tryz.prog 70 [.sl (l.map ZI), .fn 122 [.ptr 2 1 0 0]] (jcH j G Y N)
  (fun r H => r = .int .i64 (idxI (l.findIdx? (getB j.lost))) ∧ Holds (jcH j G Y N) H) := by
 unfold jcH jB jRow
 refine ZF tK (Tryz.func70) rfl (fun C => ?_)
 simp only [Tryz.ntmps70, Tryz.results70, go_sem]
 refine wG tK ?_
 refine ZL (fun i : Nat => i ≤ l.length ∧ ∀ x, x ∈ l.take i → getB j.lost x = false) (fun i => l.length - i) (fun i => [(8, .int .i64 i), (5, .any), (9, .any), (10, .any), (11, .any), (12, .any), (13, .any), (14, .any), (15, .any), (16, .any), (17, .any), (18, .any)]) (fun _ => []) 0 ⟨by omega, by simp⟩ ?_ fun i hi => ?_
 ·simp only [go_sem]
  exact ZU (by simp [go_sem]) (by simp [go_sem]) (by simp [go_sem])
 obtain ⟨hi, hno⟩ := hi
 simp only [go_sem]
 refine wG tK ?_
 refine wD (fun h => ?_) (fun h => ?_)
 ·have hlt : i < l.length := by simp at h; omega
  have hg : (l.map ZI).getD i [] = ZI (l.getD i default) := Fam.getD hlt
  have htk := ZT hlt
  have hgi : l[i]? = some (l.getD i default) := by rw [List.getD_eq_getElem?_getD, List.getElem?_eq_getElem hlt]; rfl
  have hc := lost_ok j (l.getD i default)
  unfold jcH jB jRow at hc
  generalize l.getD i default = n at hg htk hgi hc
  refine wGq tK ?_ ?_ (by simp only [go_sem, hg, ZI]; try exact rfl)
  ·simp [hlt, ZI]
  refine wP [29, 25, 26, 27, 2] Tryz.func122 (hf := (hc)) (hk := ?_)
  refine wG tK ?_
  refine wD (fun h => ?_) (fun h => ?_)
  ·refine wG tK ?_
   refine wU ?_ ?_
   ·rw [findIdx_at hgi hno h]; rfl
   ·skip
    simp only [pins, List.cons_append, List.nil_append, List.map_cons, List.map_nil]
    repeat' refine ZH ?_ ?_
    all_goals first | exact YH _ | rfl | simp [go_sem]
  ·have hw : IntKind.i64.wrap ((i : Int) + 1) = (i : Int) + 1 := wrap_small (by omega) (by omega)
   refine wG tK ?_ (by simp only [go_sem, hw]; try exact rfl) (by simp [go_sem, hw])
   refine ZB ⟨i + 1, ⟨by omega, ?_⟩, by omega, ZU ?_ ?_ ?_⟩
   ·rw [htk]
    intro x hx
    rcases List.mem_append.1 hx with hx | hx
    ·exact hno x hx
    ·rw [List.mem_singleton.1 hx]; exact h
   ·simp [go_sem]
   ·simp [go_sem]
   ·simp [go_sem]
 ·have e : i = l.length := by simp at h; omega
  refine wG tK ?_
  refine wU ?_ ?_
  ·rw [e, List.take_length] at hno
   rw [List.findIdx?_eq_none_iff.2 hno]; rfl
  ·skip
   simp only [pins, List.cons_append, List.nil_append, List.map_cons, List.map_nil]
   repeat' refine ZH ?_ ?_
   all_goals first | exact YH _ | rfl | simp [go_sem]
theorem lostAny_ok (j : JS) (l : List Int) (hlen : l.length ≤ 100000000) (G Y N : Nat → Nat) : FnOK Tryz.prog 42 [.sl (l.map ZI), .fn 122 [.ptr 2 1 0 0]] (jcH j G Y N)
  (fun r H => r = .bool (l.any (getB j.lost)) ∧ Holds (jcH j G Y N) H) := by
 have hc := lostIdx_ok j l hlen
 unfold jcH jB jRow at hc ⊢
 refine ZF tK (Tryz.func42) rfl (fun C => ?_)
 simp only [Tryz.ntmps42, Tryz.results42, go_sem]
 refine wG tK ?_
 refine wP [29, 25, 26, 27, 2] Tryz.func70 (hf := (hc)) (hk := ?_)
 refine wG tK ?_
 refine wU ?_ ?_
 ·rw [idxI_any]
 ·skip
  simp only [pins, List.cons_append, List.nil_append, List.map_cons, List.map_nil]
  repeat' refine ZH ?_ ?_
  all_goals first | exact YH _ | rfl | simp [go_sem]
theorem rests_ok (j : JS) (a : Act) (G Y N : Nat → Nat) : FnOK Tryz.prog 97 [.ptr 29 6 0 0, .ptr 6 7 0 0] (jaH j a G Y N) (fun r H => r = .bool (restsB j a) ∧ Holds (jaH j a G Y N) H) := by
 have hc := lostAny_ok j (fids a) (by have := fids_len a; omega)
 have hf := fids_ok a
 unfold restsB
 generalize (fids a).any (getB j.lost) = z at hc ⊢
 generalize fids a = l at hc hf
 unfold jcH jB jRow at hc
 unfold ZA at hf
 unfold jaH jB jRow ZA
 refine ZF tK (Tryz.func97) rfl (fun C => ?_)
 simp only [Tryz.ntmps97, Tryz.results97, go_sem]
 refine wG tK ?_
 refine wC Tryz.func43 (hf := (hf)) (hk := ?_)
 refine wG tK ?_
 refine wP [29, 25, 26, 27, 2] Tryz.func42 (hf := (hc)) (hk := ?_)
 refine wG tK ?_
 refine wU ?_ ?_
 ·rfl
 ·skip
  simp only [pins, List.cons_append, List.nil_append, List.map_cons, List.map_nil]
  repeat' refine ZH ?_ ?_
  all_goals first | exact YH _ | rfl | simp [go_sem]
theorem stale_ok (j : JS) (r : Rec) (a : Act) (hl : Small j.l) (G Y N : Nat → Nat) : FnOK Tryz.prog 99 [.ptr 29 6 0 0, .rp (ZR r) 0, .ptr 6 7 0 0] (jaH j a G Y N) (fun x H => x = .bool (staleB j r a) ∧ Holds (jaH j a G Y N) H) := by
 have hf := find_ok j.l a.fid hl
 unfold staleB
 unfold jaH jB jRow ZA ZR
 refine ZF tK (Tryz.func99) rfl (fun C => ?_)
 simp only [Tryz.ntmps99, Tryz.results99, go_sem]
 refine wG tK ?_
 refine ZW ZM ?_
 refine ZS rfl ?_
 refine sN tK 12 ?_
 refine seg_name 20 (by simp only [go_sem]; exact rfl) (fun c20 h20 => ?_)
 simp only [go_sem]
 refine sN tK 7 ?_
 refine seg_name 27 (by simp only [go_sem]; exact rfl) (fun c27 h27 => ?_)
 simp only [go_sem]
 refine sG tK ?_
 refine sE ?_
 refine wKd ?_
 try simp only [go_sem, gA, gB, gC]
 refine wR ?_
 refine cw_name 38 (by simp only [go_sem]; exact rfl) (fun c38 h38 => ?_)
 simp only [go_sem]
 have hst : (((a.kind ≠ 3 ∧ a.kind ≠ 4) ∨ r.version < 0) ∨ getB j.ours a.fid = true) ↔ c38 = true := by
  subst h38 h27 h20
  simp [cond_and, cond_or]
 clear h38 h27 h20
 cases c38 with
 | true =>
  rw [if_pos (hst.2 rfl)]
  refine wDT (hb := (rfl)) (hk := ?_)
  refine wG tK ?_
  refine wU ?_ ?_
  ·rfl
  ·skip
   simp only [pins, List.cons_append, List.nil_append, List.map_cons, List.map_nil]
   repeat' refine ZH ?_ ?_
   all_goals first | exact YH _ | rfl | simp [go_sem]
 | false =>
  rw [if_neg (fun h => nomatch hst.1 h)]
  refine wDF (hb := (rfl)) (hk := ?_)
  refine wG tK ?_
  refine ZW ZM ?_
  refine ZS rfl ?_
  refine sN tK 8 ?_
  refine sC Tryz.func47 (hf := (hf)) (hk := ?_)
  simp only [go_sem, findR]
  rw [isAt_eq]
  cases findN j.l a.fid with
  | none =>
   simp only [Option.getD_none, Option.isSome_none]
   refine sG tK ?_
   refine sW tK ?_
   simp only [go_sem, ZN, zeroN]
   refine sT tK ?_
   refine sE ?_
   refine dS tK ?_
   refine wKd ?_
   try simp only [go_sem, gA, gB, gC]
   refine wG tK ?_
   refine ZW ZM ?_
   refine ZS rfl ?_
   refine sG tK ?_
   refine sE ?_
   refine wKd ?_
   try simp only [go_sem, gA, gB, gC]
   refine wG tK ?_
   refine wU ?_ ?_
   ·rfl
   ·skip
    simp only [pins, List.cons_append, List.nil_append, List.map_cons, List.map_nil]
    repeat' refine ZH ?_ ?_
    all_goals first | exact YH _ | rfl | simp [go_sem]
  | some n =>
   simp only [Option.getD_some, Option.isSome_some]
   refine sG tK ?_
   refine sW tK ?_
   simp only [go_sem, ZN]
   refine sT tK ?_
   refine sE ?_
   refine dS tK ?_
   refine wKd ?_
   try simp only [go_sem, gA, gB, gC]
   refine wG tK ?_
   refine ZW ZM ?_
   refine ZS rfl ?_
   refine sG tK ?_
   refine sE ?_
   refine wKd ?_
   try simp only [go_sem, gA, gB, gC]
   refine wG tK ?_
   refine wU ?_ ?_
   ·rfl
   ·skip
    simp only [pins, List.cons_append, List.nil_append, List.map_cons, List.map_nil]
    repeat' refine ZH ?_ ?_
    all_goals first | exact YH _ | rfl | simp [go_sem]
end La
