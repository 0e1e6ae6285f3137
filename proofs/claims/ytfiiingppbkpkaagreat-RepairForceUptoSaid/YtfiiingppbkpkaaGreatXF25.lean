/- Texts of this claim, part 25: RAdd2. No condition. -/
import Derived.Test.YtfiiingppbkpkaaGreatXF24
import Derived.Test.YtfiiingppbkpkaaGreatXF11
set_option maxRecDepth 10000
set_option maxHeartbeats 4000000
set_option linter.unusedSimpArgs false
set_option linter.unusedVariables false
namespace La
open Go Go.Eng Go.Proofs
def keeps (r x : Rec) : Bool := !(r.act.kind == 3 && stored r x)
theorem unstored_filter (l : List Rec) (r : Rec) : unstored l r = l.filter (keeps r) := by
 unfold unstored
 split
 ·rename_i h
  congr 1
  funext x
  simp [keeps, h]
 ·rename_i h
  rw [List.filter_eq_self.2]
  intro x _
  simp [keeps, h]
def here (d : Int) (n : List UInt8) (b : Act) : Bool :=
 ((((b.kind == 1 || b.kind == 2) || b.kind == 4) || b.kind == 5) && b.dir == d && b.name == n) || (b.kind == 5 && b.to == d && b.toName == n)
theorem here_touches (d : Int) (n : List UInt8) (b : Act) : here d n b = touches b d n := by
 unfold here touches
 by_cases h1 : b.kind = 1
 ·simp [h1]
 ·by_cases h2 : b.kind = 2
  ·simp [h2]
  ·by_cases h4 : b.kind = 4
   ·simp [h4]
   ·by_cases h5 : b.kind = 5
    ·simp [h5]
    ·simp [h1, h2, h4, h5]
def outOf (l : List Rec) (r : Rec) (i : Nat) : List Rec := (l.take i).filter fun x => !(x.names r.act.fid)
def stOf (l : List Rec) (r : Rec) (i : Nat) : Int := (l.take i).foldl (addStep r) 0
def keptOf (l : List Rec) (r : Rec) (i : Nat) : List Rec := (l.take i).filter (keeps r)
theorem refAdd_ok (l : List Rec) (r : Rec) (hl : SmallL l) (hr : r.act.Small) : FnOK Tryz.prog 107 [.sl (l.map ZR), .agg (ZR r)] [] (fun x _ => x = addRes (addLog l r)) := by
 have hlen := hl.len
 refine ZF tK (Tryz.func107) rfl (fun C => ?_)
 simp only [Tryz.ntmps107, Tryz.results107, go_sem]
 refine wGq tK ?_ ?_ (by simp only [go_sem, ZR]; try exact rfl)
 ·simp [go_sem]
 refine ZZ 3 rfl (rfl) ?_
 refine ZZ 6 rfl (rfl) ?_
 simp only [go_sem]
 refine wD (fun h => ?_) (fun h => ?_)
 ·have hk4 : r.act.kind = 4 := eq_of_beq h
  refine wG tK ?_
  refine ZL (fun i : Nat => i ≤ l.length) (fun i => l.length - i) (fun i => [(24, .int .i64 (i : Nat)), (8, .int .i64 (stOf l r i)), (7, .osl 135 9 0 (outOf l r i).length), (9, .any), (10, .any), (11, .any), (12, .any), (13, .any), (14, .any), (15, .any), (16, .any), (25, .any), (26, .any), (27, .any), (28, .any), (29, .any), (30, .any), (31, .any), (32, .any), (33, .any), (34, .any), (35, .any), (36, .any), (37, .any), (38, .any), (39, .any), (40, .any), (41, .any), (42, .any), (43, .any), (44, .any), (45, .any), (46, .any), (47, .any), (48, .any), (49, .any), (50, .any), (51, .any), (52, .any), (53, .any), (54, .any), (55, .any), (56, .any), (57, .any), (58, .any), (59, .any), (60, .any), (61, .any), (62, .any), (63, .any), (64, .any), (65, .any), (66, .any), (67, .any), (68, .any), (69, .any), (70, .any), (71, .any), (72, .any), (73, .any), (74, .any), (75, .any), (76, .any), (77, .any), (78, .any), (79, .any), (80, .any), (81, .any), (82, .any), (83, .any), (84, .any), (85, .any), (86, .any), (87, .any), (88, .any), (89, .any), (90, .any), (91, .any), (92, .any), (93, .any), (94, .any), (95, .any), (96, .any), (97, .any), (98, .any), (99, .any), (100, .any), (101, .any), (102, .any), (103, .any), (104, .any), (105, .any), (106, .any), (107, .any), (108, .any), (109, .any), (110, .any), (111, .any), (112, .any), (113, .any), (114, .any), (115, .any), (116, .any), (117, .any), (118, .any), (119, .any), (120, .any), (121, .any), (122, .any), (123, .any), (124, .any), (125, .any), (126, .any), (127, .any), (128, .any), (129, .any), (130, .any), (131, .any), (132, .any), (133, .any), (134, .any), (135, .any), (136, .any)]) (fun i => [(135, .cells 56 9 ((outOf l r i).map ZR))]) 0 (by omega) ?_ fun i hi => ?_
  ·simp only [go_sem]
   exact ZU (by simp [go_sem, outOf, stOf]) (by simp [go_sem, outOf]) (by simp [go_sem])
  simp only [go_sem]
  refine wG tK ?_
  refine wD (fun h => ?_) (fun h => ?_)
  ·have hlt : i < l.length := by have := of_decide_eq_true h; omega
   have hg : (l.map ZR).getD i [] = ZR (l.getD i default) := Fam.getD hlt
   have htk := ZT hlt
   generalize l.getD i default = x at hg htk
   refine wR ?_
   refine wNq tK 4 ?_ ?_ (by simp only [go_sem]; exact rfl) (by simp only [go_sem]; exact rfl) (by simp only [go_sem, hg, ZR]; try exact rfl)
   ·simp [hlt]
   refine ZZ 10 rfl (rfl) ?_
   simp only [go_sem]
   refine wR ?_
   refine wNq tK 4 ?_ ?_
   ·simp [go_sem]
   refine ZZ 11 rfl (rfl) ?_
   simp only [go_sem]
   have hst : stOf l r (i + 1) = addStep r (stOf l r i) x := by
    unfold stOf
    rw [htk, List.foldl_append]; rfl
   have hout : outOf l r (i + 1) = if x.names r.act.fid then outOf l r i else outOf l r i ++ [x] := by
    unfold outOf
    rw [htk, List.filter_append]
    by_cases hk : x.names r.act.fid = true <;> simp [hk]
   have hol : (outOf l r i).length ≤ l.length := by unfold outOf; have := List.length_filter_le (fun x : Rec => !x.names r.act.fid) (l.take i); simp at this; omega
   have hw := wi1 (i := i) (by omega)
   clear hg htk
   generalize stOf l r i = s at hst
   refine wR ?_
   refine wN tK 3 ?_
   refine cw_name 32 (by simp only [go_sem]; exact rfl) (fun c32 h32 => ?_)
   simp only [go_sem]
   refine wN tK 5 ?_
   refine cw_name 37 (by simp only [go_sem]; exact rfl) (fun c37 h37 => ?_)
   simp only [go_sem]
   refine wN tK 1 ?_
   refine wR ?_
   refine wN tK 6 ?_
   refine cw_name 43 (by simp only [go_sem]; exact rfl) (fun c43 h43 => ?_)
   simp only [go_sem]
   refine wN tK 5 ?_
   refine cw_name 48 (by simp only [go_sem]; exact rfl) (fun c48 h48 => ?_)
   simp only [go_sem]
   refine wN tK 1 ?_
   refine wR ?_
   refine wN tK 8 ?_
   refine cw_name 56 (by simp only [go_sem]; exact rfl) (fun c56 h56 => ?_)
   simp only [go_sem]
   refine wN tK 7 ?_
   refine cw_name 63 (by simp only [go_sem]; exact rfl) (fun c63 h63 => ?_)
   simp only [go_sem]
   refine wNq tK 19 ?_ ?_
   ·simp [go_sem]
    exact ⟨fun a => ⟨a, fun b => ⟨a, b⟩⟩, fun a => ⟨a, fun b c => ⟨a, b, c⟩⟩⟩
   refine cw_name 82 (by simp only [go_sem]; exact rfl) (fun c82 h82 => ?_)
   simp only [go_sem]
   refine wN tK 1 ?_
   refine wR ?_
   refine wN tK 2 ?_
   refine cw_name 85 (by simp only [go_sem]; exact rfl) (fun c85 h85 => ?_)
   simp only [go_sem]
   refine wN tK 3 ?_
   refine cw_name 88 (by simp only [go_sem]; exact rfl) (fun c88 h88 => ?_)
   simp only [go_sem]
   refine wN tK 7 ?_
   refine cw_name 95 (by simp only [go_sem]; exact rfl) (fun c95 h95 => ?_)
   simp only [go_sem]
   have hA : c95 = (s == 0 && isMade r.act.fid x) := by
    rw [← h95, ← h88, ← h85, ← h37, ← h32]
    simp only [cond_and, cond_or, isMade, Bool.and_assoc]
    cases (s == 0) <;> cases (x.act.fid == r.act.fid) <;> simp
   have hB : c82 = touches x.act r.act.dir r.act.name := by
    rw [← here_touches, ← h82, ← h63, ← h56, ← h48, ← h43, ← h37, ← h32]
    simp only [cond_and, cond_or, here]
   clear h82 h63 h56 h48 h43 h88 h85 h95
   refine wG tK ?_
   refine wD (fun h => ?_) (fun h => ?_)
   ·have hs : s = 0 ∧ isMade r.act.fid x = true := by
     have : c95 = true := h
     rw [hA, Bool.and_eq_true] at this
     exact ⟨eq_of_beq this.1, this.2⟩
    refine wR ?_
    refine wN tK 1 ?_
    refine wR ?_
    refine wN tK 5 ?_
    refine cw_name 100 (by simp only [go_sem]; exact rfl) (fun c100 h100 => ?_)
    simp only [go_sem]
    refine wN tK 7 ?_
    refine cw_name 107 (by simp only [go_sem]; exact rfl) (fun c107 h107 => ?_)
    simp only [go_sem]
    have hC : c107 = (x.act.dir == r.act.dir && x.act.name == r.act.name) := by rw [← h107, ← h100, cond_and]
    refine wG tK ?_
    refine wD (fun h => ?_) (fun h => ?_)
    ·have hstv : stOf l r (i + 1) = 1 := by
      have h1 : c107 = true := h
      rw [hC, Bool.and_eq_true] at h1
      rw [hst, hs.1]
      simp [addStep, hs.2, eq_of_beq h1.1, eq_of_beq h1.2]
     refine wG tK ?_
     refine ZW ZM ?_
     refine ZS rfl ?_
     refine sN tK 1 ?_
     refine sC Tryz.func21 (hf := (refFids_ok x.act)) (hk := ?_)
     refine sN tK 2 ?_
     refine sC Tryz.func124 (hf := (rhas_ok (fids x.act) (by have := fids_len x.act; omega) r.act.fid)) (hk := ?_)
     refine sN tK 1 ?_
     refine sE ?_
     refine wKd ?_
     refine wD (fun h => ?_) (fun h => ?_)
     ·have hnm : x.names r.act.fid = false := by simpa [Rec.names] using h
      have hon : outOf l r (i + 1) = outOf l r i ++ [x] := by rw [hout, hnm]; rfl
      refine wGq tK ?_ ?_ (by simp only [go_sem, hw, ZR]; try exact rfl)
      ·simp [go_sem]
       omega
      refine ZB ⟨i + 1, by omega, by omega, ZU ?_ ?_ ?_⟩
      ·simp [go_sem, hstv, hon]
      ·simp [go_sem, hon, ZR]
      ·simp [go_sem]
     ·have hnm : x.names r.act.fid = true := by simpa [Rec.names] using h
      have hon : outOf l r (i + 1) = outOf l r i := by rw [hout, hnm]; rfl
      refine wG tK ?_ (by simp only [go_sem, hw]; try exact rfl) (by simp [go_sem, hw])
      refine ZB ⟨i + 1, by omega, by omega, ZU ?_ ?_ ?_⟩
      ·simp [go_sem, hstv, hon]
      ·simp [go_sem, hon]
      ·simp [go_sem]
    ·have hstv : stOf l r (i + 1) = 2 := by
      have h1 : c107 = false := h
      have h2 : ¬ (x.act.dir = r.act.dir ∧ x.act.name = r.act.name) := by
       rintro ⟨e1, e2⟩
       rw [hC, e1, e2] at h1
       simp at h1
      rw [hst, hs.1]
      simp only [addStep, hs.2, if_true, if_neg h2]
     refine wG tK ?_
     refine ZW ZM ?_
     refine ZS rfl ?_
     refine sN tK 1 ?_
     refine sC Tryz.func21 (hf := (refFids_ok x.act)) (hk := ?_)
     refine sN tK 2 ?_
     refine sC Tryz.func124 (hf := (rhas_ok (fids x.act) (by have := fids_len x.act; omega) r.act.fid)) (hk := ?_)
     refine sN tK 1 ?_
     refine sE ?_
     refine wKd ?_
     refine wD (fun h => ?_) (fun h => ?_)
     ·have hnm : x.names r.act.fid = false := by simpa [Rec.names] using h
      have hon : outOf l r (i + 1) = outOf l r i ++ [x] := by rw [hout, hnm]; rfl
      refine wGq tK ?_ ?_ (by simp only [go_sem, hw, ZR]; try exact rfl)
      ·simp [go_sem]
       omega
      refine ZB ⟨i + 1, by omega, by omega, ZU ?_ ?_ ?_⟩
      ·simp [go_sem, hstv, hon]
      ·simp [go_sem, hon, ZR]
      ·simp [go_sem]
     ·have hnm : x.names r.act.fid = true := by simpa [Rec.names] using h
      have hon : outOf l r (i + 1) = outOf l r i := by rw [hout, hnm]; rfl
      refine wG tK ?_ (by simp only [go_sem, hw]; try exact rfl) (by simp [go_sem, hw])
      refine ZB ⟨i + 1, by omega, by omega, ZU ?_ ?_ ?_⟩
      ·simp [go_sem, hstv, hon]
      ·simp [go_sem, hon]
      ·simp [go_sem]
   ·have hs0 : ¬ (s = 0 ∧ isMade r.act.fid x = true) := by
     rintro ⟨e1, e2⟩
     have h1 : c95 = false := h
     rw [hA, e1, e2] at h1
     cases h1
    refine wG tK ?_
    refine ZW ZM ?_
    refine ZS rfl ?_
    refine sN tK 2 ?_
    refine seg_name 110 (by simp only [go_sem]; exact rfl) (fun c110 h110 => ?_)
    simp only [go_sem]
    refine sN tK 4 ?_
    refine sCC Tryz.func21 (hf := fun hb => (refFids_ok x.act)) (hk := ?_)
    refine sN tK 2 ?_
    refine sCC Tryz.func124 (hf := fun hb => (rhas_ok (fids x.act) (by have := fids_len x.act; omega) r.act.fid)) (hk := ?_)
    refine sNq tK 7 ?_ ?_
    ·simp [go_sem]
     exact ⟨fun a b => ⟨⟨a, b⟩, fun c => ⟨⟨a, b⟩, c⟩⟩, fun a => ⟨a, fun b => ⟨a, b⟩⟩⟩
    refine seg_name 125 (by simp only [go_sem]; exact rfl) (fun c125 h125 => ?_)
    simp only [go_sem]
    refine sN tK 1 ?_
    refine sE ?_
    refine wKd ?_
    have hD : c125 = (s == 1 && bars r.act.fid r.act.dir r.act.name x) := by
     rw [← h125, ← h110, hB]
     simp only [cond_and, cond_or, bars, Rec.names]
     cases (s == 1) <;> cases (touches x.act r.act.dir r.act.name) <;> simp [Bool.and_comm]
    refine wD (fun h => ?_) (fun h => ?_)
    ·have hstv : stOf l r (i + 1) = 2 := by
      have h1 : c125 = true := h
      rw [hD, Bool.and_eq_true] at h1
      rw [hst, eq_of_beq h1.1]
      simp [addStep, h1.2]
     refine wG tK ?_
     refine ZW ZM ?_
     refine ZS rfl ?_
     refine sN tK 1 ?_
     refine sC Tryz.func21 (hf := (refFids_ok x.act)) (hk := ?_)
     refine sN tK 2 ?_
     refine sC Tryz.func124 (hf := (rhas_ok (fids x.act) (by have := fids_len x.act; omega) r.act.fid)) (hk := ?_)
     refine sN tK 1 ?_
     refine sE ?_
     refine wKd ?_
     refine wD (fun h => ?_) (fun h => ?_)
     ·have hnm : x.names r.act.fid = false := by simpa [Rec.names] using h
      have hon : outOf l r (i + 1) = outOf l r i ++ [x] := by rw [hout, hnm]; rfl
      refine wGq tK ?_ ?_ (by simp only [go_sem, hw, ZR]; try exact rfl)
      ·simp [go_sem]
       omega
      refine ZB ⟨i + 1, by omega, by omega, ZU ?_ ?_ ?_⟩
      ·simp [go_sem, hstv, hon]
      ·simp [go_sem, hon, ZR]
      ·simp [go_sem]
     ·have hnm : x.names r.act.fid = true := by simpa [Rec.names] using h
      have hon : outOf l r (i + 1) = outOf l r i := by rw [hout, hnm]; rfl
      refine wG tK ?_ (by simp only [go_sem, hw]; try exact rfl) (by simp [go_sem, hw])
      refine ZB ⟨i + 1, by omega, by omega, ZU ?_ ?_ ?_⟩
      ·simp [go_sem, hstv, hon]
      ·simp [go_sem, hon]
      ·simp [go_sem]
    ·have hstv : stOf l r (i + 1) = s := by
      have h1 : c125 = false := h
      rw [hst]
      unfold addStep
      by_cases e0 : s = 0
      ·have hnm : isMade r.act.fid x = false := by
        cases e : isMade r.act.fid x with
        | false => rfl
        | true => exact absurd ⟨e0, e⟩ hs0
       simp [e0, hnm]
      ·by_cases e1 : s = 1
       ·have hnb : bars r.act.fid r.act.dir r.act.name x = false := by
         rw [hD, e1] at h1
         simpa using h1
        simp [e1, hnb]
       ·simp [e0, e1]
     refine wG tK ?_
     refine ZW ZM ?_
     refine ZS rfl ?_
     refine sN tK 1 ?_
     refine sC Tryz.func21 (hf := (refFids_ok x.act)) (hk := ?_)
     refine sN tK 2 ?_
     refine sC Tryz.func124 (hf := (rhas_ok (fids x.act) (by have := fids_len x.act; omega) r.act.fid)) (hk := ?_)
     refine sN tK 1 ?_
     refine sE ?_
     refine wKd ?_
     refine wD (fun h => ?_) (fun h => ?_)
     ·have hnm : x.names r.act.fid = false := by simpa [Rec.names] using h
      have hon : outOf l r (i + 1) = outOf l r i ++ [x] := by rw [hout, hnm]; rfl
      refine wGq tK ?_ ?_ (by simp only [go_sem, hw, ZR]; try exact rfl)
      ·simp [go_sem]
       omega
      refine ZB ⟨i + 1, by omega, by omega, ZU ?_ ?_ ?_⟩
      ·simp [go_sem, hstv, hon]
      ·simp [go_sem, hon, ZR]
      ·simp [go_sem]
     ·have hnm : x.names r.act.fid = true := by simpa [Rec.names] using h
      have hon : outOf l r (i + 1) = outOf l r i := by rw [hout, hnm]; rfl
      refine wG tK ?_ (by simp only [go_sem, hw]; try exact rfl) (by simp [go_sem, hw])
      refine ZB ⟨i + 1, by omega, by omega, ZU ?_ ?_ ?_⟩
      ·simp [go_sem, hstv, hon]
      ·simp [go_sem, hon]
      ·simp [go_sem]
  ·have e : i = l.length := by have := of_decide_eq_false h; omega
   subst e
   have hout : outOf l r l.length = l.filter fun x => !(x.names r.act.fid) := by unfold outOf; rw [List.take_length]
   have hst : (stOf l r l.length == 1) = cancels l r := by
    unfold stOf
    rw [List.take_length, addStep_cancels r hk4]
   refine wG tK ?_
   refine wD (fun h => ?_) (fun h => ?_)
   ·have hc : cancels l r = true := by rw [← hst]; exact h
    refine wG tK ?_
    refine ZZ 135 rfl (recRow_pure _) ?_
    simp only [go_sem]
    refine wT ?_
    simp [addLog, hc, addRes, hout]
   ·have hc : cancels l r = false := by rw [← hst]; exact h
    refine wG tK ?_
    refine ZL (fun i : Nat => i ≤ l.length) (fun i => l.length - i) (fun i => [(142, .int .i64 (i : Nat)), (7, .osl 166 9 0 (keptOf l r i).length), (8, .any), (9, .any), (10, .any), (11, .any), (12, .any), (13, .any), (14, .any), (15, .any), (16, .any), (17, .any), (18, .any), (19, .any), (20, .any), (21, .any), (22, .any), (23, .any), (24, .any), (25, .any), (26, .any), (27, .any), (28, .any), (29, .any), (30, .any), (31, .any), (32, .any), (33, .any), (34, .any), (35, .any), (36, .any), (37, .any), (38, .any), (39, .any), (40, .any), (41, .any), (42, .any), (43, .any), (44, .any), (45, .any), (46, .any), (47, .any), (48, .any), (49, .any), (50, .any), (51, .any), (52, .any), (53, .any), (54, .any), (55, .any), (56, .any), (57, .any), (58, .any), (59, .any), (60, .any), (61, .any), (62, .any), (63, .any), (64, .any), (65, .any), (66, .any), (67, .any), (68, .any), (69, .any), (70, .any), (71, .any), (72, .any), (73, .any), (74, .any), (75, .any), (76, .any), (77, .any), (78, .any), (79, .any), (80, .any), (81, .any), (82, .any), (83, .any), (84, .any), (85, .any), (86, .any), (87, .any), (88, .any), (89, .any), (90, .any), (91, .any), (92, .any), (93, .any), (94, .any), (95, .any), (96, .any), (97, .any), (98, .any), (99, .any), (100, .any), (101, .any), (102, .any), (103, .any), (104, .any), (105, .any), (106, .any), (107, .any), (108, .any), (109, .any), (110, .any), (111, .any), (112, .any), (113, .any), (114, .any), (115, .any), (116, .any), (117, .any), (118, .any), (119, .any), (120, .any), (121, .any), (122, .any), (123, .any), (124, .any), (125, .any), (126, .any), (127, .any), (128, .any), (129, .any), (130, .any), (131, .any), (132, .any), (133, .any), (134, .any), (135, .any), (136, .any), (137, .any), (138, .any), (139, .any), (143, .any), (144, .any), (145, .any), (146, .any), (147, .any), (148, .any), (149, .any), (150, .any), (151, .any), (152, .any), (153, .any), (154, .any), (155, .any), (156, .any), (157, .any), (158, .any), (159, .any), (160, .any), (161, .any), (162, .any), (163, .any), (164, .any), (165, .any), (166, .any), (167, .any)]) (fun i => [(166, .cells 56 9 ((keptOf l r i).map ZR))]) 0 (by omega) ?_ fun i hi => ?_
    ·simp only [go_sem]
     exact ZU (by simp [go_sem, keptOf]) (by simp [go_sem, keptOf]) (by simp [go_sem])
    simp only [go_sem]
    refine wG tK ?_
    refine wD (fun h => ?_) (fun h => ?_)
    ·have hlt : i < l.length := by have := of_decide_eq_true h; omega
     have hg : (l.map ZR).getD i [] = ZR (l.getD i default) := Fam.getD hlt
     have htk := ZT hlt
     generalize l.getD i default = x at hg htk
     have hkl : (keptOf l r i).length ≤ l.length := by unfold keptOf; have := List.length_filter_le (keeps r) (l.take i); simp at this; omega
     have hkn : keptOf l r (i + 1) = if keeps r x then keptOf l r i ++ [x] else keptOf l r i := by
      unfold keptOf
      rw [htk, List.filter_append]
      by_cases hk : keeps r x = true <;> simp [hk]
     have hw := wi1 (i := i) (by omega)
     refine wR ?_
     refine wNq tK 4 ?_ ?_ (by simp only [go_sem]; exact rfl) (by simp only [go_sem]; exact rfl) (by simp only [go_sem, hg, ZR]; try exact rfl)
     ·simp [hlt]
     refine ZZ 16 rfl (rfl) ?_
     simp only [go_sem]
     refine wR ?_
     refine wN tK 3 ?_
     refine cw_name 148 (by simp only [go_sem]; exact rfl) (fun c148 h148 => ?_)
     simp only [go_sem]
     refine wN tK 6 ?_
     refine cw_name 154 (by simp only [go_sem]; exact rfl) (fun c154 h154 => ?_)
     simp only [go_sem]
     refine wN tK 8 ?_
     refine cw_name 162 (by simp only [go_sem]; exact rfl) (fun c162 h162 => ?_)
     simp only [go_sem]
     have hK : c162 = keeps r x := by
      rw [← h162, ← h154, ← h148]
      simp only [cond_or, keeps, stored, bne]
      generalize (r.act.kind == 3) = a1
      generalize (x.act.kind == 3) = a2
      generalize (x.act.fid == r.act.fid) = a3
      cases a1 <;> cases a2 <;> cases a3 <;> rfl
     refine wG tK ?_
     refine wD (fun h => ?_) (fun h => ?_)
     ·have hk2 : keptOf l r (i + 1) = keptOf l r i ++ [x] := by rw [hkn, ← hK, show c162 = true from h]; rfl
      refine wGq tK ?_ ?_ (by simp only [go_sem, hw, ZR]; try exact rfl)
      ·simp [go_sem]
       omega
      refine ZB ⟨i + 1, by omega, by omega, ZU ?_ ?_ ?_⟩
      ·simp [go_sem, hk2]
      ·simp [go_sem, hk2, ZR]
      ·simp [go_sem]
     ·have hk2 : keptOf l r (i + 1) = keptOf l r i := by rw [hkn, ← hK, show c162 = false from h]; rfl
      refine wG tK ?_ (by simp only [go_sem, hw]; try exact rfl) (by simp [go_sem, hw])
      refine ZB ⟨i + 1, by omega, by omega, ZU ?_ ?_ ?_⟩
      ·simp [go_sem, hk2]
      ·simp [go_sem, hk2]
      ·simp [go_sem]
    have e : i = l.length := by have := of_decide_eq_false h; omega
    subst e
    have hkept : keptOf l r l.length = unstored l r := by unfold keptOf; rw [List.take_length, unstored_filter]
    have hul := (unstored_sub l r).length_le
    rw [hkept]
    have hadd : addLog l r = if (unstored l r).length ≥ 20 then none else some (unstored l r ++ [r]) := by simp only [addLog, hc, Bool.false_eq_true, if_false]
    rw [hadd]
    generalize unstored l r = d at hul
    refine wG tK ?_
    refine wD (fun h => ?_) (fun h => ?_)
    ·have hd : d.length ≥ 20 := by have h2 := of_decide_eq_true h; omega
     refine wG tK ?_
     refine wT ?_
     rw [if_pos hd]; rfl
    ·have hd : ¬ d.length ≥ 20 := by have h2 := of_decide_eq_false h; omega
     refine wGq tK ?_ ?_ (by simp only [go_sem, ZR]; try exact rfl)
     ·simp [go_sem]
      omega
     refine ZZ 174 rfl (by rw [List.all_append, recRow_pure, Bool.true_and]; rfl) ?_
     simp only [go_sem]
     refine wT ?_
     rw [if_neg hd]
     simp only [addRes, List.map_append, List.map_cons, List.map_nil, ZR]
     rw [List.take_of_length_le (by simp)]
 ·have hc : cancels l r = false := by
   unfold cancels
   split
   ·rfl
   ·have : (r.act.kind == 4) = false := h
    rw [this]; rfl
  refine wG tK ?_
  refine ZL (fun i : Nat => i ≤ l.length) (fun i => l.length - i) (fun i => [(142, .int .i64 (i : Nat)), (7, .osl 166 9 0 (keptOf l r i).length), (8, .any), (9, .any), (10, .any), (11, .any), (12, .any), (13, .any), (14, .any), (15, .any), (16, .any), (17, .any), (18, .any), (19, .any), (20, .any), (21, .any), (22, .any), (23, .any), (24, .any), (25, .any), (26, .any), (27, .any), (28, .any), (29, .any), (30, .any), (31, .any), (32, .any), (33, .any), (34, .any), (35, .any), (36, .any), (37, .any), (38, .any), (39, .any), (40, .any), (41, .any), (42, .any), (43, .any), (44, .any), (45, .any), (46, .any), (47, .any), (48, .any), (49, .any), (50, .any), (51, .any), (52, .any), (53, .any), (54, .any), (55, .any), (56, .any), (57, .any), (58, .any), (59, .any), (60, .any), (61, .any), (62, .any), (63, .any), (64, .any), (65, .any), (66, .any), (67, .any), (68, .any), (69, .any), (70, .any), (71, .any), (72, .any), (73, .any), (74, .any), (75, .any), (76, .any), (77, .any), (78, .any), (79, .any), (80, .any), (81, .any), (82, .any), (83, .any), (84, .any), (85, .any), (86, .any), (87, .any), (88, .any), (89, .any), (90, .any), (91, .any), (92, .any), (93, .any), (94, .any), (95, .any), (96, .any), (97, .any), (98, .any), (99, .any), (100, .any), (101, .any), (102, .any), (103, .any), (104, .any), (105, .any), (106, .any), (107, .any), (108, .any), (109, .any), (110, .any), (111, .any), (112, .any), (113, .any), (114, .any), (115, .any), (116, .any), (117, .any), (118, .any), (119, .any), (120, .any), (121, .any), (122, .any), (123, .any), (124, .any), (125, .any), (126, .any), (127, .any), (128, .any), (129, .any), (130, .any), (131, .any), (132, .any), (133, .any), (134, .any), (135, .any), (136, .any), (137, .any), (138, .any), (139, .any), (143, .any), (144, .any), (145, .any), (146, .any), (147, .any), (148, .any), (149, .any), (150, .any), (151, .any), (152, .any), (153, .any), (154, .any), (155, .any), (156, .any), (157, .any), (158, .any), (159, .any), (160, .any), (161, .any), (162, .any), (163, .any), (164, .any), (165, .any), (166, .any), (167, .any)]) (fun i => [(166, .cells 56 9 ((keptOf l r i).map ZR))]) 0 (by omega) ?_ fun i hi => ?_
  ·simp only [go_sem]
   exact ZU (by simp [go_sem, keptOf]) (by simp [go_sem, keptOf]) (by simp [go_sem])
  simp only [go_sem]
  refine wG tK ?_
  refine wD (fun h => ?_) (fun h => ?_)
  ·have hlt : i < l.length := by have := of_decide_eq_true h; omega
   have hg : (l.map ZR).getD i [] = ZR (l.getD i default) := Fam.getD hlt
   have htk := ZT hlt
   generalize l.getD i default = x at hg htk
   have hkl : (keptOf l r i).length ≤ l.length := by unfold keptOf; have := List.length_filter_le (keeps r) (l.take i); simp at this; omega
   have hkn : keptOf l r (i + 1) = if keeps r x then keptOf l r i ++ [x] else keptOf l r i := by
    unfold keptOf
    rw [htk, List.filter_append]
    by_cases hk : keeps r x = true <;> simp [hk]
   have hw := wi1 (i := i) (by omega)
   refine wR ?_
   refine wNq tK 4 ?_ ?_ (by simp only [go_sem]; exact rfl) (by simp only [go_sem]; exact rfl) (by simp only [go_sem, hg, ZR]; try exact rfl)
   ·simp [hlt]
   refine ZZ 16 rfl (rfl) ?_
   simp only [go_sem]
   refine wR ?_
   refine wN tK 3 ?_
   refine cw_name 148 (by simp only [go_sem]; exact rfl) (fun c148 h148 => ?_)
   simp only [go_sem]
   refine wN tK 6 ?_
   refine cw_name 154 (by simp only [go_sem]; exact rfl) (fun c154 h154 => ?_)
   simp only [go_sem]
   refine wN tK 8 ?_
   refine cw_name 162 (by simp only [go_sem]; exact rfl) (fun c162 h162 => ?_)
   simp only [go_sem]
   have hK : c162 = keeps r x := by
    rw [← h162, ← h154, ← h148]
    simp only [cond_or, keeps, stored, bne]
    generalize (r.act.kind == 3) = a1
    generalize (x.act.kind == 3) = a2
    generalize (x.act.fid == r.act.fid) = a3
    cases a1 <;> cases a2 <;> cases a3 <;> rfl
   refine wG tK ?_
   refine wD (fun h => ?_) (fun h => ?_)
   ·have hk2 : keptOf l r (i + 1) = keptOf l r i ++ [x] := by rw [hkn, ← hK, show c162 = true from h]; rfl
    refine wGq tK ?_ ?_ (by simp only [go_sem, hw, ZR]; try exact rfl)
    ·simp [go_sem]
     omega
    refine ZB ⟨i + 1, by omega, by omega, ZU ?_ ?_ ?_⟩
    ·simp [go_sem, hk2]
    ·simp [go_sem, hk2, ZR]
    ·simp [go_sem]
   ·have hk2 : keptOf l r (i + 1) = keptOf l r i := by rw [hkn, ← hK, show c162 = false from h]; rfl
    refine wG tK ?_ (by simp only [go_sem, hw]; try exact rfl) (by simp [go_sem, hw])
    refine ZB ⟨i + 1, by omega, by omega, ZU ?_ ?_ ?_⟩
    ·simp [go_sem, hk2]
    ·simp [go_sem, hk2]
    ·simp [go_sem]
  have e : i = l.length := by have := of_decide_eq_false h; omega
  subst e
  have hkept : keptOf l r l.length = unstored l r := by unfold keptOf; rw [List.take_length, unstored_filter]
  have hul := (unstored_sub l r).length_le
  rw [hkept]
  have hadd : addLog l r = if (unstored l r).length ≥ 20 then none else some (unstored l r ++ [r]) := by simp only [addLog, hc, Bool.false_eq_true, if_false]
  rw [hadd]
  generalize unstored l r = d at hul
  refine wG tK ?_
  refine wD (fun h => ?_) (fun h => ?_)
  ·have hd : d.length ≥ 20 := by have h2 := of_decide_eq_true h; omega
   refine wG tK ?_
   refine wT ?_
   rw [if_pos hd]; rfl
  ·have hd : ¬ d.length ≥ 20 := by have h2 := of_decide_eq_false h; omega
   refine wGq tK ?_ ?_ (by simp only [go_sem, ZR]; try exact rfl)
   ·simp [go_sem]
    omega
   refine ZZ 174 rfl (by rw [List.all_append, recRow_pure, Bool.true_and]; rfl) ?_
   simp only [go_sem]
   refine wT ?_
   rw [if_neg hd]
   simp only [addRes, List.map_append, List.map_cons, List.map_nil, ZR]
   rw [List.take_of_length_le (by simp)]
end La
