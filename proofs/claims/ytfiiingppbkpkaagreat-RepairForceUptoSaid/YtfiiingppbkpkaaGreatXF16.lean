/- Texts of this claim, part 16: Jud2, Jud3, Take, PNames, PSplit, PBfs. No condition. -/
import Derived.Test.YtfiiingppbkpkaaGreatXF15
import Derived.Test.YtfiiingppbkpkaaGreatXF11
import Derived.Lib.SplitLaws
import Derived.Lib.Join
import Derived.Test.YtfiiingppbkpkaaGreatXF13
import Derived.Test.YtfiiingppbkpkaaGreatXF12
set_option maxRecDepth 10000
set_option maxHeartbeats 4000000
set_option linter.unusedSimpArgs false
set_option linter.unusedVariables false
namespace La
open Go Go.Eng Go.Proofs
theorem one_rests {j : JS} {r : Rec} (h : restsB j r.act = true) : oneV j r = ⟨14, 0⟩ ∧ oneA j r = r.act ∧ oneJ j r = j := by
 simp [oneV, oneA, oneJ, oneE, h]
theorem one_form {j : JS} {r : Rec} (h : restsB j r.act = false) (h1 : madeB r.act = true) (h2 : hasI j.own r.act.fid = true ∨ r.act.fid ≥ 0) : oneV j r = ⟨2, 0⟩ ∧ oneA j r = r.act ∧ oneJ j r = j := by
 simp [oneV, oneA, oneJ, oneE, h, h1, h2]
theorem one_stale {j : JS} {r : Rec} (h : restsB j r.act = false) (h1 : ¬ (madeB r.act = true ∧ (hasI j.own r.act.fid = true ∨ r.act.fid ≥ 0))) (h2 : staleB { j with own := own1 j r } r (actJ j r) = true) :
  oneV j r = ⟨13, 0⟩ ∧ oneA j r = actJ j r ∧ oneJ j r = { j with own := own1 j r } := by
 simp [oneV, oneA, oneJ, oneE, h, h1, h2]
theorem one_err {j : JS} {r : Rec} (h : restsB j r.act = false) (h1 : ¬ (madeB r.act = true ∧ (hasI j.own r.act.fid = true ∨ r.act.fid ≥ 0))) (h2 : staleB { j with own := own1 j r } r (actJ j r) = false) (h3 : applyE j.l (actJ j r) ≠ 0) :
  oneV j r = ⟨applyE j.l (actJ j r), 0⟩ ∧ oneA j r = actJ j r ∧ oneJ j r = { j with own := if madeB r.act = true then mdel (own1 j r) r.act.fid else own1 j r } := by
 simp [oneV, oneA, oneJ, oneE, h, h1, h2, h3]
theorem one_done {j : JS} {r : Rec} (h : restsB j r.act = false) (h1 : ¬ (madeB r.act = true ∧ (hasI j.own r.act.fid = true ∨ r.act.fid ≥ 0))) (h2 : staleB { j with own := own1 j r } r (actJ j r) = false) (h3 : applyE j.l (actJ j r) = 0) :
  oneV j r = ⟨0, (actJ j r).fid⟩ ∧ oneA j r = actJ j r ∧ oneJ j r = { j with l := applyL j.l (actJ j r) j.version, next := if madeB r.act = true then j.next + 1 else j.next, version := j.version + 1, own := own1 j r } := by
 simp [oneV, oneA, oneJ, oneE, h, h1, h2, h3]
theorem one_ok (j : JS) (r : Rec) (hg : Good j.l) (hr : ActFit r.act) (hn : j.next.natAbs ≤ 90000000) (hv : j.version.natAbs ≤ 90000000) (G Y N : Nat → Nat) : FnOK Tryz.prog 68 [.ptr 29 6 0 0, .rp (ZR r) 0] (jH j G Y N)
  (fun x H => x = .tup [.agg (ZV (oneV j r)), .agg (ZA (oneA j r))] ∧ Holds (jH (oneJ j r) G Y N) H) := by
 have how := acts_own r.act hr.data
 have hre := rests_ok j r.act
 have q0 := @one_rests j r
 have q1 := @one_form j r
 have q2 := @one_stale j r
 have q3 := @one_err j r
 have q4 := @one_done j r
 have hfid : ∀ f (G Y N : Nat → Nat), FnOK Tryz.prog 98 [.ptr 29 6 0 0, .int .i64 f] (jH { j with own := own1 j r } G Y N) (fun x H => x = .int .i64 (atF (own1 j r) f) ∧ Holds (jH { j with own := own1 j r } G Y N) H) := fun f => fid_ok { j with own := own1 j r } f
 unfold jH jB jRow at hfid
 simp only at hfid
 have hst := stale_ok { j with own := own1 j r } r (actJ j r) hg.small
 have hap := apply_good hg (actJ j r) j.version (actJ_fit hr)
 have hwn : IntKind.i64.wrap (j.next + 1) = j.next + 1 := Eng.wrap_small (by omega) (by omega)
 have hwv : IntKind.i64.wrap (j.version + 1) = j.version + 1 := Eng.wrap_small (by omega) (by omega)
 unfold jaH jB jRow at hst
 unfold applyR at hap
 generalize staleB { j with own := own1 j r } r (actJ j r) = st at *
 generalize applyE j.l (actJ j r) = E at *
 generalize applyL j.l (actJ j r) j.version = L at *
 simp only [ZA, actJ] at hst hap
 generalize oneV j r = V at *
 generalize oneA j r = A at *
 generalize oneJ j r = J at *
 unfold jaH jB jRow ZA at hre
 unfold ZA at how
 unfold jH jB jRow ZR
 refine ZF tK (Tryz.func68) rfl (fun C => ?_)
 simp only [Tryz.ntmps68, Tryz.results68, go_sem]
 refine wG tK ?_
 refine wC Tryz.func35 (hf := (how)) (hk := ?_)
 refine wG tK ?_
 refine wP [29, 25, 26, 27, 6] Tryz.func97 (hf := (hre)) (hk := ?_)
 cases h0 : restsB j r.act with
 | true =>
  obtain ⟨e1, e2, e3⟩ := q0 h0
  refine wG tK ?_
  refine wDT (hb := (rfl)) (hk := ?_)
  refine wG tK ?_
  refine ZW ZM ?_
  refine ZS rfl ?_
  refine sB tK ?_
  refine sN tK 1 ?_
  refine sT tK ?_
  refine sT tK ?_
  refine sE ?_
  refine wKd ?_
  try simp only [go_sem, gA, gB, gC]
  refine wG tK ?_
  refine wU ?_ ?_
  ·simp [ZV, ZA, e1, e2]
  ·rw [e3]
   simp only [pins, List.cons_append, List.nil_append, List.map_cons, List.map_nil]
   repeat' refine ZH ?_ ?_
   all_goals first | exact YH _ | rfl | simp [go_sem]
 | false =>
  clear q0
  refine wG tK ?_
  refine wDF (hb := (rfl)) (hk := ?_)
  refine wR ?_
  refine wN tK 8 ?_
  refine cw_name 28 (by simp only [go_sem]; exact rfl) (fun c28 h28 => ?_)
  simp only [go_sem]
  have h28' : c28 = madeB r.act := by rw [← h28, cond_or]; rfl
  clear h28
  subst h28'
  refine wG tK ?_
  cases h1 : madeB r.act with
  | true =>
   refine wDT (hb := (rfl)) (hk := ?_)
   refine wG tK ?_
   refine ZW ZM ?_
   refine ZS rfl ?_
   refine sG tK ?_
   refine sE ?_
   refine wKd ?_
   try simp only [go_sem, gA, gB, gC]
   refine wG tK ?_
   cases h2 : (hasI j.own r.act.fid || decide (r.act.fid ≥ 0)) with
   | true =>
    obtain ⟨e1, e2, e3⟩ := q1 h0 h1 (by simpa using h2)
    refine wDT (hb := (by simpa [cond_or] using h2)) (hk := ?_)
    refine wG tK ?_
    refine ZW ZM ?_
    refine ZS rfl ?_
    refine sB tK ?_
    refine sN tK 1 ?_
    refine sT tK ?_
    refine sT tK ?_
    refine sE ?_
    refine wKd ?_
    try simp only [go_sem, gA, gB, gC]
    refine wG tK ?_
    refine wU ?_ ?_
    ·simp [ZV, ZA, e1, e2]
    ·rw [e3]
     simp only [pins, List.cons_append, List.nil_append, List.map_cons, List.map_nil]
     repeat' refine ZH ?_ ?_
     all_goals first | exact YH _ | rfl | simp [go_sem]
   | false =>
    refine wDF (hb := (by simpa [cond_or] using h2)) (hk := ?_)
    refine wG tK ?_
    refine ZW ZM ?_
    refine ZS rfl ?_
    refine sN tK 10 ?_
    refine sE ?_
    refine dS tK ?_
    refine wKd ?_
    try simp only [go_sem, gA, gB, gC]
    refine wG tK ?_
    have ho : own1 j r = mput j.own r.act.fid j.next := by unfold own1; rw [if_pos h1]
    rw [← ho]
    have hnf : ¬ (madeB r.act = true ∧ (hasI j.own r.act.fid = true ∨ r.act.fid ≥ 0)) := fun hh => by
     have := hh.2
     simp only [Bool.or_eq_false_iff, decide_eq_false_iff_not] at h2
     rcases this with h | h
     ·rw [h2.1] at h; cases h
     ·exact h2.2 h
    clear h2
    have hk5 : ¬ r.act.kind = 5 := fun e => by simp [madeB, e] at h1
    have hT : (if r.act.kind = 5 then atF (own1 j r) r.act.to else r.act.to) = r.act.to := if_neg hk5
    rw [hT] at hst hap
    -- the fids as they are here
    refine ZW ZM ?_
    refine ZS rfl ?_
    refine sN tK 3 ?_
    refine seg_callK rfl rfl (by simp only [go_sem]; try exact rfl) (by simp [go_sem]) ⟨_, Tryz.func98, by kernel_rfl, rfl⟩ [29, 25, 26, 27] (by simp only [go_sem, Bool.false_or, Bool.or_true, Bool.true_or, Bool.or_false, ↓reduceIte]; try exact rfl) (by simp [go_sem]) (by simp) (by simp [go_sem]) (by simp [go_sem]) (hfid r.act.fid) (by simp only [go_sem]; exact rfl) (by simp only [go_sem, Bool.false_or, Bool.or_true, Bool.true_or, Bool.or_false, ↓reduceIte]; exact rfl) ?_
    refine sN tK 3 ?_
    refine seg_callK rfl rfl (by simp only [go_sem]; try exact rfl) (by simp [go_sem]) ⟨_, Tryz.func98, by kernel_rfl, rfl⟩ [29, 25, 26, 27] (by simp only [go_sem, Bool.false_or, Bool.or_true, Bool.true_or, Bool.or_false, ↓reduceIte]; try exact rfl) (by simp [go_sem]) (by simp) (by simp [go_sem]) (by simp [go_sem]) (hfid r.act.dir) (by simp only [go_sem]; exact rfl) (by simp only [go_sem, Bool.false_or, Bool.or_true, Bool.true_or, Bool.or_false, ↓reduceIte]; exact rfl) ?_
    refine sN tK 1 ?_
    refine sT tK ?_
    refine sN tK 1 ?_
    refine sT tK ?_
    refine sE ?_
    refine wKd ?_
    try simp only [go_sem, gA, gB, gC]
    refine wG tK ?_
    refine wDF (hb := (by simp [hk5])) (hk := ?_)
    refine wG tK ?_
    refine wP [29, 25, 26, 27, 6] Tryz.func99 (hf := (hst)) (hk := ?_)
    refine wG tK ?_
    cases st with
    | true =>
     obtain ⟨e1, e2, e3⟩ := q2 h0 hnf rfl
     refine wDT (hb := (rfl)) (hk := ?_)
     refine wG tK ?_
     refine ZW ZM ?_
     refine ZS rfl ?_
     refine sB tK ?_
     refine sN tK 1 ?_
     refine sT tK ?_
     refine sT tK ?_
     refine sE ?_
     refine wKd ?_
     try simp only [go_sem, gA, gB, gC]
     refine wG tK ?_
     refine wU ?_ ?_
     ·simp [ZV, ZA, e1, e2, actJ, hk5]
     ·rw [e3]
      simp only [pins, List.cons_append, List.nil_append, List.map_cons, List.map_nil]
      repeat' refine ZH ?_ ?_
      all_goals first | exact YH _ | rfl | simp [go_sem]
    | false =>
     refine wDF (hb := (rfl)) (hk := ?_)
     refine wG tK ?_
     by_cases hE : E = 0
     ·obtain ⟨e1, e2, e3⟩ := q4 h0 hnf rfl hE
      subst hE
      rw [h1] at e3
      simp only [if_true, Bool.false_eq_true, if_false] at hap e3
      refine ZW ZM ?_
      refine ZS rfl ?_
      refine sN tK 9 ?_
      refine sC Tryz.func34 (hf := (hap)) (hk := ?_)
      refine sG tK ?_
      refine sE ?_
      refine wKd ?_
      try simp only [go_sem, gA, gB, gC]
      refine wG tK ?_
      refine wDF (hb := (by simp)) (hk := ?_)
      refine wG tK ?_ (by simp only [go_sem, hwn, hwv]; try exact rfl) (by simp [go_sem, hwn, hwv])
      refine wDT (hb := (by simp)) (hk := ?_)
      refine wG tK ?_ (by simp only [go_sem, hwn, hwv]; try exact rfl) (by simp [go_sem, hwn, hwv])
      refine ZW ZM ?_
      refine ZS rfl ?_
      refine sN tK 2 ?_
      refine sB tK ?_
      refine sN tK 1 ?_
      refine sT tK ?_
      refine sT tK ?_
      refine sE ?_
      refine wKd ?_
      try simp only [go_sem, gA, gB, gC]
      refine wG tK ?_
      refine wU ?_ ?_
      ·simp [ZV, ZA, e1, e2, actJ, hk5]
      ·rw [e3]
       simp only [pins, List.cons_append, List.nil_append, List.map_cons, List.map_nil]
       repeat' refine ZH ?_ ?_
       all_goals first | exact YH _ | rfl | simp [go_sem]
     ·obtain ⟨e1, e2, e3⟩ := q3 h0 hnf rfl hE
      rw [h1] at e3
      simp only [hE, if_true, Bool.false_eq_true, if_false] at hap e3
      refine ZW ZM ?_
      refine ZS rfl ?_
      refine sN tK 9 ?_
      refine sC Tryz.func34 (hf := (hap)) (hk := ?_)
      refine sG tK ?_
      refine sE ?_
      refine wKd ?_
      try simp only [go_sem, gA, gB, gC]
      refine wG tK ?_
      refine wDT (hb := (by simp [hE])) (hk := ?_)
      refine wG tK ?_
      refine wDT (hb := (by simp)) (hk := ?_)
      refine wG tK ?_
      refine ZW ZM ?_
      refine ZS rfl ?_
      refine sN tK 9 ?_
      refine sE ?_
      refine dS tK ?_
      refine wKd ?_
      try simp only [go_sem, gA, gB, gC]
      refine wG tK ?_
      refine ZW ZM ?_
      refine ZS rfl ?_
      refine sN tK 1 ?_
      refine sB tK ?_
      refine sN tK 1 ?_
      refine sT tK ?_
      refine sT tK ?_
      refine sE ?_
      refine wKd ?_
      try simp only [go_sem, gA, gB, gC]
      refine wG tK ?_
      refine wU ?_ ?_
      ·simp [ZV, ZA, e1, e2, actJ, hk5]
      ·rw [e3]
       simp only [pins, List.cons_append, List.nil_append, List.map_cons, List.map_nil]
       repeat' refine ZH ?_ ?_
       all_goals first | exact YH _ | rfl | simp [go_sem]
  | false =>
   refine wDF (hb := (rfl)) (hk := ?_)
   refine wG tK ?_
   have ho : own1 j r = j.own := by unfold own1; rw [h1]; rfl
   have hnf : ¬ (madeB r.act = true ∧ (hasI j.own r.act.fid = true ∨ r.act.fid ≥ 0)) := fun hh => by rw [h1] at hh; cases hh.1
   rw [← ho]
   -- the fids as they are here
   refine ZW ZM ?_
   refine ZS rfl ?_
   refine sN tK 3 ?_
   refine seg_callK rfl rfl (by simp only [go_sem]; try exact rfl) (by simp [go_sem]) ⟨_, Tryz.func98, by kernel_rfl, rfl⟩ [29, 25, 26, 27] (by simp only [go_sem, Bool.false_or, Bool.or_true, Bool.true_or, Bool.or_false, ↓reduceIte]; try exact rfl) (by simp [go_sem]) (by simp) (by simp [go_sem]) (by simp [go_sem]) (hfid r.act.fid) (by simp only [go_sem]; exact rfl) (by simp only [go_sem, Bool.false_or, Bool.or_true, Bool.true_or, Bool.or_false, ↓reduceIte]; exact rfl) ?_
   refine sN tK 3 ?_
   refine seg_callK rfl rfl (by simp only [go_sem]; try exact rfl) (by simp [go_sem]) ⟨_, Tryz.func98, by kernel_rfl, rfl⟩ [29, 25, 26, 27] (by simp only [go_sem, Bool.false_or, Bool.or_true, Bool.true_or, Bool.or_false, ↓reduceIte]; try exact rfl) (by simp [go_sem]) (by simp) (by simp [go_sem]) (by simp [go_sem]) (hfid r.act.dir) (by simp only [go_sem]; exact rfl) (by simp only [go_sem, Bool.false_or, Bool.or_true, Bool.true_or, Bool.or_false, ↓reduceIte]; exact rfl) ?_
   refine sN tK 1 ?_
   refine sT tK ?_
   refine sN tK 1 ?_
   refine sT tK ?_
   refine sE ?_
   refine wKd ?_
   try simp only [go_sem, gA, gB, gC]
   refine wG tK ?_
   by_cases hk5 : r.act.kind = 5
   ·have hT : (if r.act.kind = 5 then atF (own1 j r) r.act.to else r.act.to) = atF (own1 j r) r.act.to := if_pos hk5
    rw [hT] at hst hap
    refine wDT (hb := (by simp [hk5])) (hk := ?_)
    refine wG tK ?_
    refine wP [29, 25, 26, 27] Tryz.func98 (hf := (hfid r.act.to)) (hk := ?_)
    refine wG tK ?_
    refine wP [29, 25, 26, 27, 6] Tryz.func99 (hf := (hst)) (hk := ?_)
    refine wG tK ?_
    cases st with
    | true =>
     obtain ⟨e1, e2, e3⟩ := q2 h0 hnf rfl
     refine wDT (hb := (rfl)) (hk := ?_)
     refine wG tK ?_
     refine ZW ZM ?_
     refine ZS rfl ?_
     refine sB tK ?_
     refine sN tK 1 ?_
     refine sT tK ?_
     refine sT tK ?_
     refine sE ?_
     refine wKd ?_
     try simp only [go_sem, gA, gB, gC]
     refine wG tK ?_
     refine wU ?_ ?_
     ·simp [ZV, ZA, e1, e2, actJ, hk5]
     ·rw [e3]
      simp only [pins, List.cons_append, List.nil_append, List.map_cons, List.map_nil]
      repeat' refine ZH ?_ ?_
      all_goals first | exact YH _ | rfl | simp [go_sem]
    | false =>
     refine wDF (hb := (rfl)) (hk := ?_)
     refine wG tK ?_
     by_cases hE : E = 0
     ·obtain ⟨e1, e2, e3⟩ := q4 h0 hnf rfl hE
      subst hE
      rw [h1] at e3
      simp only [if_true, Bool.false_eq_true, if_false] at hap e3
      refine ZW ZM ?_
      refine ZS rfl ?_
      refine sN tK 9 ?_
      refine sC Tryz.func34 (hf := (hap)) (hk := ?_)
      refine sG tK ?_
      refine sE ?_
      refine wKd ?_
      try simp only [go_sem, gA, gB, gC]
      refine wG tK ?_
      refine wDF (hb := (by simp)) (hk := ?_)
      refine wG tK ?_ (by simp only [go_sem, hwn, hwv]; try exact rfl) (by simp [go_sem, hwn, hwv])
      refine wDF (hb := (by simp)) (hk := ?_)
      refine wG tK ?_ (by simp only [go_sem, hwn, hwv]; try exact rfl) (by simp [go_sem, hwn, hwv])
      refine ZW ZM ?_
      refine ZS rfl ?_
      refine sN tK 2 ?_
      refine sB tK ?_
      refine sN tK 1 ?_
      refine sT tK ?_
      refine sT tK ?_
      refine sE ?_
      refine wKd ?_
      try simp only [go_sem, gA, gB, gC]
      refine wG tK ?_
      refine wU ?_ ?_
      ·simp [ZV, ZA, e1, e2, actJ, hk5]
      ·rw [e3]
       simp only [pins, List.cons_append, List.nil_append, List.map_cons, List.map_nil]
       repeat' refine ZH ?_ ?_
       all_goals first | exact YH _ | rfl | simp [go_sem]
     ·obtain ⟨e1, e2, e3⟩ := q3 h0 hnf rfl hE
      rw [h1] at e3
      simp only [hE, if_true, Bool.false_eq_true, if_false] at hap e3
      refine ZW ZM ?_
      refine ZS rfl ?_
      refine sN tK 9 ?_
      refine sC Tryz.func34 (hf := (hap)) (hk := ?_)
      refine sG tK ?_
      refine sE ?_
      refine wKd ?_
      try simp only [go_sem, gA, gB, gC]
      refine wG tK ?_
      refine wDT (hb := (by simp [hE])) (hk := ?_)
      refine wG tK ?_
      refine wDF (hb := (by simp)) (hk := ?_)
      refine wG tK ?_
      refine ZW ZM ?_
      refine ZS rfl ?_
      refine sN tK 1 ?_
      refine sB tK ?_
      refine sN tK 1 ?_
      refine sT tK ?_
      refine sT tK ?_
      refine sE ?_
      refine wKd ?_
      try simp only [go_sem, gA, gB, gC]
      refine wG tK ?_
      refine wU ?_ ?_
      ·simp [ZV, ZA, e1, e2, actJ, hk5]
      ·rw [e3]
       simp only [pins, List.cons_append, List.nil_append, List.map_cons, List.map_nil]
       repeat' refine ZH ?_ ?_
       all_goals first | exact YH _ | rfl | simp [go_sem]
   ·have hT : (if r.act.kind = 5 then atF (own1 j r) r.act.to else r.act.to) = r.act.to := if_neg hk5
    rw [hT] at hst hap
    refine wDF (hb := (by simp [hk5])) (hk := ?_)
    refine wG tK ?_
    refine wP [29, 25, 26, 27, 6] Tryz.func99 (hf := (hst)) (hk := ?_)
    refine wG tK ?_
    cases st with
    | true =>
     obtain ⟨e1, e2, e3⟩ := q2 h0 hnf rfl
     refine wDT (hb := (rfl)) (hk := ?_)
     refine wG tK ?_
     refine ZW ZM ?_
     refine ZS rfl ?_
     refine sB tK ?_
     refine sN tK 1 ?_
     refine sT tK ?_
     refine sT tK ?_
     refine sE ?_
     refine wKd ?_
     try simp only [go_sem, gA, gB, gC]
     refine wG tK ?_
     refine wU ?_ ?_
     ·simp [ZV, ZA, e1, e2, actJ, hk5]
     ·rw [e3]
      simp only [pins, List.cons_append, List.nil_append, List.map_cons, List.map_nil]
      repeat' refine ZH ?_ ?_
      all_goals first | exact YH _ | rfl | simp [go_sem]
    | false =>
     refine wDF (hb := (rfl)) (hk := ?_)
     refine wG tK ?_
     by_cases hE : E = 0
     ·obtain ⟨e1, e2, e3⟩ := q4 h0 hnf rfl hE
      subst hE
      rw [h1] at e3
      simp only [if_true, Bool.false_eq_true, if_false] at hap e3
      refine ZW ZM ?_
      refine ZS rfl ?_
      refine sN tK 9 ?_
      refine sC Tryz.func34 (hf := (hap)) (hk := ?_)
      refine sG tK ?_
      refine sE ?_
      refine wKd ?_
      try simp only [go_sem, gA, gB, gC]
      refine wG tK ?_
      refine wDF (hb := (by simp)) (hk := ?_)
      refine wG tK ?_ (by simp only [go_sem, hwn, hwv]; try exact rfl) (by simp [go_sem, hwn, hwv])
      refine wDF (hb := (by simp)) (hk := ?_)
      refine wG tK ?_ (by simp only [go_sem, hwn, hwv]; try exact rfl) (by simp [go_sem, hwn, hwv])
      refine ZW ZM ?_
      refine ZS rfl ?_
      refine sN tK 2 ?_
      refine sB tK ?_
      refine sN tK 1 ?_
      refine sT tK ?_
      refine sT tK ?_
      refine sE ?_
      refine wKd ?_
      try simp only [go_sem, gA, gB, gC]
      refine wG tK ?_
      refine wU ?_ ?_
      ·simp [ZV, ZA, e1, e2, actJ, hk5]
      ·rw [e3]
       simp only [pins, List.cons_append, List.nil_append, List.map_cons, List.map_nil]
       repeat' refine ZH ?_ ?_
       all_goals first | exact YH _ | rfl | simp [go_sem]
     ·obtain ⟨e1, e2, e3⟩ := q3 h0 hnf rfl hE
      rw [h1] at e3
      simp only [hE, if_true, Bool.false_eq_true, if_false] at hap e3
      refine ZW ZM ?_
      refine ZS rfl ?_
      refine sN tK 9 ?_
      refine sC Tryz.func34 (hf := (hap)) (hk := ?_)
      refine sG tK ?_
      refine sE ?_
      refine wKd ?_
      try simp only [go_sem, gA, gB, gC]
      refine wG tK ?_
      refine wDT (hb := (by simp [hE])) (hk := ?_)
      refine wG tK ?_
      refine wDF (hb := (by simp)) (hk := ?_)
      refine wG tK ?_
      refine ZW ZM ?_
      refine ZS rfl ?_
      refine sN tK 1 ?_
      refine sB tK ?_
      refine sN tK 1 ?_
      refine sT tK ?_
      refine sT tK ?_
      refine sE ?_
      refine wKd ?_
      try simp only [go_sem, gA, gB, gC]
      refine wG tK ?_
      refine wU ?_ ?_
      ·simp [ZV, ZA, e1, e2, actJ, hk5]
      ·rw [e3]
       simp only [pins, List.cons_append, List.nil_append, List.map_cons, List.map_nil]
       repeat' refine ZH ?_ ?_
       all_goals first | exact YH _ | rfl | simp [go_sem]
theorem oursP_snoc (m : List (Int × Bool)) (l : List Int) (x : Int) : oursP m (l ++ [x]) = mput (oursP m l) x true := by
 unfold oursP; rw [List.foldl_append]; rfl
noncomputable def jgAt (l : List Node) (next version : Int) (log : List Rec) (i : Nat) : JG := (log.take i).foldl stepJ (startJ l next version)
theorem jgAt_succ (l : List Node) (next version : Int) {log : List Rec} {i : Nat} (h : i < log.length) : jgAt l next version log (i + 1) = stepJ (jgAt l next version log i) (log.getD i default) := by
 unfold jgAt; rw [ZT h, List.foldl_append]; rfl
theorem jgAt_inv {p : List Past} {l : List Node} (h : Hist p l) (next : Int) {log : List Rec} (hl : ∀ r, r ∈ log → ActFit r.act) {i : Nat} (hi : i ≤ log.length) : JInv p 0 i next (jgAt l next ((p.length + 1 : Nat) : Int) log i) := by
 have := JInv.judge h 0 next (log.take i) (fun r hr => hl r (List.mem_of_mem_take hr))
 rw [List.length_take, Nat.min_eq_left hi] at this
 exact this
def jgB (s : JG) : List (Nat × Blk) := [(45, .cells 71 2 (s.vs.map ZV)), (72, .cells 26 7 (s.done.map ZA)), (29, .cells 139 6 [jRow s.j]), (25, .map (mI s.j.own)), (26, .map (mB s.j.ours)), (27, .map (mB s.j.lost))]
theorem judge_ok (p : List Past) (l : List Node) (next : Int) (log : List Rec) (h : Hist p l) (hp : p.length ≤ 80000000) (hn : next.natAbs ≤ 80000000) (hlog : SmallL log) (hl2 : log.length ≤ 2000000) (hfit : ∀ r, r ∈ log → ActFit r.act) :
  FnOK Tryz.prog 39 [.sl (l.map ZN), .int .i64 next, .int .i64 ((p.length + 1 : Nat) : Int), .sl (log.map ZR)] []
   (fun r _ => r = .tup [.sl ((judgeJ l next ((p.length + 1 : Nat) : Int) log).vs.map ZV), .sl ((judgeJ l next ((p.length + 1 : Nat) : Int) log).done.map ZA), .sl ((judgeJ l next ((p.length + 1 : Nat) : Int) log).j.l.map ZN), .int .i64 (judgeJ l next ((p.length + 1 : Nat) : Int) log).j.next]) := by
 have how := own_ok l h.good.small
 have hlo := logs_own log hlog
 have hfin : judgeJ l next ((p.length + 1 : Nat) : Int) log = jgAt l next ((p.length + 1 : Nat) : Int) log log.length := by unfold jgAt; rw [List.take_length]; rfl
 have hinv := fun i => @jgAt_inv p l h next log hfit i
 have hsucc := fun i => @jgAt_succ l next ((p.length + 1 : Nat) : Int) log i
 have hz : jgAt l next ((p.length + 1 : Nat) : Int) log 0 = startJ l next ((p.length + 1 : Nat) : Int) := rfl
 rw [hfin]
 generalize jgAt l next ((p.length + 1 : Nat) : Int) log = st at *
 refine ZF tK (Tryz.func39) rfl (fun C => ?_)
 simp only [Tryz.ntmps39, Tryz.results39, go_sem]
 refine wG tK ?_
 refine wC Tryz.func38 (hf := (how)) (hk := ?_)
 refine wG tK ?_
 refine wC Tryz.func46 (hf := (hlo)) (hk := ?_)
 refine wG tK ?_
 refine cw_le (le_empty 72 26 7 (by simp only [go_sem]; try exact rfl)) ?_
 refine cw_le (le_empty 45 71 2 (by simp only [go_sem]; try exact rfl)) ?_
 simp only [go_sem]
 refine ZL (fun i : Nat => i ≤ log.length) (fun i => log.length - i) (fun i => [(13, .osl 45 2 0 (st i).vs.length), (14, .osl 72 7 0 (st i).done.length), (16, .any), (17, .any), (18, .any), (20, .any), (33, .int .i64 i), (34, .any), (35, .any), (36, .any), (37, .any), (38, .any), (39, .any), (40, .any), (41, .any), (42, .any), (43, .any), (44, .any), (45, .any), (46, .any), (47, .any), (48, .any), (49, .any), (50, .any), (51, .any), (52, .any), (53, .any), (54, .any), (55, .any), (56, .any), (57, .any), (58, .any), (59, .any), (60, .any), (61, .any), (62, .any), (63, .any), (64, .any), (65, .any), (66, .any), (67, .any), (68, .any), (69, .any), (70, .any), (71, .any), (72, .any), (73, .any)]) (fun i => jgB (st i)) 0 (by omega) ?_ fun i hi => ?_
 ·rw [hz]
  simp only [startJ, jgB, jRow, mI, mB]
  simp only [go_sem]
  exact ZU (by simp [go_sem]) (by simp [go_sem]) (by simp only [go_sem])
 unfold jgB jRow
 simp only [go_sem]
 refine wG tK ?_
 refine wD (fun h => ?_) (fun h => ?_)
 ·have hlt : i < log.length := by simp at h; omega
  have hg : (log.map ZR).getD i [] = ZR (log.getD i default) := Fam.getD hlt
  have hv := hinv i (by omega)
  have hf := hfit _ (YG hlt)
  have hsc := hsucc i hlt
  clear hinv hsucc
  generalize log.getD i default = r at *
  have hnx := hv.next
  have hvs := hv.vlen
  have hdl := hv.len
  have hone := one_ok (st i).j r hv.hist.good hf (by omega) (by have := hv.version; omega)
  have hst : st (i + 1) = (if (oneV (st i).j r).err = 0 then ⟨{ oneJ (st i).j r with ours := oursP (oneJ (st i).j r).ours (fids (oneA (st i).j r)) }, (st i).vs ++ [oneV (st i).j r], (st i).done ++ [oneA (st i).j r]⟩ else ⟨lose (oneJ (st i).j r) r.act.fid, (st i).vs ++ [oneV (st i).j r], (st i).done⟩) := by
   rw [hsc]; unfold stepJ oneV; rfl
  unfold jH jB jRow ZR at hone
  clear hsc hv
  generalize oneV (st i).j r = V at *
  generalize oneA (st i).j r = A at *
  generalize oneJ (st i).j r = J at *
  have hfd := fids_ok A
  have hf3 := fids_len A
  have how' := wi1 (i := i) (by omega)
  refine wGq tK ?_ ?_ (by simp only [go_sem, hg, ZR]; try exact rfl)
  ·simp [hg, ZR, hlt]
  refine ZZ 16 rfl (rfl) ?_
  simp only [go_sem]
  refine wP [29, 25, 26, 27] Tryz.func68 (hf := (hone)) (hk := ?_)
  refine wGq tK ?_ ?_ (by simp only [go_sem, ZV, ZA]; try exact rfl)
  ·simp [ZV, ZA, rowsOf]; omega
  by_cases hE : V.err = 0
  ·rw [if_pos hE] at hst
   refine wDF (hb := (by simp [hE])) (hk := ?_)
   refine wG tK ?_
   unfold ZA at hfd
   refine wC Tryz.func43 (hf := (hfd)) (hk := ?_)
   refine wG tK ?_
   refine ZL (fun k : Nat => k ≤ (fids A).length) (fun k => (fids A).length - k) (fun k => [(20, .any), (59, .int .i64 k), (60, .any), (61, .any), (62, .any), (63, .any), (64, .any), (65, .any), (66, .any), (67, .any), (68, .any)]) (fun k => [(26, .map (mB (oursP J.ours ((fids A).take k))))]) 0 (by omega) ?_ fun k hk => ?_
   ·simp only [go_sem]
    exact ZU (by simp [go_sem]) (by simp [go_sem, oursP]) (by simp [go_sem])
   simp only [go_sem]
   refine wG tK ?_
   refine wD (fun h => ?_) (fun h => ?_)
   ·have hlk : k < (fids A).length := by simp at h; omega
    have hgk : ((fids A).map ZI).getD k [] = ZI ((fids A).getD k default) := Fam.getD hlk
    have htk : oursP J.ours ((fids A).take (k + 1)) = mput (oursP J.ours ((fids A).take k)) ((fids A).getD k default) true := by rw [ZT hlk, oursP_snoc]
    have hwk : IntKind.i64.wrap ((k : Int) + 1) = ((k + 1 : Nat) : Int) := by rw [Eng.wrap_small (by omega) (by omega)]; rfl
    generalize (fids A).getD k default = f at *
    refine wGq tK ?_ ?_ (by simp only [go_sem, hgk, ZI, hwk]; try exact rfl)
    ·simp [hgk, ZI, hlk, AV.deepB, AV.pureB]
    refine ZB ⟨k + 1, by omega, by omega, ZU ?_ ?_ ?_⟩
    ·simp [go_sem]
    ·simp [go_sem, htk]
    ·simp [go_sem]
   ·have e : k = (fids A).length := by simp at h; omega
    subst e
    refine wGq tK ?_ ?_ (by simp only [go_sem, ZA, how']; try exact rfl)
    ·simp [ZA, rowsOf]; omega
    refine ZB ⟨i + 1, by omega, by omega, ZU ?_ ?_ ?_⟩
    ·simp [go_sem, hst]
    ·simp [go_sem, hst, jgB, jRow, ZV, ZA, List.take_length]
    ·simp [go_sem, hst]
  ·rw [if_neg hE] at hst
   refine wDT (hb := (by simp [hE])) (hk := ?_)
   refine wG tK ?_
   refine ZW ZM ?_
   refine ZS rfl ?_
   refine sN tK 7 ?_
   refine sE ?_
   refine dS tK ?_
   refine wKd ?_
   try simp only [go_sem, gA, gB, gC]
   refine wG tK ?_ (by simp only [go_sem, how']; try exact rfl) (by simp [go_sem, how'])
   refine ZB ⟨i + 1, by omega, by omega, ZU ?_ ?_ ?_⟩
   ·simp [go_sem, hst]
   ·simp [go_sem, hst, jgB, jRow, lose, ZV]
   ·simp [go_sem, hst]
 ·have e : i = log.length := by simp at h; omega
  subst e
  refine wG tK ?_
  refine ZW ZM ?_
  refine ZS rfl ?_
  refine sG tK ?_
  refine sE ?_
  refine wKd ?_
  try simp only [go_sem, gA, gB, gC]
  refine wG tK ?_
  refine ZZ 45 rfl (verdictRow_pure _) ?_
  simp only [go_sem]
  refine ZZ 72 rfl (actRow_pure _) ?_
  simp only [go_sem]
  refine wT ?_
  simp
def pastTo (s : Srv) (c : Int) (done : List Act) (i : Nat) : List Past := s.past ++ (done.take i).map fun a => ⟨c, a⟩
theorem pastTo_succ (s : Srv) (c : Int) {done : List Act} {i : Nat} (h : i < done.length) : pastTo s c done (i + 1) = pastTo s c done i ++ [⟨c, done.getD i default⟩] := by
 unfold pastTo; rw [ZT h, List.map_append, List.append_assoc]; rfl
theorem pastTo_len (s : Srv) (c : Int) (done : List Act) {i : Nat} (h : i ≤ done.length) : (pastTo s c done i).length = s.past.length + i := by
 unfold pastTo; simp; omega
theorem take_ok (s : Srv) (h : SrvOK 40000000 s) (c : Int) (log : List Rec) (hlog : SmallL log) (hl2 : log.length ≤ 2000000) (hfit : ∀ r, r ∈ log → ActFit r.act) :
  FnOK Tryz.prog 15 [.agg (ZQ s), .int .i64 c, .sl (log.map ZR)] []
   (fun r _ => r = .tup [.agg (ZQ (takeS s c log)), .sl ((judgeJ s.tree s.next ((s.past.length + 1 : Nat) : Int) log).vs.map ZV)]) := by
 have hn := h.next
 have hlen := h.len
 have hsp : SmallP s.past := ⟨by omega, fun p hp => by
  obtain ⟨st, _, _, h3⟩ := h.hist.st
  obtain ⟨i, hi⟩ := List.getElem?_of_mem hp
  have hil := (List.getElem?_eq_some_iff.1 hi).1
  have := (h3 i hil).2.1.data
  rwa [show s.past.getD i default = p by rw [List.getD_eq_getElem?_getD, hi]; rfl] at this⟩
 have hv := version_ok s (by omega)
 have hso := sown_okH s h.hist.good.small hsp
 have hj := judge_ok s.past s.tree s.next log h.hist (by omega) (by omega) hlog hl2 hfit
 have hinv := (JInv.judge h.hist c s.next log hfit).len
 have hT : takeS s c log = ⟨(judgeJ s.tree s.next ((s.past.length + 1 : Nat) : Int) log).j.l, (judgeJ s.tree s.next ((s.past.length + 1 : Nat) : Int) log).j.next, pastTo s c (judgeJ s.tree s.next ((s.past.length + 1 : Nat) : Int) log).done (judgeJ s.tree s.next ((s.past.length + 1 : Nat) : Int) log).done.length⟩ := by
  unfold takeS pastTo; rw [List.take_length]
 rw [hT]
 clear hT
 unfold ZQ at hv hso ⊢
 generalize judgeJ s.tree s.next ((s.past.length + 1 : Nat) : Int) log = g at *
 have hsu := fun i => @pastTo_succ s c g.done i
 have hle := fun i => @pastTo_len s c g.done i
 have hz : pastTo s c g.done 0 = s.past := by simp [pastTo]
 generalize pastTo s c g.done = P at *
 refine ZF tK (Tryz.func15) rfl (fun C => ?_)
 simp only [Tryz.ntmps15, Tryz.results15, go_sem]
 refine wG tK ?_
 refine ZZ 3 rfl (rfl) ?_
 simp only [go_sem]
 refine ZW ZM ?_
 refine ZS rfl ?_
 refine sN tK 5 ?_
 refine sC Tryz.func14 (hf := (hv)) (hk := ?_)
 refine sN tK 1 ?_
 refine sC Tryz.func39 (hf := (hj)) (hk := ?_)
 refine sG tK ?_
 refine sE ?_
 refine wKd ?_
 try simp only [go_sem, gA, gB, gC]
 refine wG tK ?_
 refine wCG [] 18 Tryz.func13 (hf := (hso)) (hk := ?_)
 refine wG tK ?_
 refine ZL (fun i : Nat => i ≤ g.done.length) (fun i => g.done.length - i) (fun i => [(14, .any), (29, .any), (36, .int .i64 i), (37, .any), (38, .any), (39, .any), (40, .any), (41, .any), (42, .any), (43, .any), (44, .any), (45, .any), (46, .any), (47, .any), (48, .any)])
  (fun i => [(12, .cells 31 3 [[.sl (g.j.l.map ZN), .int .i64 g.j.next, .osl 46 8 0 (P i).length]]), (46, .cells 88 8 ((P i).map ZP))]) 0 (by omega) ?_ fun i hi => ?_
 ·rw [hz]
  simp only [go_sem]
  exact ZU (by simp [go_sem]) (by simp [go_sem]) (by simp [go_sem])
 simp only [go_sem]
 refine wG tK ?_
 refine wD (fun h => ?_) (fun h => ?_)
 ·have hlt : i < g.done.length := by simp at h; omega
  have hg : (g.done.map ZA).getD i [] = ZA (g.done.getD i default) := Fam.getD hlt
  have hs1 := hsu i hlt
  have hl1 := hle i (by omega)
  have how' := wi1 (i := i) (by omega)
  generalize g.done.getD i default = a at *
  generalize P i = Q at *
  refine wR ?_
  refine wNq tK 4 ?_ ?_ (by simp only [go_sem]; exact rfl) (by simp only [go_sem]; exact rfl) (by simp only [go_sem, hg, ZA]; try exact rfl)
  ·simp [hg, ZA, hlt]
  refine wR ?_
  refine wN tK 6 ?_
  refine cw_le (le_killB 46 12 (by simp only [go_sem]; exact rfl) (by simp only [go_sem, kill]; exact rfl)) ?_
  refine wGq tK ?_ ?_ (by simp only [go_sem, how']; try exact rfl)
  ·simp [rowsOf, ZP]; omega
  refine ZB ⟨i + 1, by omega, by omega, ZU ?_ ?_ ?_⟩
  ·simp [go_sem]
  ·simp [go_sem, hs1, ZP, List.take_length]
  ·simp [go_sem]
 ·have e : i = g.done.length := by simp at h; omega
  subst e
  refine wG tK ?_
  refine ZZ 46 rfl (pastRow_pure _) ?_
  simp only [go_sem]
  refine wT ?_
  simp
end La
namespace La
open Go Go.Lib
def cutL (c : UInt8) : List UInt8 → List (List UInt8)
 | [] => [[]]
 | x :: r => if x = c then [] :: cutL c r else ((x :: (cutL c r).headD []) :: (cutL c r).tail)
theorem cutL_ne (c : UInt8) (s : List UInt8) : cutL c s ≠ [] := by
 cases s with
 | nil => simp [cutL]
 | cons x r => unfold cutL; split <;> simp
theorem cutL_eq (c : UInt8) (s : List UInt8) : (cutL c s).headD [] :: (cutL c s).tail = cutL c s := by
 cases e : cutL c s with
 | nil => exact absurd e (cutL_ne c s)
 | cons p ps => rfl
theorem splitK_cut (c : UInt8) : ∀ s : List UInt8, splitK [c] 0 (count s [c]) s = cutL c s
 | [] => by rw [count_miss (by simp [index])]; rfl
 | x :: r => by
  by_cases h : x = c
  ·subst h
   have hix : index (x :: r) [x] = ((0 : Nat) : Int) := by rw [index]; simp [List.isPrefixOf]
   rw [count_cons_eq, Nat.add_comm, splitK, hix]
   simp only [cutL, if_true]
   rw [← splitK_cut x r]
   simp
  ·have ih := splitK_cut c r
   have hp : ([c] : List UInt8).isPrefixOf (x :: r) = false := by simp [List.isPrefixOf, Ne.symm h]
   have hix : index (x :: r) [c] = if index r [c] == -1 then -1 else index r [c] + 1 := by rw [index, hp]; simp
   rw [count_cons_ne x c r h]
   simp only [cutL, if_neg h, ← ih]
   cases e : count r [c] with
   | zero => simp [splitK]
   | succ k =>
    have hm : ¬ index r [c] = -1 := fun e2 => by rw [count_miss e2] at e; cases e
    have hge := index_ge r [c]
    obtain ⟨j, hj⟩ : ∃ j : Nat, index r [c] = j := ⟨(index r [c]).toNat, by omega⟩
    have hix' : index (x :: r) [c] = ((j + 1 : Nat) : Int) := by rw [hix, if_neg (fun e => hm (beq_iff_eq.1 e)), hj]; omega
    simp only [splitK, hix', hj]
    have h1 : ((((j + 1 : Nat) : Int)) == -1) = false := beq_eq_false_iff_ne.2 (by omega)
    have h2 : (((j : Nat) : Int) == -1) = false := beq_eq_false_iff_ne.2 (by omega)
    simp only [h1, h2]
    simp
def cutA (c : UInt8) : List (List UInt8) → List UInt8 → List UInt8 → List (List UInt8)
 | done, cur, [] => done ++ [cur]
 | done, cur, x :: r => if x = c then cutA c (done ++ [cur]) [] r else cutA c done (cur ++ [x]) r
theorem cutA_eq (c : UInt8) : ∀ (s : List UInt8) (done : List (List UInt8)) (cur : List UInt8), cutA c done cur s = done ++ ((cur ++ (cutL c s).headD []) :: (cutL c s).tail)
 | [], done, cur => by simp [cutA, cutL]
 | x :: r, done, cur => by
  simp only [cutA, cutL]
  split
  ·rw [cutA_eq c r]
   have := cutL_eq c r
   simp only [List.nil_append, this, List.append_assoc, List.headD_cons, List.append_nil, List.tail_cons, List.singleton_append]
  ·rw [cutA_eq c r]; simp
theorem cutA_cut (c : UInt8) (s : List UInt8) : cutA c [] [] s = cutL c s := by
 rw [cutA_eq, List.nil_append, List.nil_append, cutL_eq]
theorem cutL_le (c : UInt8) : ∀ s : List UInt8, (cutL c s).length ≤ s.length + 1
 | [] => by simp [cutL]
 | x :: r => by
  have := cutL_le c r
  unfold cutL
  split
  ·simp; omega
  ·simp; omega
theorem cutL_part (c : UInt8) : ∀ (s p : List UInt8), p ∈ cutL c s → p.length ≤ s.length
 | [], p, h => by simp [cutL] at h; subst h; simp
 | x :: r, p, h => by
  unfold cutL at h
  have ih := cutL_part c r
  split at h
  ·rcases List.mem_cons.1 h with rfl | h
   ·simp
   ·have := ih p h; simp; omega
  ·rcases List.mem_cons.1 h with rfl | h
   ·have : (cutL c r).headD [] ∈ cutL c r := by
     have := cutL_eq c r
     rw [← this]; simp
    have := ih _ this; simp only [List.length_cons]; omega
   ·have := ih p (List.mem_of_mem_tail h); simp; omega
end La
namespace La
open Go Go.Eng
def splitR (s : List UInt8) : List (List UInt8) × Int :=
 if 40 < s.length then ([], 4) else if s = [47] then ([], 0) else if s.head? ≠ some 47 then ([], 2) else
  if (cutL 47 (s.drop 1)).all nameB then (cutL 47 (s.drop 1), 0) else ([], 7)
def splitA (p : List (List UInt8) × Int) : AV := .tup [.sl (p.1.map strRow), .int .i64 p.2]
inductive MReach (m : List (Int × Node)) (k : Int) : Int → Prop
 | refl : MReach m k k
 | step {x : Int} {n : Node} {e : Entry} (h : MReach m k x) (hn : mget m x = some n) (he : e ∈ n.entries) : MReach m k e.fid
def allF (m : List (Int × Node)) : List Int := m.flatMap fun p => p.2.entries.map (·.fid)
theorem allF_mem {m : List (Int × Node)} {x : Int} {n : Node} {e : Entry} (hn : mget m x = some n) (he : e ∈ n.entries) : e.fid ∈ allF m :=
 List.mem_flatMap.2 ⟨_, mget_mem hn, List.mem_map.2 ⟨e, he, rfl⟩⟩
def unseen (m : List (Int × Node)) (had : List (Int × Bool)) : Nat := ((allF m).filter fun f => !(getB had f)).length
theorem unseen_put {m : List (Int × Node)} {had : List (Int × Bool)} (hr : RiseM had) {f : Int} (hf : f ∈ allF m) (h : getB had f = false) : unseen m (mput had f true) + 1 ≤ unseen m had := by
 unfold unseen
 generalize allF m = l at hf
 have hle : ∀ l : List Int, (l.filter fun x => !(getB (mput had f true) x)).length ≤ (l.filter fun x => !(getB had x)).length := fun l => by
  induction l with
  | nil => simp
  | cons x r ih =>
   rw [List.filter_cons, List.filter_cons, getB_put hr]
   by_cases hx : x = f
   ·subst hx; simp [h]; omega
   ·simp only [hx, if_false]; split <;> (try simp only [List.length_cons]) <;> omega
 induction l with
 | nil => cases hf
 | cons x r ih =>
  rw [List.filter_cons, List.filter_cons, getB_put hr]
  by_cases hx : x = f
  ·subst hx
   have := hle r
   simp [h]; omega
  ·have hf2 : f ∈ r := by
    rcases List.mem_cons.1 hf with h1 | h1
    ·exact absurd h1.symm hx
    ·exact h1
   have := ih hf2
   simp only [hx, if_false]
   split <;> (try simp only [List.length_cons]) <;> omega
structure BI (m : List (Int × Node)) (k : Int) (had : List (Int × Bool)) (T : List Int) : Prop where
 rise : RiseM had
 sound : ∀ x, getB had x = true → MReach m k x
 start : getB had k = true
 todo : ∀ x, x ∈ T → getB had x = true
 shut : ∀ x, getB had x = true → x ∉ T → ∀ n, mget m x = some n → ∀ e, e ∈ n.entries → getB had e.fid = true
 size : T.length + unseen m had ≤ (allF m).length + 1
structure BJ (m : List (Int × Node)) (k : Int) (x : Int) (n : Node) (c : Nat) (j : Nat) (had : List (Int × Bool)) (T : List Int) : Prop where
 at_ : mget m x = some n
 rise : RiseM had
 sound : ∀ x, getB had x = true → MReach m k x
 start : getB had k = true
 todo : ∀ x, x ∈ T → getB had x = true
 shut : ∀ x, getB had x = true → x ∉ T → ∀ n, mget m x = some n → ∀ e, e ∈ n.entries → getB had e.fid = true
 done : ∀ e, e ∈ n.entries.take j → getB had e.fid = true
 head : ∃ r, T = x :: r
 size : T.length + unseen m had ≤ c
theorem BI.begin (m : List (Int × Node)) (k : Int) : BI m k (mput [] k true) [k] := by
 have hr : RiseM ([] : List (Int × Bool)) := List.Pairwise.nil
 have hg : ∀ x, getB (mput [] k true) x = true → x = k := fun x h => by
  rw [getB_put hr] at h
  by_cases e : x = k
  ·exact e
  ·rw [if_neg e] at h; cases h
 refine ⟨mput_rise hr, fun x h => by rw [hg x h]; exact .refl, by rw [getB_put hr, if_pos rfl], fun x h => by rw [List.mem_singleton.1 h, getB_put hr, if_pos rfl], fun x h hn => absurd (List.mem_singleton.2 (hg x h)) hn, ?_⟩
 have : unseen m (mput [] k true) ≤ (allF m).length := List.length_filter_le _ _
 simp; omega
theorem BI.inner {m : List (Int × Node)} {k : Int} {had : List (Int × Bool)} {x : Int} {r : List Int} (h : BI m k had (x :: r)) {n : Node} (hn : mget m x = some n) : BJ m k x n ((x :: r).length + unseen m had) 0 had (x :: r) :=
 ⟨hn, h.rise, h.sound, h.start, h.todo, h.shut, fun e he => by simp at he, ⟨r, rfl⟩, Nat.le_refl _⟩
theorem BI.none {m : List (Int × Node)} {k : Int} {had : List (Int × Bool)} {x : Int} {r : List Int} (h : BI m k had (x :: r)) (hn : mget m x = none) : BI m k had r :=
 ⟨h.rise, h.sound, h.start, fun y hy => h.todo y (List.mem_cons_of_mem _ hy), fun y hy hno n hmn => h.shut y hy (fun hm => by
  rcases List.mem_cons.1 hm with rfl | hm
  ·rw [hn] at hmn; cases hmn
  ·exact hno hm) n hmn, by have := h.size; simp at this; omega⟩
theorem BJ.pop {m : List (Int × Node)} {k x : Int} {n : Node} {c : Nat} {had : List (Int × Bool)} {T : List Int} (h : BJ m k x n c n.entries.length had T) (hc : c ≤ (allF m).length + 1) :
  BI m k had (T.drop 1) ∧ (T.drop 1).length + unseen m had < c := by
 obtain ⟨r, rfl⟩ := h.head
 have hs := h.size
 simp only [List.length_cons] at hs
 simp only [List.drop_succ_cons, List.drop_zero]
 refine ⟨⟨h.rise, h.sound, h.start, fun y hy => h.todo y (List.mem_cons_of_mem _ hy), fun y hy hno n' hmn e he => ?_, by omega⟩, by omega⟩
 by_cases hyx : y = x
 ·subst hyx
  rw [h.at_] at hmn; injection hmn with hmn; subst hmn
  exact h.done e (by rw [List.take_length]; exact he)
 ·exact h.shut y hy (fun hm => by
   rcases List.mem_cons.1 hm with h1 | h1
   ·exact hyx h1
   ·exact hno h1) n' hmn e he
theorem BJ.skip {m : List (Int × Node)} {k x : Int} {n : Node} {c j : Nat} {had : List (Int × Bool)} {T : List Int} (h : BJ m k x n c j had T) (hj : j < n.entries.length) (hb : getB had (n.entries.getD j default).fid = true) : BJ m k x n c (j + 1) had T :=
 ⟨h.at_, h.rise, h.sound, h.start, h.todo, h.shut, fun e he => by
  rw [ZT hj] at he
  rcases List.mem_append.1 he with he | he
  ·exact h.done e he
  ·rw [List.mem_singleton.1 he]; exact hb, h.head, h.size⟩
theorem BJ.add {m : List (Int × Node)} {k x : Int} {n : Node} {c j : Nat} {had : List (Int × Bool)} {T : List Int} (h : BJ m k x n c j had T) (hj : j < n.entries.length) (hb : getB had (n.entries.getD j default).fid = false) :
  BJ m k x n c (j + 1) (mput had (n.entries.getD j default).fid true) (T ++ [(n.entries.getD j default).fid]) := by
 have hmem : n.entries.getD j default ∈ n.entries := YG hj
 have htk : ∀ e, e ∈ n.entries.take (j + 1) → e ∈ n.entries.take j ∨ e = n.entries.getD j default := fun e he => by
  rw [ZT hj] at he
  rcases List.mem_append.1 he with he | he
  ·exact .inl he
  ·exact .inr (List.mem_singleton.1 he)
 generalize n.entries.getD j default = f at *
 have hg : ∀ y, getB (mput had f.fid true) y = if y = f.fid then true else getB had y := getB_put h.rise f.fid true
 have hmono : ∀ y, getB had y = true → getB (mput had f.fid true) y = true := fun y hy => by rw [hg]; split <;> first | rfl | exact hy
 obtain ⟨r, hr⟩ := h.head
 have hx : getB had x = true := h.todo x (by rw [hr]; simp)
 refine ⟨h.at_, mput_rise h.rise, fun y hy => ?_, hmono _ h.start, fun y hy => ?_, fun y hy hno n' hmn e he => ?_, fun e he => ?_, ⟨r ++ [f.fid], by rw [hr]; rfl⟩, ?_⟩
 ·rw [hg] at hy
  split at hy
  ·rename_i e; subst e; exact .step (h.sound x hx) h.at_ hmem
  ·exact h.sound y hy
 ·rcases List.mem_append.1 hy with hy | hy
  ·exact hmono _ (h.todo y hy)
  ·rw [List.mem_singleton.1 hy, hg, if_pos rfl]
 ·rw [hg] at hy
  split at hy
  ·rename_i e'; exact absurd (List.mem_append_right _ (List.mem_singleton.2 e')) hno
  ·exact hmono _ (h.shut y hy (fun hm => hno (List.mem_append_left _ hm)) n' hmn e he)
 ·rcases htk e he with h1 | h1
  ·exact hmono _ (h.done e h1)
  ·rw [h1, hg, if_pos rfl]
 ·have := unseen_put h.rise (allF_mem h.at_ hmem) hb
  have := h.size
  simp only [List.length_append, List.length_cons, List.length_nil]
  omega
theorem BI.fin {m : List (Int × Node)} {k : Int} {had : List (Int × Bool)} (h : BI m k had []) (x : Int) : getB had x = true ↔ MReach m k x := by
 refine ⟨h.sound x, fun hr => ?_⟩
 induction hr with
 | refl => exact h.start
 | step hr hn he ih => exact h.shut _ ih (by simp) _ hn _ he
end La
