/- Texts of this claim, part 29: RWorld, NewS, RNew, RBuild, RRight, RLaw12. No condition. -/
import Derived.Test.YtfiiingppbkpkaaGreatXL28
import Derived.Test.YtfiiingppbkpkaaGreatXL20
import Derived.Test.YtfiiingppbkpkaaGreatXL11
import Derived.Test.YtfiiingppbkpkaaGreatXL15
import Derived.Test.YtfiiingppbkpkaaGreatXL18
import Derived.Test.YtfiiingppbkpkaaGreatXL26
set_option maxRecDepth 10000
set_option maxHeartbeats 4000000
set_option linter.unusedSimpArgs false
set_option linter.unusedVariables false
namespace La
open Go Go.Eng Go.Proofs
def worldA (g : GotW) : AV := .tup [.agg (worRow g.w), .agg (replyRow g.r)]
def csT (t : List Node) (cs : List Cli) (j : Nat) (c : Cli) (i : Nat) : List Cli := ((cs.set j c).take i).map (freshW t)
theorem csT_succ {t : List Node} {cs : List Cli} {j : Nat} {c : Cli} {i : Nat} (h : i < cs.length) : csT t cs j c (i + 1) = csT t cs j c i ++ [freshW t (if i = j then c else cs.getD i default)] := by
 unfold csT
 rw [ZT (show i < (cs.set j c).length by rw [List.length_set]; exact h), List.map_append]
 have : (cs.set j c).getD i default = if i = j then c else cs.getD i default := by
  rw [List.getD_eq_getElem?_getD, List.getElem?_set]
  by_cases e : j = i
  ·subst e
   rw [if_pos rfl, if_pos h, if_pos rfl]; rfl
  ·rw [if_neg e, if_neg (fun h => e h.symm), List.getD_eq_getElem?_getD]
 rw [this]; rfl
theorem csT_len {t : List Node} {cs : List Cli} {j : Nat} {c : Cli} {i : Nat} (h : i ≤ cs.length) : (csT t cs j c i).length = i := by
 unfold csT; rw [List.length_map, List.length_take, List.length_set]; omega
theorem rworld_out {B T : Nat} (w : Wor) (h : WInv B T w) (hB : B ≤ 30000000) (hT : T ≤ 800000000000) (x : Step) (hp : x.path.length ≤ 10000000) (hq : x.toPath.length ≤ 10000000) (hb : x.client < 0 ∨ x.client ≥ w.cs.length) : FnOK Tryz.prog 31 [.agg (worRow w), .agg (ZX x)] [] (fun r _ => r = worldA (worldU w x)) := by
 have h3 := h.len
 have hW : worldU w x = ⟨w, errR 6⟩ := by unfold worldU; rw [if_pos hb]
 rw [hW]
 unfold worRow ZX
 refine ZF tK (Tryz.func31) rfl (fun C => ?_)
 simp only [Tryz.ntmps31, Tryz.results31, go_sem]
 refine wR ?_
 refine wN tK 4 ?_
 refine wR ?_
 refine wN tK 11 ?_
 refine cw_name 22 (by simp only [go_sem]; exact rfl) (fun c22 h22 => ?_)
 simp only [go_sem]
 have hc : c22 = true := by
  rw [← h22]
  by_cases h1 : x.client < 0
  ·simp [h1]
  ·simp [h1]; omega
 clear h22
 refine wG tK ?_
 refine wDT (hb := (hc)) (hk := ?_)
 refine wG tK ?_
 refine cw_le (le_nil0 5) ?_
 simp only [go_sem]
 refine wT ?_
 rfl
theorem rworld_in {B T : Nat} (w : Wor) (h : WInv B T w) (hB : B ≤ 30000000) (hT : T ≤ 800000000000) (x : Step) (hp : x.path.length ≤ 10000000) (hq : x.toPath.length ≤ 10000000) (hb : ¬ (x.client < 0 ∨ x.client ≥ w.cs.length)) : FnOK Tryz.prog 31 [.agg (worRow w), .agg (ZX x)] [] (fun r _ => r = worldA (worldU w x)) := by
 have h3 := h.len
 obtain ⟨k, cl, n, path, toPath, data⟩ := x
 simp only at hb hp hq
 obtain ⟨j, rfl⟩ : ∃ j : Nat, cl = (j : Int) := ⟨cl.toNat, by omega⟩
 have hj : j < w.cs.length := by omega
 have hu := h.at hj
 have hst := rstep_ok (w.cs.getD j default) w.s hu hB hT ⟨k, j, n, path, toPath, data⟩ hp hq
 have hinv := step_inv hu ⟨k, j, n, path, toPath, data⟩
 have hW : worldU w ⟨k, j, n, path, toPath, data⟩ = ⟨⟨(stepU ⟨w.cs.getD j default, w.s⟩ ⟨k, j, n, path, toPath, data⟩).u.s, csT (stepU ⟨w.cs.getD j default, w.s⟩ ⟨k, j, n, path, toPath, data⟩).u.s.tree w.cs j (stepU ⟨w.cs.getD j default, w.s⟩ ⟨k, j, n, path, toPath, data⟩).u.c w.cs.length⟩, (stepU ⟨w.cs.getD j default, w.s⟩ ⟨k, j, n, path, toPath, data⟩).r⟩ := by
  unfold worldU csT
  rw [if_neg hb, show w.cs.length = (w.cs.set j (stepU ⟨w.cs.getD j default, w.s⟩ ⟨k, j, n, path, toPath, data⟩).u.c).length by rw [List.length_set], List.take_length]
  rfl
 have hcx : ∀ i, i < w.cs.length → (w.cs.getD i default).cache.length ≤ 24 := fun i hi => by have := (h.at hi).cli.len; have := (h.at hi).cli.room; simp only at *; omega
 rw [hW]
 have hg0 : (w.cs.map ZC).getD j [] = ZC (w.cs.getD j default) := Fam.getD hj
 generalize w.cs.getD j default = c0 at hst hinv hg0 ⊢
 generalize stepU ⟨c0, w.s⟩ ⟨k, j, n, path, toPath, data⟩ = g at *
 have hcg : g.u.c.cache.length ≤ 24 := by have := hinv.cli.len; have := hinv.cli.room; omega
 have hof := of_rm g.u.s.tree (by have := hinv.srv.hist.good.len; omega)
 have hfr0 := fun l hl => rfreshK_ok l g.u.s.tree hl hinv.srv.hist.good.up
 have hcc : ∀ kk : Cli, kk.cache.length ≤ 24 → kk.cache.length ≤ 90000000 := fun kk hk => by omega
 have hPs := fun i => @csT_succ g.u.s.tree w.cs j g.u.c i
 have hPl := fun i => @csT_len g.u.s.tree w.cs j g.u.c i
 have hP0 : csT g.u.s.tree w.cs j g.u.c 0 = [] := rfl
 generalize csT g.u.s.tree w.cs j g.u.c = P at *
 unfold stepA ZC ZQ ZX replyRow at hst
 unfold worldA worRow ZX replyRow
 refine ZF tK (Tryz.func31) rfl (fun C => ?_)
 simp only [Tryz.ntmps31, Tryz.results31, go_sem]
 refine wR ?_
 refine wN tK 4 ?_
 refine wR ?_
 refine wN tK 11 ?_
 refine cw_name 22 (by simp only [go_sem]; exact rfl) (fun c22 h22 => ?_)
 simp only [go_sem]
 have hc : c22 = false := by
  rw [← h22]
  have h1 : ¬ ((j : Int) < 0) := by omega
  simp [h1]; omega
 clear h22
 refine wG tK ?_
 refine wDF (hb := (hc)) (hk := ?_)
 refine wG tK ?_
 refine ZW ZM ?_
 refine ZS rfl ?_
 refine sNq tK 9 ?_ ?_ (by simp only [go_sem]; exact rfl) (by simp only [go_sem]; exact rfl) (by simp only [go_sem, hg0, ZC]; try exact rfl)
 ·simp [hg0, hj, ZC]
 refine sC Tryz.func51 (hf := (hst)) (hk := ?_)
 refine sN tK 4 ?_
 refine sW tK ?_
 refine sW tK ?_
 refine sW tK ?_
 refine sT tK ?_
 refine sT tK ?_
 refine sT tK ?_
 refine sE ?_
 refine wKd ?_
 try simp only [go_sem, gA, gB, gC]
 refine wG tK ?_
 refine cw_le (le_empty 68 110 10 (by simp only [go_sem]; try exact rfl)) ?_
 simp only [go_sem]
 refine cw_le (le_rows 9 ([[.sl (g.u.s.tree.map ZN), .int .i64 g.u.s.next, .sl (g.u.s.past.map ZP), .osl 68 10 0 0]]) (by simp only [go_sem]; exact rfl) (by simp [leRowsP, leWk, wk])) ?_
 simp only [go_sem]
 refine ZL (fun i : Nat => i ≤ w.cs.length) (fun i => w.cs.length - i) (fun i => [(10, .any), (11, .any), (44, .int .i64 i), (45, .any), (46, .any), (47, .any), (48, .any), (49, .any), (50, .any), (51, .any), (52, .any), (53, .any), (54, .any), (55, .any), (56, .any), (57, .any), (58, .any), (59, .any), (60, .any), (61, .any), (62, .any), (63, .any), (64, .any), (65, .any), (66, .any), (67, .any), (68, .any), (69, .any), (70, .any)])
  (fun i => [(9, .cells 34 4 [[.sl (g.u.s.tree.map ZN), .int .i64 g.u.s.next, .sl (g.u.s.past.map ZP), .osl 68 10 0 (P i).length]]), (68, .cells 110 10 ((P i).map ZC))]) 0 (by omega) ?_ fun i hi => ?_
 ·rw [hP0]
  simp only [go_sem]
  exact ZU (by simp [go_sem]) (by simp [go_sem]) (by simp [go_sem])
 simp only [go_sem]
 refine wG tK ?_
 refine wD (fun h => ?_) (fun h => ?_)
 ·have hlt : i < w.cs.length := by simp at h; omega
  have hg1 : (w.cs.map ZC).getD i [] = ZC (w.cs.getD i default) := Fam.getD hlt
  have how' := wi1 (i := i) (by omega)
  have hs1 := hPs i hlt
  have hl1 := hPl i hi
  have hci := hcx i hlt
  generalize w.cs.getD i default = ci at *
  generalize P i = Q at *
  have htq : List.take Q.length (Q.map ZC) = Q.map ZC := List.take_of_length_le (by simp)
  refine wR ?_
  refine wNq tK 6 ?_ ?_ (by simp only [go_sem]; exact rfl) (by simp only [go_sem]; exact rfl) (by simp only [go_sem, hg1, ZC]; try exact rfl)
  ·simp [hg1, ZC, hlt]
  refine wG tK ?_
  by_cases hij : i = j
  ·rw [if_pos hij] at hs1
   refine wDT (hb := (by simp [hij])) (hk := ?_)
   refine wG tK ?_
   have hin := hcg
   generalize hkv : g.u.c = kk at *
   cases haw : kk.away with
   | true =>
    have hkk : freshW g.u.s.tree kk = kk := by unfold freshW; rw [if_pos haw]
    refine wDF (hb := (by simp [haw])) (hk := ?_)
    refine wR ?_
    refine wN tK 2 ?_
    refine cw_le (le_killB 68 9 (by simp only [go_sem]; exact rfl) (by simp only [go_sem, kill]; exact rfl)) ?_
    refine wGq tK ?_ ?_ (by simp only [go_sem, how']; try exact rfl)
    ·simp [htq, refs]
     omega
    refine ZB ⟨i + 1, by omega, by omega, ZU ?_ ?_ ?_⟩
    ·simp [go_sem]
    ·simp [go_sem, hs1, htq, ZC, hkk, haw]
    ·simp [go_sem]
   | false =>
    have hkk : freshW g.u.s.tree kk = { kk with cache := kk.cache.filter fun k => !staleK g.u.s.tree k } := by unfold freshW freshC; rw [if_neg (by simp [haw])]
    have hfr := hfr0 kk.cache (hcc kk hin)
    refine wDT (hb := (by simp [haw])) (hk := ?_)
    refine wG tK ?_
    refine ZW ZM ?_
    refine ZS rfl ?_
    refine sN tK 4 ?_
    refine sC Tryz.func20 (hf := (hof)) (hk := ?_)
    refine sC Tryz.func52 (hf := (hfr)) (hk := ?_)
    refine sN tK 1 ?_
    refine sT tK ?_
    refine sE ?_
    refine wKd ?_
    try simp only [go_sem, gA, gB, gC]
    refine wR ?_
    refine wN tK 2 ?_
    refine cw_le (le_killB 68 9 (by simp only [go_sem]; exact rfl) (by simp only [go_sem, kill]; exact rfl)) ?_
    refine wGq tK ?_ ?_ (by simp only [go_sem, how']; try exact rfl)
    ·simp [htq, refs]
     omega
    refine ZB ⟨i + 1, by omega, by omega, ZU ?_ ?_ ?_⟩
    ·simp [go_sem]
    ·simp [go_sem, hs1, htq, ZC, hkk, haw]
    ·simp [go_sem]
  ·rw [if_neg hij] at hs1
   refine wDF (hb := (by simp; omega)) (hk := ?_)
   refine wG tK ?_
   have hin := hci
   generalize hkv : ci = kk at *
   cases haw : kk.away with
   | true =>
    have hkk : freshW g.u.s.tree kk = kk := by unfold freshW; rw [if_pos haw]
    refine wDF (hb := (by simp [haw])) (hk := ?_)
    refine wR ?_
    refine wN tK 2 ?_
    refine cw_le (le_killB 68 9 (by simp only [go_sem]; exact rfl) (by simp only [go_sem, kill]; exact rfl)) ?_
    refine wGq tK ?_ ?_ (by simp only [go_sem, how']; try exact rfl)
    ·simp [htq, refs]
     omega
    refine ZB ⟨i + 1, by omega, by omega, ZU ?_ ?_ ?_⟩
    ·simp [go_sem]
    ·simp [go_sem, hs1, htq, ZC, hkk, haw]
    ·simp [go_sem]
   | false =>
    have hkk : freshW g.u.s.tree kk = { kk with cache := kk.cache.filter fun k => !staleK g.u.s.tree k } := by unfold freshW freshC; rw [if_neg (by simp [haw])]
    have hfr := hfr0 kk.cache (hcc kk hin)
    refine wDT (hb := (by simp [haw])) (hk := ?_)
    refine wG tK ?_
    refine ZW ZM ?_
    refine ZS rfl ?_
    refine sN tK 4 ?_
    refine sC Tryz.func20 (hf := (hof)) (hk := ?_)
    refine sC Tryz.func52 (hf := (hfr)) (hk := ?_)
    refine sN tK 1 ?_
    refine sT tK ?_
    refine sE ?_
    refine wKd ?_
    try simp only [go_sem, gA, gB, gC]
    refine wR ?_
    refine wN tK 2 ?_
    refine cw_le (le_killB 68 9 (by simp only [go_sem]; exact rfl) (by simp only [go_sem, kill]; exact rfl)) ?_
    refine wGq tK ?_ ?_ (by simp only [go_sem, how']; try exact rfl)
    ·simp [htq, refs]
     omega
    refine ZB ⟨i + 1, by omega, by omega, ZU ?_ ?_ ?_⟩
    ·simp [go_sem]
    ·simp [go_sem, hs1, htq, ZC, hkk, haw]
    ·simp [go_sem]
 ·have e : i = w.cs.length := by simp at h; omega
  subst e
  have hl1 := hPl w.cs.length (Nat.le_refl _)
  generalize P w.cs.length = Q at *
  have htq : List.take Q.length (Q.map ZC) = Q.map ZC := List.take_of_length_le (by simp)
  refine ZZ 68 rfl (cliRow_pure _) ?_
  simp only [go_sem, htq]
  refine wG tK ?_
  refine ZW ZM ?_
  refine ZS rfl ?_
  refine sN tK 2 ?_
  refine sT tK ?_
  refine sT tK ?_
  refine sE ?_
  refine wKd ?_
  try simp only [go_sem, gA, gB, gC]
  refine wG tK ?_
  refine wT ?_
  rfl
theorem rworld_ok {B T : Nat} (w : Wor) (h : WInv B T w) (hB : B ≤ 30000000) (hT : T ≤ 800000000000) (x : Step) (hp : x.path.length ≤ 10000000) (hq : x.toPath.length ≤ 10000000) : FnOK Tryz.prog 31 [.agg (worRow w), .agg (ZX x)] [] (fun r _ => r = worldA (worldU w x)) := by
 by_cases hb : x.client < 0 ∨ x.client ≥ w.cs.length
 ·exact rworld_out w h hB hT x hp hq hb
 ·exact rworld_in w h hB hT x hp hq hb
theorem newServer_raw : FnOK Tryz.prog 10 [] [] (fun r _ => r = .agg [.sl [[.int .i64 0, .bool true, .nils, .nils, .int .i64 0]], .int .i64 1, .nils]) := by
 refine ZF tK (Tryz.func10) rfl (fun C => ?_)
 simp only [Tryz.ntmps10, Tryz.results10, go_sem]
 refine wG tK ?_
 refine ZZ 2 rfl (rfl) ?_
 simp only [go_sem]
 refine wT ?_
 rfl
theorem newServer_ok : FnOK Tryz.prog 10 [] [] (fun r _ => r = .agg (ZQ ⟨[rootN], 1, []⟩)) := FnOK.nrmR newServer_raw rfl
def zeroW : Wor := ⟨⟨[], 0, []⟩, []⟩
def newWA (rooms : List Int) : AV := .tup [.agg (worRow (if roomsE rooms = 0 then newW rooms else zeroW)), .int .i64 (roomsE rooms)]
theorem newCs_succ (rooms : List Int) (i : Nat) : newCs rooms (i + 1) = newCs rooms i ++ [newC (i : Int) (rooms.getD i 0)] := by
 unfold newCs
 rw [List.range_succ, List.map_append]; rfl
theorem newCs_len (rooms : List Int) (i : Nat) : (newCs rooms i).length = i := by unfold newCs; simp
theorem newWorld_ok (rooms : List Int) (hr : rooms.length ≤ 100000000) : FnOK Tryz.prog 30 [.sl (rooms.map ZI)] [] (fun r _ => r = newWA rooms) := by
 have hns := newServer_ok
 unfold ZQ at hns
 have hsu := newCs_succ rooms
 have hle := newCs_len rooms
 have h0 : newCs rooms 0 = [] := rfl
 have hW : newWA rooms = .tup [.agg (worRow (if roomsE rooms = 0 then ⟨newS, newCs rooms rooms.length⟩ else zeroW)), .int .i64 (roomsE rooms)] := rfl
 have hE : roomsE rooms = if rooms.length < 1 ∨ 3 < rooms.length then 5 else if rooms.all (fun n => decide (3 ≤ n) && decide (n ≤ 24)) then 0 else 3 := rfl
 rw [hW]
 generalize roomsE rooms = E at *
 generalize newCs rooms = P at *
 clear hW
 refine ZF tK (Tryz.func30) rfl (fun C => ?_)
 simp only [Tryz.ntmps30, Tryz.results30, go_sem]
 refine wR ?_
 refine wN tK 2 ?_
 refine wR ?_
 refine wN tK 8 ?_
 refine cw_name 14 (by simp only [go_sem]; exact rfl) (fun c14 h14 => ?_)
 simp only [go_sem]
 have hc : c14 = true ↔ (rooms.length < 1 ∨ 3 < rooms.length) := by
  rw [← h14]
  by_cases h1 : rooms.length < 1
  ·simp [h1]; omega
  ·simp [h1]; omega
 clear h14
 refine wG tK ?_
 by_cases hb : rooms.length < 1 ∨ 3 < rooms.length
 ·rw [if_pos hb] at hE
  subst hE
  refine wDT (hb := (hc.2 hb)) (hk := ?_)
  refine wG tK ?_
  refine cw_le (le_nil0 2) ?_
  simp only [go_sem]
  refine wT ?_
  rfl
 ·rw [if_neg hb] at hE
  refine wDF (hb := (by simpa using fun h0 => hb (hc.1 h0))) (hk := ?_)
  refine wG tK ?_
  refine wC Tryz.func10 (hf := (hns)) (hk := ?_)
  refine wG tK ?_
  refine cw_le (le_empty 38 110 10 (by simp only [go_sem]; try exact rfl)) ?_
  simp only [go_sem]
  refine cw_le (le_rows 4 ([[.sl ([rootN].map ZN), .int .i64 1, .sl [], .osl 38 10 0 0]]) (by simp only [go_sem]; exact rfl) (by simp [leRowsP, leWk, wk])) ?_
  simp only [go_sem]
  refine ZL (fun i : Nat => i ≤ rooms.length ∧ (rooms.take i).all (fun n => decide (3 ≤ n) && decide (n ≤ 24)) = true) (fun i => rooms.length - i) (fun i => [(5, .any), (6, .any), (20, .int .i64 i), (21, .any), (22, .any), (23, .any), (24, .any), (25, .any), (26, .any), (27, .any), (28, .any), (29, .any), (30, .any), (31, .any), (32, .any), (33, .any), (34, .any), (35, .any), (36, .any), (37, .any), (38, .any), (39, .any), (40, .any), (41, .any)])
   (fun i => [(4, .cells 34 4 [[.sl ([rootN].map ZN), .int .i64 1, .sl [], .osl 38 10 0 (P i).length]]), (38, .cells 110 10 ((P i).map ZC))]) 0 ⟨by omega, rfl⟩ ?_ fun i hi => ?_
  ·rw [h0]
   simp only [go_sem]
   exact ZU (by simp [go_sem]) (by simp [go_sem]) (by simp [go_sem])
  obtain ⟨hi, hall⟩ := hi
  simp only [go_sem]
  refine wG tK ?_
  refine wD (fun h => ?_) (fun h => ?_)
  ·have hlt : i < rooms.length := by simp at h; omega
   have hg : (rooms.map ZI).getD i [] = [.int .i64 (rooms.getD i 0)] := by
    rw [List.getD_eq_getElem?_getD, List.getElem?_map, List.getD_eq_getElem?_getD, List.getElem?_eq_getElem hlt]; rfl
   have how' := wi1 (i := i) (by omega)
   have hs1 := hsu i
   have hl1 := hle i
   have htk : rooms.take (i + 1) = rooms.take i ++ [rooms.getD i 0] := by
    rw [List.take_add_one, List.getD_eq_getElem?_getD, List.getElem?_eq_getElem hlt]; rfl
   generalize hn : rooms.getD i 0 = n at *
   generalize P i = Q at *
   have htq : List.take Q.length (Q.map ZC) = Q.map ZC := List.take_of_length_le (by simp)
   refine wR ?_
   refine wNq tK 5 ?_ ?_ (by simp only [go_sem]; exact rfl) (by simp only [go_sem]; exact rfl) (by simp only [go_sem, hg]; try exact rfl)
   ·simp [hg, hlt]
   refine wR ?_
   refine wN tK 6 ?_
   refine cw_name 30 (by simp only [go_sem]; exact rfl) (fun c30 h30 => ?_)
   simp only [go_sem]
   have hc3 : c30 = true ↔ ¬ (3 ≤ n ∧ n ≤ 24) := by
    rw [← h30]
    by_cases h1 : n < 3
    ·simp [h1]; omega
    ·simp [h1]; omega
   clear h30
   refine wG tK ?_
   by_cases hok : 3 ≤ n ∧ n ≤ 24
   ·refine wDF (hb := (by simpa using fun h0 => hc3.1 h0 hok)) (hk := ?_)
    refine wR ?_
    refine wN tK 5 ?_
    refine cw_le (le_nilT 36 (by simp only [go_sem]; exact rfl) (by simp only [go_sem, nil0]; exact rfl)) ?_
    simp only [go_sem]
    refine cw_le (le_killB 38 4 (by simp only [go_sem]; exact rfl) (by simp only [go_sem, kill]; exact rfl)) ?_
    refine wGq tK ?_ ?_ (by simp only [go_sem, how']; try exact rfl)
    ·simp [htq, refs]
     first | exact ⟨by intro row h; simp at h; subst h; rfl, by omega⟩ | omega
    refine ZB ⟨i + 1, ⟨by omega, by rw [htk, List.all_append, hall]; simp [hok]⟩, by omega, ZU ?_ ?_ ?_⟩
    ·simp [go_sem]
    ·simp [go_sem, hs1, htq, ZC, newC]
    ·simp [go_sem]
   ·have hE3 : E = 3 := by
     rw [hE, if_neg]
     simp only [List.all_eq_true, Bool.and_eq_true, decide_eq_true_eq]
     intro hx
     have := hx n (by rw [← hn, List.getD_eq_getElem?_getD, List.getElem?_eq_getElem hlt]; exact List.getElem_mem _)
     exact hok this
    subst hE3
    refine wDT (hb := (hc3.2 hok)) (hk := ?_)
    refine wG tK ?_
    refine cw_le (le_nil0 2) ?_
    simp only [go_sem]
    refine wT ?_
    rfl
  ·have e : i = rooms.length := by simp at h; omega
   subst e
   rw [List.take_length] at hall
   rw [if_pos hall] at hE
   subst hE
   have hl1 := hle rooms.length
   generalize P rooms.length = Q at *
   have htq : List.take Q.length (Q.map ZC) = Q.map ZC := List.take_of_length_le (by simp)
   refine wR ?_
   refine ZZ 38 rfl (cliRow_pure _) ?_
   simp only [go_sem, htq]
   refine wG tK ?_
   refine wT ?_
   rfl
noncomputable def bldW (rooms : List Int) (l : List Step) : Wor := if roomsE rooms = 0 then buildW rooms l else zeroW
noncomputable def bldT (rooms : List Int) (l : List Step) (i : Nat) : Wor := buildW rooms (l.take i)
theorem bldT_succ {rooms : List Int} {l : List Step} {i : Nat} (h : i < l.length) : bldT rooms l (i + 1) = (worldU (bldT rooms l i) (l.getD i default)).w := by
 unfold bldT buildW
 rw [ZT h, List.foldl_append]; rfl
theorem bldT_inv {rooms : List Int} (h : roomsE rooms = 0) (l : List Step) (i : Nat) : WInv (20 * l.length) (300 * l.length) (bldT rooms l i) := by
 have := build_inv h (l.take i)
 rw [List.length_take] at this
 exact ⟨this.srv.mono (by omega), fun c hc => (this.cli c hc).mono (by omega) (by omega), this.len⟩
structure StepsOK (l : List Step) : Prop where
 len : l.length ≤ 1400000
 path : ∀ x, x ∈ l → x.path.length ≤ 10000000 ∧ x.toPath.length ≤ 10000000
theorem rbuild_ok (rooms : List Int) (hr : rooms.length ≤ 100000000) (l : List Step) (hl : StepsOK l) : FnOK Tryz.prog 7 [.sl (rooms.map ZI), .sl (l.map ZX)] [] (fun r _ => r = .agg (worRow (bldW rooms l))) := by
 have hn := newWorld_ok rooms hr
 have hll := hl.len
 unfold newWA at hn
 have hB0 : bldW rooms l = if roomsE rooms = 0 then bldT rooms l l.length else zeroW := by unfold bldW bldT; rw [List.take_length]
 have hinv := fun h i => @bldT_inv rooms h l i
 have hsu := fun i => @bldT_succ rooms l i
 have hz : bldT rooms l 0 = newW rooms := rfl
 rw [hB0]
 generalize bldT rooms l = F at *
 rw [← hz] at hn
 clear hB0 hz
 generalize roomsE rooms = E at *
 generalize hW0 : (if E = 0 then F 0 else zeroW) = W0 at *
 unfold worRow at hn
 refine ZF tK (Tryz.func7) rfl (fun C => ?_)
 simp only [Tryz.ntmps7, Tryz.results7, go_sem]
 refine wG tK ?_
 refine wC Tryz.func30 (hf := (hn)) (hk := ?_)
 refine wG tK ?_
 by_cases hE : E = 0
 ·rw [if_pos hE] at hW0 ⊢
  have hinv := hinv hE
  subst hW0
  refine wDF (hb := (by simp [hE])) (hk := ?_)
  refine wG tK ?_
  refine ZL (fun i : Nat => i ≤ l.length) (fun i => l.length - i) (fun i => [(8, .any), (9, .any), (10, .any), (21, .int .i64 i), (22, .any), (23, .any), (24, .any), (25, .any), (26, .any), (27, .any), (28, .any), (29, .any), (30, .any), (31, .any), (32, .any), (33, .any)])
   (fun i => [(5, .cells 34 4 [worRow (F i)])]) 0 (by omega) ?_ fun i hi => ?_
  ·unfold worRow
   simp only [go_sem]
   exact ZU (by simp [go_sem]) (by simp [go_sem]) (by simp [go_sem])
  unfold worRow
  simp only [go_sem]
  refine wG tK ?_
  refine wD (fun h => ?_) (fun h => ?_)
  ·have hlt : i < l.length := by simp at h; omega
   have hg : (l.map ZX).getD i [] = ZX (l.getD i default) := Fam.getD hlt
   have how' := wi1 (i := i) (by omega)
   have hpx := hl.path (l.getD i default) (by rw [List.getD_eq_getElem?_getD, List.getElem?_eq_getElem hlt]; exact List.getElem_mem _)
   have hw := rworld_ok (F i) (hinv i) (by omega) (by omega) (l.getD i default) hpx.1 hpx.2
   have hs1 := hsu i hlt
   generalize l.getD i default = x at *
   unfold worldA worRow ZX replyRow at hw
   generalize worldU (F i) x = g at *
   refine wR ?_
   refine wNq tK 4 ?_ ?_ (by simp only [go_sem]; exact rfl) (by simp only [go_sem]; exact rfl) (by simp only [go_sem, hg, ZX]; try exact rfl)
   ·simp [hg, ZX, hlt]
   refine wG tK ?_
   refine wC Tryz.func31 (hf := (hw)) (hk := ?_)
   refine wG tK ?_ (by simp only [go_sem, how']; try exact rfl) (by simp [go_sem, how'])
   refine ZB ⟨i + 1, by omega, by omega, ZU ?_ ?_ ?_⟩
   ·simp [go_sem]
   ·simp [go_sem, hs1, worRow]
   ·simp [go_sem]
  ·have e : i = l.length := by simp at h; omega
   subst e
   refine wG tK ?_
   refine wT ?_
   rfl
 ·rw [if_neg hE] at hW0 ⊢
  subst hW0
  refine wDT (hb := (by simp [hE])) (hk := ?_)
  refine wG tK ?_
  refine wT ?_
  rfl
theorem bldW_inv {rooms : List Int} (h : roomsE rooms = 0) (l : List Step) : WInv (20 * l.length) (300 * l.length) (bldW rooms l) := by
 unfold bldW
 rw [if_pos h]
 exact build_inv h l
theorem clone_hoards (d : List Hoard) (hd : d.length ≤ 100000000) : FnOK Tryz.prog 78 [.sl (d.map ZJ)] [] (fun r _ => r = .sl (d.map ZJ)) := by
 refine ZF tK (Tryz.func78) rfl (fun C => ?_)
 simp only [Tryz.ntmps78, Tryz.results78, go_sem]
 refine wG tK ?_
 refine cw_nileq tK rfl rfl rfl (by first | rfl | (simp only [go_sem]; exact rfl)) (by first | rfl | (simp only [go_sem]; exact rfl)) (fun b hb => ?_)
 simp only [go_sem]
 refine wG tK ?_
 refine wD (fun h => ?_) (fun h => ?_)
 ·refine wG tK ?_
  refine cw_ret ⟨_, _, (by simp only [go_sem]; try exact rfl), by simp [go_sem], .sl [], .inr (.inr ⟨rfl, .inl rfl⟩), ?_⟩
  rw [hb h]
 ·refine wGq tK ?_ ?_
  ·simp; omega
  refine ZZ 7 rfl (hoardRow_pure _) ?_
  simp only [go_sem]
  refine wT ?_
  simp
structure SmallC (c : Cli) : Prop where
 cache : SmallK c.cache
 log : SmallL c.log
 repair : SmallL c.repair
 hoards : c.hoards.length ≤ 100000000
theorem CInv.smallC {B T : Nat} {s : Srv} {c : Cli} (h : CInv B T s c) (hB : B ≤ 40000000) : SmallC c where
 cache := ⟨by have := h.len; have := h.room; omega, fun k hk => ⟨by have := h.data k hk; omega, by have := h.ent k hk; omega⟩⟩
 log := ⟨by have := h.log; omega, fun r hr => by unfold Act.Small; have := (h.logS r hr).data; omega⟩
 repair := ⟨by have := h.rep; omega, fun r hr => by unfold Act.Small; have := (h.repS r hr).data; omega⟩
 hoards := by have := h.hoards; omega
theorem cown_ok (c : Cli) (h : SmallC c) : FnOK Tryz.prog 50 [.agg (ZC c)] [] (fun r _ => r = .agg (ZC c)) := by
 have h1 := kown_ok c.cache h.cache
 have h2 := logs_own c.log h.log
 have h3 := logs_own c.repair h.repair
 have h4 := clone_hoards c.hoards h.hoards
 unfold ZC
 refine ZF tK (Tryz.func50) rfl (fun C => ?_)
 simp only [Tryz.ntmps50, Tryz.results50, go_sem]
 refine wG tK ?_
 refine ZW ZM ?_
 refine ZS rfl ?_
 refine sN tK 2 ?_
 refine sC Tryz.func77 (hf := (h1)) (hk := ?_)
 refine sN tK 2 ?_
 refine sC Tryz.func46 (hf := (h2)) (hk := ?_)
 refine sN tK 2 ?_
 refine sC Tryz.func46 (hf := (h3)) (hk := ?_)
 refine sN tK 2 ?_
 refine sC Tryz.func78 (hf := (h4)) (hk := ?_)
 refine sN tK 1 ?_
 refine sT tK ?_
 refine sN tK 1 ?_
 refine sT tK ?_
 refine sN tK 1 ?_
 refine sT tK ?_
 refine sN tK 1 ?_
 refine sT tK ?_
 refine sE ?_
 refine wKd ?_
 try simp only [go_sem, gA, gB, gC]
 refine wG tK ?_
 refine wT ?_
 rfl
theorem replayR_ok {p : List Past} {t : List Node} (h : Hist p t) (hlen : p.length ≤ 90000000) : FnOK Tryz.prog 18 [.sl (p.map ZP)] [] (fun r _ => r = .tup [.sl (t.map ZN), .int .i64 0]) := by
 obtain ⟨st, h0, h1, h2⟩ := h.st
 rw [← h1]
 exact replay_ok p st hlen h0 h2
theorem right_bent {p : List Past} {t : List Node} (h : Hist p t) (hlen : p.length ≤ 90000000) (t' : List Node) (hs : Small t') (hne : sameT false t t' = false) (n : Int) (cs : List Cli) :
  FnOK Tryz.prog 29 [.agg (worRow ⟨⟨t', n, p⟩, cs⟩)] [] (fun r _ => r = .bool false) := by
 have h1 := replayR_ok h hlen
 have h2 := treeSame_ok t t' h.good.small hs
 rw [hne] at h2
 unfold worRow
 refine ZF tK (Tryz.func29) rfl (fun C => ?_)
 simp only [Tryz.ntmps29, Tryz.results29, go_sem]
 refine wG tK ?_
 refine wC Tryz.func18 (hf := (h1)) (hk := ?_)
 refine wG tK ?_
 refine wCC Tryz.func49 (hf := fun hb => (h2)) (hk := ?_)
 refine wG tK ?_
 refine wDT (hb := (rfl)) (hk := ?_)
 refine wG tK ?_
 refine wT ?_
 rfl
structure RightC (t : List Node) (c : Cli) : Prop where
 room : (c.cache.length : Int) ≤ c.room
 log : c.away = false → c.log = []
 here : c.away = false → ∀ k, k ∈ c.cache → k.dirty = false ∧ k.node ∈ t
 small : SmallC c
theorem right_ok {p : List Past} {t : List Node} (h : Hist p t) (hlen : p.length ≤ 90000000) (n : Int) (cs : List Cli) (hcl : cs.length ≤ 1000) (hc : ∀ c, c ∈ cs → RightC t c) :
  FnOK Tryz.prog 29 [.agg (worRow ⟨⟨t, n, p⟩, cs⟩)] [] (fun r _ => r = .bool true) := by
 have h1 := replayR_ok h hlen
 have hts := h.good.small
 have h2 := treeSame_ok t t hts hts
 rw [sameT_refl] at h2
 have hup := h.good.up
 unfold worRow
 refine ZF tK (Tryz.func29) rfl (fun C => ?_)
 simp only [Tryz.ntmps29, Tryz.results29, go_sem]
 refine wG tK ?_
 refine wC Tryz.func18 (hf := (h1)) (hk := ?_)
 refine wG tK ?_
 refine wCC Tryz.func49 (hf := fun hb => (h2)) (hk := ?_)
 refine wG tK ?_
 refine wDF (hb := (rfl)) (hk := ?_)
 refine wG tK ?_
 refine ZL (fun i : Nat => i ≤ cs.length) (fun i => cs.length - i) (fun i => [(6, .any), (8, .any), (9, .any), (10, .any), (31, .int .i64 i), (32, .any), (33, .any), (34, .any), (35, .any), (36, .any), (37, .any), (38, .any), (39, .any), (40, .any), (41, .any), (42, .any), (43, .any), (44, .any), (45, .any), (46, .any), (47, .any), (48, .any), (49, .any), (50, .any), (51, .any), (52, .any), (53, .any), (54, .any), (55, .any), (56, .any), (57, .any), (58, .any), (59, .any), (60, .any), (61, .any), (62, .any), (63, .any), (64, .any), (65, .any), (66, .any), (67, .any), (68, .any), (69, .any), (70, .any), (71, .any), (72, .any), (73, .any), (74, .any), (75, .any), (76, .any), (77, .any), (78, .any), (79, .any), (80, .any), (81, .any), (82, .any), (83, .any), (84, .any), (85, .any), (86, .any), (87, .any), (88, .any), (89, .any), (90, .any), (91, .any), (92, .any), (93, .any), (94, .any), (95, .any), (96, .any), (97, .any), (98, .any), (99, .any)]) (fun _ => []) 0 (by omega) ?_ fun i hi => ?_
 ·simp only [go_sem]
  exact ZU (by simp [go_sem]) (by simp [go_sem]) (by simp [go_sem])
 simp only [go_sem]
 refine wG tK ?_
 refine wD (fun h => ?_) (fun h => ?_)
 ·have hlt : i < cs.length := by simp at h; omega
  have hg : (cs.map ZC).getD i [] = ZC (cs.getD i default) := Fam.getD hlt
  have how' := wi1 (i := i) (by omega)
  have hci := hc (cs.getD i default) (YG hlt)
  generalize cs.getD i default = c at *
  have hown := cown_ok c hci.small
  have hroom := hci.room
  have hklen := hci.small.cache.len
  refine wR ?_
  refine wNq tK 4 ?_ ?_ (by simp only [go_sem]; exact rfl) (by simp only [go_sem]; exact rfl) (by simp only [go_sem, hg, ZC]; try exact rfl)
  ·simp [hg, ZC, hlt]
  refine wR ?_
  refine wN tK 7 ?_
  refine cw_name 41 (by simp only [go_sem]; exact rfl) (fun c41 h41 => ?_)
  simp only [go_sem]
  have hc41 : c41 = false := by rw [← h41]; simp; omega
  subst hc41
  clear h41
  unfold ZC at hown
  cases haw : c.away with
  | true =>
   rw [haw] at hown
   refine wG tK ?_
   refine wDF (hb := (rfl)) (hk := ?_)
   refine wG tK ?_
   refine wC Tryz.func50 (hf := (hown)) (hk := ?_)
   refine wG tK ?_
   refine ZL (fun q : Nat => q ≤ c.cache.length) (fun q => c.cache.length - q) (fun q => [(8, .any), (9, .any), (10, .any), (56, .int .i64 q), (57, .any), (58, .any), (59, .any), (60, .any), (61, .any), (62, .any), (63, .any), (64, .any), (65, .any), (66, .any), (67, .any), (68, .any), (69, .any), (70, .any), (71, .any), (72, .any), (73, .any), (74, .any), (75, .any), (76, .any), (77, .any), (78, .any), (79, .any), (80, .any), (81, .any), (82, .any), (83, .any), (84, .any), (85, .any), (86, .any), (87, .any), (88, .any), (89, .any), (90, .any), (91, .any), (92, .any), (93, .any), (94, .any), (95, .any), (96, .any), (97, .any), (98, .any)]) (fun _ => []) 0 (by omega) ?_ fun q hq => ?_
   ·simp only [go_sem]
    exact ZU (by simp [go_sem]) (by simp [go_sem]) (by simp [go_sem])
   simp only [go_sem]
   refine wG tK ?_
   refine wD (fun h => ?_) (fun h => ?_)
   ·have hltq : q < c.cache.length := by simp at h; omega
    have hgq : (c.cache.map ZK).getD q [] = ZK (c.cache.getD q default) := Fam.getD hltq
    have howq : IntKind.i64.wrap ((q : Int) + 1) = ((q + 1 : Nat) : Int) := by rw [Eng.wrap_small (by omega) (by omega)]; rfl
    generalize c.cache.getD q default = k at *
    have hfd := find_ok t k.node.fid hts
    unfold findR at hfd
    refine wGq tK ?_ ?_ (by simp only [go_sem, hgq, ZK]; try exact rfl)
    ·simp [hgq, ZK, hltq]
    refine wC Tryz.func47 (hf := (hfd)) (hk := ?_)
    refine wGq tK ?_ ?_ (by simp only [go_sem, ZN, howq]; try exact rfl)
    ·simp [ZN]
    refine cw_pass (.bool false) rfl ?_
    simp only [go_sem]
    refine wG tK ?_
    refine wDF (hb := (rfl)) (hk := ?_)
    refine wG tK ?_ (by simp only [go_sem, howq]; try exact rfl) (by simp [go_sem, howq])
    refine ZB ⟨q + 1, by omega, by omega, ZU ?_ ?_ ?_⟩
    ·simp [go_sem]
    ·simp [go_sem]
    ·simp [go_sem]
   ·refine wG tK ?_ (by simp only [go_sem, how']; try exact rfl) (by simp [go_sem, how'])
    refine ZB ⟨i + 1, by omega, by omega, ZU ?_ ?_ ?_⟩
    ·simp [go_sem]
    ·simp [go_sem]
    ·simp [go_sem]
  | false =>
   have hlog := hci.log haw
   have hhere := hci.here haw
   rw [haw] at hown
   rw [hlog] at hown ⊢
   refine wG tK ?_
   refine wDF (hb := (rfl)) (hk := ?_)
   refine wG tK ?_
   refine wC Tryz.func50 (hf := (hown)) (hk := ?_)
   refine wG tK ?_
   refine ZL (fun q : Nat => q ≤ c.cache.length) (fun q => c.cache.length - q) (fun q => [(8, .any), (9, .any), (10, .any), (56, .int .i64 q), (57, .any), (58, .any), (59, .any), (60, .any), (61, .any), (62, .any), (63, .any), (64, .any), (65, .any), (66, .any), (67, .any), (68, .any), (69, .any), (70, .any), (71, .any), (72, .any), (73, .any), (74, .any), (75, .any), (76, .any), (77, .any), (78, .any), (79, .any), (80, .any), (81, .any), (82, .any), (83, .any), (84, .any), (85, .any), (86, .any), (87, .any), (88, .any), (89, .any), (90, .any), (91, .any), (92, .any), (93, .any), (94, .any), (95, .any), (96, .any), (97, .any), (98, .any)]) (fun _ => []) 0 (by omega) ?_ fun q hq => ?_
   ·simp only [go_sem]
    exact ZU (by simp [go_sem]) (by simp [go_sem]) (by simp [go_sem])
   simp only [go_sem]
   refine wG tK ?_
   refine wD (fun h => ?_) (fun h => ?_)
   ·have hltq : q < c.cache.length := by simp at h; omega
    have hgq : (c.cache.map ZK).getD q [] = ZK (c.cache.getD q default) := Fam.getD hltq
    have howq : IntKind.i64.wrap ((q : Int) + 1) = ((q + 1 : Nat) : Int) := by rw [Eng.wrap_small (by omega) (by omega)]; rfl
    have hkm : c.cache.getD q default ∈ c.cache := YG hltq
    generalize c.cache.getD q default = k at *
    obtain ⟨hkd, hkt⟩ := hhere k hkm
    have hks := hts.each k.node hkt
    have hfk : findN t k.node.fid = some k.node := (ZO hup).2 ⟨hkt, rfl⟩
    have hat : isAt t k.node.fid = true := by
     cases e : isAt t k.node.fid with
     | true => rfl
     | false => rw [findN_no e] at hfk; cases hfk
    have hfd := find_ok t k.node.fid hts
    unfold findR at hfd
    rw [hfk, hat] at hfd
    simp only [Option.getD_some] at hfd
    have hsn := treeSame_ok [k.node] [k.node] (nodeSmall_one hks) (nodeSmall_one hks)
    rw [sameT_refl] at hsn
    simp only [List.map_cons, List.map_nil] at hsn
    unfold ZN at hsn
    refine wGq tK ?_ ?_ (by simp only [go_sem, hgq, ZK]; try exact rfl)
    ·simp [hgq, ZK, hltq]
    refine wC Tryz.func47 (hf := (hfd)) (hk := ?_)
    refine wNq tK 6 ?_ ?_ (by simp only [go_sem]; exact rfl) (by simp only [go_sem]; exact rfl) (by simp only [go_sem, ZN]; try exact rfl)
    ·simp [ZN]
    refine wR ?_
    refine wN tK 4 ?_
    refine wN tK 4 ?_ (by simp only [go_sem]; exact rfl) (by simp only [go_sem]; exact rfl) (by simp only [go_sem, hkd, bne_self_eq_false, cond_true, cond_false, Bool.not_true, Bool.not_false]; try exact rfl) (by simp [go_sem, hkd, bne_self_eq_false, cond_true, cond_false, Bool.not_true, Bool.not_false])
    refine wN tK 4 ?_ (by simp only [go_sem]; exact rfl) (by simp only [go_sem]; exact rfl) (by simp only [go_sem, hkd, bne_self_eq_false, cond_true, cond_false, Bool.not_true, Bool.not_false]; try exact rfl) (by simp [go_sem, hkd, bne_self_eq_false, cond_true, cond_false, Bool.not_true, Bool.not_false])
    refine wN tK 5 ?_ (by simp only [go_sem]; exact rfl) (by simp only [go_sem]; exact rfl) (by simp only [go_sem, hkd, bne_self_eq_false, cond_true, cond_false, Bool.not_true, Bool.not_false]; try exact rfl) (by simp [go_sem, hkd, bne_self_eq_false, cond_true, cond_false, Bool.not_true, Bool.not_false])
    refine wN tK 1 ?_ (by simp only [go_sem]; exact rfl) (by simp only [go_sem]; exact rfl) (by simp only [go_sem, hkd, bne_self_eq_false, cond_true, cond_false, Bool.not_true, Bool.not_false]; try exact rfl) (by simp [go_sem, hkd, bne_self_eq_false, cond_true, cond_false, Bool.not_true, Bool.not_false])
    refine wN tK 1 ?_ (by simp only [go_sem]; exact rfl) (by simp only [go_sem]; exact rfl) (by simp only [go_sem, hkd, bne_self_eq_false, cond_true, cond_false, Bool.not_true, Bool.not_false]; try exact rfl) (by simp [go_sem, hkd, bne_self_eq_false, cond_true, cond_false, Bool.not_true, Bool.not_false])
    refine wN tK 1 ?_ (by simp only [go_sem]; exact rfl) (by simp only [go_sem]; exact rfl) (by simp only [go_sem, hkd, bne_self_eq_false, cond_true, cond_false, Bool.not_true, Bool.not_false]; try exact rfl) (by simp [go_sem, hkd, bne_self_eq_false, cond_true, cond_false, Bool.not_true, Bool.not_false])
    refine wN tK 1 ?_ (by simp only [go_sem]; exact rfl) (by simp only [go_sem]; exact rfl) (by simp only [go_sem, hkd, bne_self_eq_false, cond_true, cond_false, Bool.not_true, Bool.not_false]; try exact rfl) (by simp [go_sem, hkd, bne_self_eq_false, cond_true, cond_false, Bool.not_true, Bool.not_false])
    refine wN tK 1 ?_ (by simp only [go_sem]; exact rfl) (by simp only [go_sem]; exact rfl) (by simp only [go_sem, hkd, bne_self_eq_false, cond_true, cond_false, Bool.not_true, Bool.not_false]; try exact rfl) (by simp [go_sem, hkd, bne_self_eq_false, cond_true, cond_false, Bool.not_true, Bool.not_false])
    refine wN tK 1 ?_ (by simp only [go_sem]; exact rfl) (by simp only [go_sem]; exact rfl) (by simp only [go_sem, hkd, bne_self_eq_false, cond_true, cond_false, Bool.not_true, Bool.not_false]; try exact rfl) (by simp [go_sem, hkd, bne_self_eq_false, cond_true, cond_false, Bool.not_true, Bool.not_false])
    refine wN tK 1 ?_ (by simp only [go_sem]; exact rfl) (by simp only [go_sem]; exact rfl) (by simp only [go_sem, hkd, bne_self_eq_false, cond_true, cond_false, Bool.not_true, Bool.not_false]; try exact rfl) (by simp [go_sem, hkd, bne_self_eq_false, cond_true, cond_false, Bool.not_true, Bool.not_false])
    refine ZZ 90 rfl (rfl) ?_
    refine ZZ 93 rfl (rfl) ?_
    simp only [go_sem]
    refine wCC Tryz.func49 (hf := fun hb => (hsn)) (hk := ?_)
    refine wG tK ?_
    refine wDF (hb := (by simp [hkd])) (hk := ?_)
    refine wG tK ?_ (by simp only [go_sem, howq]; try exact rfl) (by simp [go_sem, howq])
    refine ZB ⟨q + 1, by omega, by omega, ZU ?_ ?_ ?_⟩
    ·simp [go_sem]
    ·simp [go_sem]
    ·simp [go_sem]
   ·refine wG tK ?_ (by simp only [go_sem, how']; try exact rfl) (by simp [go_sem, how'])
    refine ZB ⟨i + 1, by omega, by omega, ZU ?_ ?_ ?_⟩
    ·simp [go_sem]
    ·simp [go_sem]
    ·simp [go_sem]
 ·refine wG tK ?_
  refine wT ?_
  rfl
theorem bent_not {t : List Node} {i : Nat} (hi : i < t.length) {d : List UInt8} (hd : (t.getD i default).data ≠ d) : sameT false t (t.set i { t.getD i default with data := d }) = false := by
 cases h : sameT false t (t.set i { t.getD i default with data := d }) with
 | false => rfl
 | true =>
  have := ((sameT_iff false _ _).1 h).2 i hi
  have e : (t.set i { t.getD i default with data := d }).getD i default = { t.getD i default with data := d } := by
   rw [List.getD_eq_getElem?_getD (l := t.set i _), List.getElem?_set, if_pos rfl, if_pos hi]; rfl
  rw [e] at this
  simp [sameN] at this
  exact absurd (by rw [List.getD_eq_getElem?_getD]; exact this) hd
theorem bent_small {t : List Node} (ht : Small t) {i : Nat} {d : List UInt8} (hd : d.length ≤ 20) : Small (t.set i { t.getD i default with data := d }) :=
 ⟨by rw [List.length_set]; exact ht.len, fun n hn => by
  rcases List.mem_or_eq_of_mem_set hn with hn | rfl
  ·exact ht.each n hn
  ·by_cases hi : i < t.length
   ·have := ht.each _ (YG (l := t) hi)
    exact ⟨by show d.length ≤ _; omega, this.2⟩
   ·rw [List.getD_eq_getElem?_getD, List.getElem?_eq_none (by omega)]
    exact ⟨by show d.length ≤ _; omega, by show ([] : List Entry).length ≤ _; simp⟩⟩
theorem nodeRow_setD (n : Node) (d : List UInt8) : ZN { n with data := d } = [.int .i64 n.fid, .bool n.dir, .sl (d.map ZY), .sl (n.entries.map ZE), .int .i64 n.version] := rfl
theorem ledTells_no (rooms : List Int) (l : List Step) (data : List UInt8) (hr : rooms.length ≤ 100000000) (hl : StepsOK l) (hE : roomsE rooms ≠ 0) :
  FnOK Tryz.prog 6 [.sl (rooms.map ZI), .sl (l.map ZX), .sl (data.map ZY)] [] (fun r _ => r = .bool true) := by
 have hb := rbuild_ok rooms hr l hl
 rw [show bldW rooms l = zeroW by unfold bldW; rw [if_neg hE]] at hb
 unfold worRow at hb
 refine ZF tK (Tryz.func6) rfl (fun C => ?_)
 simp only [Tryz.ntmps6, Tryz.results6, go_sem]
 refine wG tK ?_
 refine wC Tryz.func7 (hf := (hb)) (hk := ?_)
 refine wG tK ?_
 refine wDT (hb := (rfl)) (hk := ?_)
 refine wG tK ?_
 refine wT ?_
 rfl
theorem ledTells_yes (rooms : List Int) (l : List Step) (data : List UInt8) (hr : rooms.length ≤ 100000000) (hl : StepsOK l) (hdl : data.length ≤ 100000000) (hE : roomsE rooms = 0) :
  FnOK Tryz.prog 6 [.sl (rooms.map ZI), .sl (l.map ZX), .sl (data.map ZY)] [] (fun r _ => r = .bool true) := by
 have hb := rbuild_ok rooms hr l hl
 have hw := bldW_inv hE l
 have hll := hl.len
 generalize bldW rooms l = W at *
 have hs := hw.srv.mono (show 20 * l.length ≤ 40000000 by omega)
 have hpl := hs.len
 have hts := hs.hist.good.small
 have htl := hs.hist.good.len
 have hright := right_ok hs.hist (by omega) W.s.next W.cs (by have := hw.len; omega) fun c hc => by
  have hci := hw.cli c hc
  exact ⟨hci.len, fun h => (hci.here h).1, fun h => (hci.here h).2, hci.smallC (by omega)⟩
 have hbent := fun t' h1 h2 => right_bent (p := W.s.past) (t := W.s.tree) hs.hist (by omega) t' h1 h2 W.s.next W.cs
 unfold worRow at hb hright hbent
 simp only at hright hbent
 refine ZF tK (Tryz.func6) rfl (fun C => ?_)
 simp only [Tryz.ntmps6, Tryz.results6, go_sem]
 refine wG tK ?_
 refine wC Tryz.func7 (hf := (hb)) (hk := ?_)
 refine wG tK ?_
 refine wD (fun h => ?_) (fun h => ?_)
 ·refine wG tK ?_
  refine wT ?_
  rfl
 refine wG tK ?_
 refine wC Tryz.func29 (hf := (hright)) (hk := ?_)
 refine wG tK ?_
 refine wDF (hb := (rfl)) (hk := ?_)
 refine wG tK ?_
 refine ZL (fun i : Nat => i ≤ W.s.tree.length) (fun i => W.s.tree.length - i) (fun i => [(8, .any), (9, .any), (10, .any), (11, .any), (26, .int .i64 i), (27, .any), (28, .any), (29, .any), (30, .any), (31, .any), (32, .any), (33, .any), (34, .any), (35, .any), (36, .any), (37, .any), (38, .any), (39, .any), (40, .any), (41, .any), (42, .any), (43, .any), (44, .any), (45, .any), (46, .any), (47, .any), (48, .any), (49, .any), (50, .any), (51, .any), (52, .any), (53, .any), (54, .any), (55, .any), (56, .any), (57, .any), (58, .any), (59, .any), (60, .any), (61, .any), (62, .any), (63, .any), (64, .any), (65, .any), (66, .any), (67, .any), (68, .any), (69, .any), (70, .any)]) (fun _ => []) 0 (by omega) ?_ fun i hi => ?_
 ·simp only [go_sem]
  exact ZU (by simp [go_sem]) (by simp [go_sem]) (by simp [go_sem])
 simp only [go_sem]
 refine wG tK ?_
 refine wD (fun h => ?_) (fun h => ?_)
 ·have hlt : i < W.s.tree.length := by simp at h; omega
  have hg : (W.s.tree.map ZN).getD i [] = ZN (W.s.tree.getD i default) := Fam.getD hlt
  have how' := wi1 (i := i) (by omega)
  have hbn := fun hd : (W.s.tree.getD i default).data ≠ data => bent_not hlt hd
  have hbs := fun hd : data.length ≤ 20 => bent_small (i := i) hts hd
  have hset : (W.s.tree.set i { W.s.tree.getD i default with data := data }).map ZN = (W.s.tree.map ZN).set i (ZN { W.s.tree.getD i default with data := data }) := by rw [List.map_set]
  rw [nodeRow_setD] at hset
  generalize { W.s.tree.getD i default with data := data } = nb at *
  generalize W.s.tree.getD i default = n at *
  refine wR ?_
  refine wNq tK 6 ?_ ?_ (by simp only [go_sem]; exact rfl) (by simp only [go_sem]; exact rfl) (by simp only [go_sem, hg, ZN]; try exact rfl)
  ·simp [hg, ZN, hlt]
  refine wR ?_
  refine wN tK 11 ?_
  refine cw_name 41 (by simp only [go_sem]; exact rfl) (fun c41 h41 => ?_)
  simp only [go_sem]
  have hc1 : c41 = false → n.dir = false ∧ n.data ≠ data := by
   rw [← h41]
   cases n.dir <;> simp
  clear h41
  refine wN tK 3 ?_
  refine wG tK ?_
  refine wD (fun h => ?_) (fun h => ?_)
  ·refine wG tK ?_ (by simp only [go_sem, how']; try exact rfl) (by simp [go_sem, how'])
   refine ZB ⟨i + 1, by omega, by omega, ZU ?_ ?_ ?_⟩
   ·simp [go_sem]
   ·simp [go_sem]
   ·simp [go_sem]
  ·have hc0 : c41 = false := by cases c41 with | false => rfl | true => simp at h
   have hd20 : data.length ≤ 20 := by rw [hc0] at h; simp at h; omega
   have hbt := hbent _ (hbs hd20) (hbn (hc1 hc0).2)
   have hl2 : (W.s.tree.set i nb).length = W.s.tree.length := List.length_set
   have htq : List.take W.s.tree.length ((W.s.tree.set i nb).map ZN) = (W.s.tree.set i nb).map ZN := List.take_of_length_le (by rw [List.length_map, hl2]; exact Nat.le_refl _)
   refine wGq tK ?_ ?_
   ·simp [hlt]
    omega
   simp only [go_sem, hg, ZN, List.set_cons_zero, List.set_cons_succ]
   rw [← hset]
   refine ZZ 52 rfl (nodeRow_pure _) ?_
   simp only [go_sem, htq, List.length_map, hl2, Nat.le_refl, if_true]
   refine wC Tryz.func29 (hf := (hbt)) (hk := ?_)
   refine wG tK ?_
   refine wDF (hb := (rfl)) (hk := ?_)
   refine wG tK ?_ (by simp only [go_sem, how']; try exact rfl) (by simp [go_sem, how'])
   refine ZB ⟨i + 1, by omega, by omega, ZU ?_ ?_ ?_⟩
   ·simp [go_sem]
   ·simp [go_sem]
   ·simp [go_sem]
 ·refine wG tK ?_
  refine wT ?_
  rfl
theorem ledTells_ok (rooms : List Int) (l : List Step) (data : List UInt8) (hr : rooms.length ≤ 100000000) (hl : StepsOK l) (hdl : data.length ≤ 100000000) :
  FnOK Tryz.prog 6 [.sl (rooms.map ZI), .sl (l.map ZX), .sl (data.map ZY)] [] (fun r _ => r = .bool true) := by
 by_cases hE : roomsE rooms = 0
 ·exact ledTells_yes rooms l data hr hl hdl hE
 ·exact ledTells_no rooms l data hr hl hE
end La
