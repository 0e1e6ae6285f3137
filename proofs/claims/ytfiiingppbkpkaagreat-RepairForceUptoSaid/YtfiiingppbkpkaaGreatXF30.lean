/- Texts of this claim, part 30: RWorld, NewS, RNew, RBuild, Turn, Ren, Same, SameLog, RSame, RLaw7, PDrop, Drop, Fresh, PForce, Ali3, Ali7, Ali11. No condition. -/
import Derived.Test.YtfiiingppbkpkaaGreatXF29
import Derived.Test.YtfiiingppbkpkaaGreatXF21
import Derived.Test.YtfiiingppbkpkaaGreatXF11
import Derived.Test.YtfiiingppbkpkaaGreatXF15
import Derived.Test.YtfiiingppbkpkaaGreatXF19
import Derived.Test.YtfiiingppbkpkaaGreatXF27
import Derived.Test.YtfiiingppbkpkaaGreatXF22
import Derived.Test.YtfiiingppbkpkaaGreatXF16
import Derived.Test.YtfiiingppbkpkaaGreatXF14
set_option maxRecDepth 10000
set_option maxHeartbeats 4000000
set_option linter.unusedSimpArgs false
set_option linter.unusedVariables false
namespace La
open Go Go.Eng Go.Proofs
def worldA (g : GotW) : AV := .tup [.agg (worRow g.w), .agg (replyRow g.r)]
def csT (t : List Node) (cs : List Cli) (j : Nat) (c : Cli) (i : Nat) : List Cli := ((cs.set j c).take i).map (freshW t)
theorem csT_succ {t : List Node} {cs : List Cli} {j : Nat} {c : Cli} {i : Nat} (h : i < cs.length) : csT t cs j c (i + 1) = csT t cs j c i ++ [freshW t (if i = j then c else cs.getD i default)] := by
 unfold csT
 rw [ZT (show i < (cs.set j c).length by rw [List.length_set]; exact h), List.map_append]
 have : (cs.set j c).getD i default = if i = j then c else cs.getD i default := by
  rw [List.getD_eq_getElem?_getD, List.getElem?_set]
  by_cases e : j = i
  ·subst e
   rw [if_pos rfl, if_pos h, if_pos rfl]; rfl
  ·rw [if_neg e, if_neg (fun h => e h.symm), List.getD_eq_getElem?_getD]
 rw [this]; rfl
theorem csT_len {t : List Node} {cs : List Cli} {j : Nat} {c : Cli} {i : Nat} (h : i ≤ cs.length) : (csT t cs j c i).length = i := by
 unfold csT; rw [List.length_map, List.length_take, List.length_set]; omega
theorem rworld_out {B T : Nat} (w : Wor) (h : WInv B T w) (hB : B ≤ 30000000) (hT : T ≤ 800000000000) (x : Step) (hp : x.path.length ≤ 10000000) (hq : x.toPath.length ≤ 10000000) (hb : x.client < 0 ∨ x.client ≥ w.cs.length) : FnOK Tryz.prog 31 [.agg (worRow w), .agg (ZX x)] [] (fun r _ => r = worldA (worldU w x)) := by
 have h3 := h.len
 have hW : worldU w x = ⟨w, errR 6⟩ := by unfold worldU; rw [if_pos hb]
 rw [hW]
 unfold worRow ZX
 refine ZF tK (Tryz.func31) rfl (fun C => ?_)
 simp only [Tryz.ntmps31, Tryz.results31, go_sem]
 refine wR ?_
 refine wN tK 4 ?_
 refine wR ?_
 refine wN tK 11 ?_
 refine cw_name 22 (by simp only [go_sem]; exact rfl) (fun c22 h22 => ?_)
 simp only [go_sem]
 have hc : c22 = true := by
  rw [← h22]
  by_cases h1 : x.client < 0
  ·simp [h1]
  ·simp [h1]; omega
 clear h22
 refine wG tK ?_
 refine wDT (hb := (hc)) (hk := ?_)
 refine wG tK ?_
 refine cw_le (le_nil0 5) ?_
 simp only [go_sem]
 refine wT ?_
 rfl
theorem rworld_in {B T : Nat} (w : Wor) (h : WInv B T w) (hB : B ≤ 30000000) (hT : T ≤ 800000000000) (x : Step) (hp : x.path.length ≤ 10000000) (hq : x.toPath.length ≤ 10000000) (hb : ¬ (x.client < 0 ∨ x.client ≥ w.cs.length)) : FnOK Tryz.prog 31 [.agg (worRow w), .agg (ZX x)] [] (fun r _ => r = worldA (worldU w x)) := by
 have h3 := h.len
 obtain ⟨k, cl, n, path, toPath, data⟩ := x
 simp only at hb hp hq
 obtain ⟨j, rfl⟩ : ∃ j : Nat, cl = (j : Int) := ⟨cl.toNat, by omega⟩
 have hj : j < w.cs.length := by omega
 have hu := h.at hj
 have hst := rstep_ok (w.cs.getD j default) w.s hu hB hT ⟨k, j, n, path, toPath, data⟩ hp hq
 have hinv := step_inv hu ⟨k, j, n, path, toPath, data⟩
 have hW : worldU w ⟨k, j, n, path, toPath, data⟩ = ⟨⟨(stepU ⟨w.cs.getD j default, w.s⟩ ⟨k, j, n, path, toPath, data⟩).u.s, csT (stepU ⟨w.cs.getD j default, w.s⟩ ⟨k, j, n, path, toPath, data⟩).u.s.tree w.cs j (stepU ⟨w.cs.getD j default, w.s⟩ ⟨k, j, n, path, toPath, data⟩).u.c w.cs.length⟩, (stepU ⟨w.cs.getD j default, w.s⟩ ⟨k, j, n, path, toPath, data⟩).r⟩ := by
  unfold worldU csT
  rw [if_neg hb, show w.cs.length = (w.cs.set j (stepU ⟨w.cs.getD j default, w.s⟩ ⟨k, j, n, path, toPath, data⟩).u.c).length by rw [List.length_set], List.take_length]
  rfl
 have hcx : ∀ i, i < w.cs.length → (w.cs.getD i default).cache.length ≤ 24 := fun i hi => by have := (h.at hi).cli.len; have := (h.at hi).cli.room; simp only at *; omega
 rw [hW]
 have hg0 : (w.cs.map ZC).getD j [] = ZC (w.cs.getD j default) := Fam.getD hj
 generalize w.cs.getD j default = c0 at hst hinv hg0 ⊢
 generalize stepU ⟨c0, w.s⟩ ⟨k, j, n, path, toPath, data⟩ = g at *
 have hcg : g.u.c.cache.length ≤ 24 := by have := hinv.cli.len; have := hinv.cli.room; omega
 have hof := of_rm g.u.s.tree (by have := hinv.srv.hist.good.len; omega)
 have hfr0 := fun l hl => rfreshK_ok l g.u.s.tree hl hinv.srv.hist.good.up
 have hcc : ∀ kk : Cli, kk.cache.length ≤ 24 → kk.cache.length ≤ 90000000 := fun kk hk => by omega
 have hPs := fun i => @csT_succ g.u.s.tree w.cs j g.u.c i
 have hPl := fun i => @csT_len g.u.s.tree w.cs j g.u.c i
 have hP0 : csT g.u.s.tree w.cs j g.u.c 0 = [] := rfl
 generalize csT g.u.s.tree w.cs j g.u.c = P at *
 unfold stepA ZC ZQ ZX replyRow at hst
 unfold worldA worRow ZX replyRow
 refine ZF tK (Tryz.func31) rfl (fun C => ?_)
 simp only [Tryz.ntmps31, Tryz.results31, go_sem]
 refine wR ?_
 refine wN tK 4 ?_
 refine wR ?_
 refine wN tK 11 ?_
 refine cw_name 22 (by simp only [go_sem]; exact rfl) (fun c22 h22 => ?_)
 simp only [go_sem]
 have hc : c22 = false := by
  rw [← h22]
  have h1 : ¬ ((j : Int) < 0) := by omega
  simp [h1]; omega
 clear h22
 refine wG tK ?_
 refine wDF (hb := (hc)) (hk := ?_)
 refine wG tK ?_
 refine ZW ZM ?_
 refine ZS rfl ?_
 refine sNq tK 9 ?_ ?_ (by simp only [go_sem]; exact rfl) (by simp only [go_sem]; exact rfl) (by simp only [go_sem, hg0, ZC]; try exact rfl)
 ·simp [hg0, hj, ZC]
 refine sC Tryz.func51 (hf := (hst)) (hk := ?_)
 refine sN tK 4 ?_
 refine sW tK ?_
 refine sW tK ?_
 refine sW tK ?_
 refine sT tK ?_
 refine sT tK ?_
 refine sT tK ?_
 refine sE ?_
 refine wKd ?_
 try simp only [go_sem, gA, gB, gC]
 refine wG tK ?_
 refine cw_le (le_empty 68 110 10 (by simp only [go_sem]; try exact rfl)) ?_
 simp only [go_sem]
 refine cw_le (le_rows 9 ([[.sl (g.u.s.tree.map ZN), .int .i64 g.u.s.next, .sl (g.u.s.past.map ZP), .osl 68 10 0 0]]) (by simp only [go_sem]; exact rfl) (by simp [leRowsP, leWk, wk])) ?_
 simp only [go_sem]
 refine ZL (fun i : Nat => i ≤ w.cs.length) (fun i => w.cs.length - i) (fun i => [(10, .any), (11, .any), (44, .int .i64 i), (45, .any), (46, .any), (47, .any), (48, .any), (49, .any), (50, .any), (51, .any), (52, .any), (53, .any), (54, .any), (55, .any), (56, .any), (57, .any), (58, .any), (59, .any), (60, .any), (61, .any), (62, .any), (63, .any), (64, .any), (65, .any), (66, .any), (67, .any), (68, .any), (69, .any), (70, .any)])
  (fun i => [(9, .cells 34 4 [[.sl (g.u.s.tree.map ZN), .int .i64 g.u.s.next, .sl (g.u.s.past.map ZP), .osl 68 10 0 (P i).length]]), (68, .cells 110 10 ((P i).map ZC))]) 0 (by omega) ?_ fun i hi => ?_
 ·rw [hP0]
  simp only [go_sem]
  exact ZU (by simp [go_sem]) (by simp [go_sem]) (by simp [go_sem])
 simp only [go_sem]
 refine wG tK ?_
 refine wD (fun h => ?_) (fun h => ?_)
 ·have hlt : i < w.cs.length := by simp at h; omega
  have hg1 : (w.cs.map ZC).getD i [] = ZC (w.cs.getD i default) := Fam.getD hlt
  have how' := wi1 (i := i) (by omega)
  have hs1 := hPs i hlt
  have hl1 := hPl i hi
  have hci := hcx i hlt
  generalize w.cs.getD i default = ci at *
  generalize P i = Q at *
  have htq : List.take Q.length (Q.map ZC) = Q.map ZC := List.take_of_length_le (by simp)
  refine wR ?_
  refine wNq tK 6 ?_ ?_ (by simp only [go_sem]; exact rfl) (by simp only [go_sem]; exact rfl) (by simp only [go_sem, hg1, ZC]; try exact rfl)
  ·simp [hg1, ZC, hlt]
  refine wG tK ?_
  by_cases hij : i = j
  ·rw [if_pos hij] at hs1
   refine wDT (hb := (by simp [hij])) (hk := ?_)
   refine wG tK ?_
   have hin := hcg
   generalize hkv : g.u.c = kk at *
   cases haw : kk.away with
   | true =>
    have hkk : freshW g.u.s.tree kk = kk := by unfold freshW; rw [if_pos haw]
    refine wDF (hb := (by simp [haw])) (hk := ?_)
    refine wR ?_
    refine wN tK 2 ?_
    refine cw_le (le_killB 68 9 (by simp only [go_sem]; exact rfl) (by simp only [go_sem, kill]; exact rfl)) ?_
    refine wGq tK ?_ ?_ (by simp only [go_sem, how']; try exact rfl)
    ·simp [htq, refs]
     omega
    refine ZB ⟨i + 1, by omega, by omega, ZU ?_ ?_ ?_⟩
    ·simp [go_sem]
    ·simp [go_sem, hs1, htq, ZC, hkk, haw]
    ·simp [go_sem]
   | false =>
    have hkk : freshW g.u.s.tree kk = { kk with cache := kk.cache.filter fun k => !staleK g.u.s.tree k } := by unfold freshW freshC; rw [if_neg (by simp [haw])]
    have hfr := hfr0 kk.cache (hcc kk hin)
    refine wDT (hb := (by simp [haw])) (hk := ?_)
    refine wG tK ?_
    refine ZW ZM ?_
    refine ZS rfl ?_
    refine sN tK 4 ?_
    refine sC Tryz.func20 (hf := (hof)) (hk := ?_)
    refine sC Tryz.func52 (hf := (hfr)) (hk := ?_)
    refine sN tK 1 ?_
    refine sT tK ?_
    refine sE ?_
    refine wKd ?_
    try simp only [go_sem, gA, gB, gC]
    refine wR ?_
    refine wN tK 2 ?_
    refine cw_le (le_killB 68 9 (by simp only [go_sem]; exact rfl) (by simp only [go_sem, kill]; exact rfl)) ?_
    refine wGq tK ?_ ?_ (by simp only [go_sem, how']; try exact rfl)
    ·simp [htq, refs]
     omega
    refine ZB ⟨i + 1, by omega, by omega, ZU ?_ ?_ ?_⟩
    ·simp [go_sem]
    ·simp [go_sem, hs1, htq, ZC, hkk, haw]
    ·simp [go_sem]
  ·rw [if_neg hij] at hs1
   refine wDF (hb := (by simp; omega)) (hk := ?_)
   refine wG tK ?_
   have hin := hci
   generalize hkv : ci = kk at *
   cases haw : kk.away with
   | true =>
    have hkk : freshW g.u.s.tree kk = kk := by unfold freshW; rw [if_pos haw]
    refine wDF (hb := (by simp [haw])) (hk := ?_)
    refine wR ?_
    refine wN tK 2 ?_
    refine cw_le (le_killB 68 9 (by simp only [go_sem]; exact rfl) (by simp only [go_sem, kill]; exact rfl)) ?_
    refine wGq tK ?_ ?_ (by simp only [go_sem, how']; try exact rfl)
    ·simp [htq, refs]
     omega
    refine ZB ⟨i + 1, by omega, by omega, ZU ?_ ?_ ?_⟩
    ·simp [go_sem]
    ·simp [go_sem, hs1, htq, ZC, hkk, haw]
    ·simp [go_sem]
   | false =>
    have hkk : freshW g.u.s.tree kk = { kk with cache := kk.cache.filter fun k => !staleK g.u.s.tree k } := by unfold freshW freshC; rw [if_neg (by simp [haw])]
    have hfr := hfr0 kk.cache (hcc kk hin)
    refine wDT (hb := (by simp [haw])) (hk := ?_)
    refine wG tK ?_
    refine ZW ZM ?_
    refine ZS rfl ?_
    refine sN tK 4 ?_
    refine sC Tryz.func20 (hf := (hof)) (hk := ?_)
    refine sC Tryz.func52 (hf := (hfr)) (hk := ?_)
    refine sN tK 1 ?_
    refine sT tK ?_
    refine sE ?_
    refine wKd ?_
    try simp only [go_sem, gA, gB, gC]
    refine wR ?_
    refine wN tK 2 ?_
    refine cw_le (le_killB 68 9 (by simp only [go_sem]; exact rfl) (by simp only [go_sem, kill]; exact rfl)) ?_
    refine wGq tK ?_ ?_ (by simp only [go_sem, how']; try exact rfl)
    ·simp [htq, refs]
     omega
    refine ZB ⟨i + 1, by omega, by omega, ZU ?_ ?_ ?_⟩
    ·simp [go_sem]
    ·simp [go_sem, hs1, htq, ZC, hkk, haw]
    ·simp [go_sem]
 ·have e : i = w.cs.length := by simp at h; omega
  subst e
  have hl1 := hPl w.cs.length (Nat.le_refl _)
  generalize P w.cs.length = Q at *
  have htq : List.take Q.length (Q.map ZC) = Q.map ZC := List.take_of_length_le (by simp)
  refine ZZ 68 rfl (cliRow_pure _) ?_
  simp only [go_sem, htq]
  refine wG tK ?_
  refine ZW ZM ?_
  refine ZS rfl ?_
  refine sN tK 2 ?_
  refine sT tK ?_
  refine sT tK ?_
  refine sE ?_
  refine wKd ?_
  try simp only [go_sem, gA, gB, gC]
  refine wG tK ?_
  refine wT ?_
  rfl
theorem rworld_ok {B T : Nat} (w : Wor) (h : WInv B T w) (hB : B ≤ 30000000) (hT : T ≤ 800000000000) (x : Step) (hp : x.path.length ≤ 10000000) (hq : x.toPath.length ≤ 10000000) : FnOK Tryz.prog 31 [.agg (worRow w), .agg (ZX x)] [] (fun r _ => r = worldA (worldU w x)) := by
 by_cases hb : x.client < 0 ∨ x.client ≥ w.cs.length
 ·exact rworld_out w h hB hT x hp hq hb
 ·exact rworld_in w h hB hT x hp hq hb
theorem newServer_raw : FnOK Tryz.prog 10 [] [] (fun r _ => r = .agg [.sl [[.int .i64 0, .bool true, .nils, .nils, .int .i64 0]], .int .i64 1, .nils]) := by
 refine ZF tK (Tryz.func10) rfl (fun C => ?_)
 simp only [Tryz.ntmps10, Tryz.results10, go_sem]
 refine wG tK ?_
 refine ZZ 2 rfl (rfl) ?_
 simp only [go_sem]
 refine wT ?_
 rfl
theorem newServer_ok : FnOK Tryz.prog 10 [] [] (fun r _ => r = .agg (ZQ ⟨[rootN], 1, []⟩)) := FnOK.nrmR newServer_raw rfl
def zeroW : Wor := ⟨⟨[], 0, []⟩, []⟩
def newWA (rooms : List Int) : AV := .tup [.agg (worRow (if roomsE rooms = 0 then newW rooms else zeroW)), .int .i64 (roomsE rooms)]
theorem newCs_succ (rooms : List Int) (i : Nat) : newCs rooms (i + 1) = newCs rooms i ++ [newC (i : Int) (rooms.getD i 0)] := by
 unfold newCs
 rw [List.range_succ, List.map_append]; rfl
theorem newCs_len (rooms : List Int) (i : Nat) : (newCs rooms i).length = i := by unfold newCs; simp
theorem newWorld_ok (rooms : List Int) (hr : rooms.length ≤ 100000000) : FnOK Tryz.prog 30 [.sl (rooms.map ZI)] [] (fun r _ => r = newWA rooms) := by
 have hns := newServer_ok
 unfold ZQ at hns
 have hsu := newCs_succ rooms
 have hle := newCs_len rooms
 have h0 : newCs rooms 0 = [] := rfl
 have hW : newWA rooms = .tup [.agg (worRow (if roomsE rooms = 0 then ⟨newS, newCs rooms rooms.length⟩ else zeroW)), .int .i64 (roomsE rooms)] := rfl
 have hE : roomsE rooms = if rooms.length < 1 ∨ 3 < rooms.length then 5 else if rooms.all (fun n => decide (3 ≤ n) && decide (n ≤ 24)) then 0 else 3 := rfl
 rw [hW]
 generalize roomsE rooms = E at *
 generalize newCs rooms = P at *
 clear hW
 refine ZF tK (Tryz.func30) rfl (fun C => ?_)
 simp only [Tryz.ntmps30, Tryz.results30, go_sem]
 refine wR ?_
 refine wN tK 2 ?_
 refine wR ?_
 refine wN tK 8 ?_
 refine cw_name 14 (by simp only [go_sem]; exact rfl) (fun c14 h14 => ?_)
 simp only [go_sem]
 have hc : c14 = true ↔ (rooms.length < 1 ∨ 3 < rooms.length) := by
  rw [← h14]
  by_cases h1 : rooms.length < 1
  ·simp [h1]; omega
  ·simp [h1]; omega
 clear h14
 refine wG tK ?_
 by_cases hb : rooms.length < 1 ∨ 3 < rooms.length
 ·rw [if_pos hb] at hE
  subst hE
  refine wDT (hb := (hc.2 hb)) (hk := ?_)
  refine wG tK ?_
  refine cw_le (le_nil0 2) ?_
  simp only [go_sem]
  refine wT ?_
  rfl
 ·rw [if_neg hb] at hE
  refine wDF (hb := (by simpa using fun h0 => hb (hc.1 h0))) (hk := ?_)
  refine wG tK ?_
  refine wC Tryz.func10 (hf := (hns)) (hk := ?_)
  refine wG tK ?_
  refine cw_le (le_empty 38 110 10 (by simp only [go_sem]; try exact rfl)) ?_
  simp only [go_sem]
  refine cw_le (le_rows 4 ([[.sl ([rootN].map ZN), .int .i64 1, .sl [], .osl 38 10 0 0]]) (by simp only [go_sem]; exact rfl) (by simp [leRowsP, leWk, wk])) ?_
  simp only [go_sem]
  refine ZL (fun i : Nat => i ≤ rooms.length ∧ (rooms.take i).all (fun n => decide (3 ≤ n) && decide (n ≤ 24)) = true) (fun i => rooms.length - i) (fun i => [(5, .any), (6, .any), (20, .int .i64 i), (21, .any), (22, .any), (23, .any), (24, .any), (25, .any), (26, .any), (27, .any), (28, .any), (29, .any), (30, .any), (31, .any), (32, .any), (33, .any), (34, .any), (35, .any), (36, .any), (37, .any), (38, .any), (39, .any), (40, .any), (41, .any)])
   (fun i => [(4, .cells 34 4 [[.sl ([rootN].map ZN), .int .i64 1, .sl [], .osl 38 10 0 (P i).length]]), (38, .cells 110 10 ((P i).map ZC))]) 0 ⟨by omega, rfl⟩ ?_ fun i hi => ?_
  ·rw [h0]
   simp only [go_sem]
   exact ZU (by simp [go_sem]) (by simp [go_sem]) (by simp [go_sem])
  obtain ⟨hi, hall⟩ := hi
  simp only [go_sem]
  refine wG tK ?_
  refine wD (fun h => ?_) (fun h => ?_)
  ·have hlt : i < rooms.length := by simp at h; omega
   have hg : (rooms.map ZI).getD i [] = [.int .i64 (rooms.getD i 0)] := by
    rw [List.getD_eq_getElem?_getD, List.getElem?_map, List.getD_eq_getElem?_getD, List.getElem?_eq_getElem hlt]; rfl
   have how' := wi1 (i := i) (by omega)
   have hs1 := hsu i
   have hl1 := hle i
   have htk : rooms.take (i + 1) = rooms.take i ++ [rooms.getD i 0] := by
    rw [List.take_add_one, List.getD_eq_getElem?_getD, List.getElem?_eq_getElem hlt]; rfl
   generalize hn : rooms.getD i 0 = n at *
   generalize P i = Q at *
   have htq : List.take Q.length (Q.map ZC) = Q.map ZC := List.take_of_length_le (by simp)
   refine wR ?_
   refine wNq tK 5 ?_ ?_ (by simp only [go_sem]; exact rfl) (by simp only [go_sem]; exact rfl) (by simp only [go_sem, hg]; try exact rfl)
   ·simp [hg, hlt]
   refine wR ?_
   refine wN tK 6 ?_
   refine cw_name 30 (by simp only [go_sem]; exact rfl) (fun c30 h30 => ?_)
   simp only [go_sem]
   have hc3 : c30 = true ↔ ¬ (3 ≤ n ∧ n ≤ 24) := by
    rw [← h30]
    by_cases h1 : n < 3
    ·simp [h1]; omega
    ·simp [h1]; omega
   clear h30
   refine wG tK ?_
   by_cases hok : 3 ≤ n ∧ n ≤ 24
   ·refine wDF (hb := (by simpa using fun h0 => hc3.1 h0 hok)) (hk := ?_)
    refine wR ?_
    refine wN tK 5 ?_
    refine cw_le (le_nilT 36 (by simp only [go_sem]; exact rfl) (by simp only [go_sem, nil0]; exact rfl)) ?_
    simp only [go_sem]
    refine cw_le (le_killB 38 4 (by simp only [go_sem]; exact rfl) (by simp only [go_sem, kill]; exact rfl)) ?_
    refine wGq tK ?_ ?_ (by simp only [go_sem, how']; try exact rfl)
    ·simp [htq, refs]
     first | exact ⟨by intro row h; simp at h; subst h; rfl, by omega⟩ | omega
    refine ZB ⟨i + 1, ⟨by omega, by rw [htk, List.all_append, hall]; simp [hok]⟩, by omega, ZU ?_ ?_ ?_⟩
    ·simp [go_sem]
    ·simp [go_sem, hs1, htq, ZC, newC]
    ·simp [go_sem]
   ·have hE3 : E = 3 := by
     rw [hE, if_neg]
     simp only [List.all_eq_true, Bool.and_eq_true, decide_eq_true_eq]
     intro hx
     have := hx n (by rw [← hn, List.getD_eq_getElem?_getD, List.getElem?_eq_getElem hlt]; exact List.getElem_mem _)
     exact hok this
    subst hE3
    refine wDT (hb := (hc3.2 hok)) (hk := ?_)
    refine wG tK ?_
    refine cw_le (le_nil0 2) ?_
    simp only [go_sem]
    refine wT ?_
    rfl
  ·have e : i = rooms.length := by simp at h; omega
   subst e
   rw [List.take_length] at hall
   rw [if_pos hall] at hE
   subst hE
   have hl1 := hle rooms.length
   generalize P rooms.length = Q at *
   have htq : List.take Q.length (Q.map ZC) = Q.map ZC := List.take_of_length_le (by simp)
   refine wR ?_
   refine ZZ 38 rfl (cliRow_pure _) ?_
   simp only [go_sem, htq]
   refine wG tK ?_
   refine wT ?_
   rfl
noncomputable def bldW (rooms : List Int) (l : List Step) : Wor := if roomsE rooms = 0 then buildW rooms l else zeroW
noncomputable def bldT (rooms : List Int) (l : List Step) (i : Nat) : Wor := buildW rooms (l.take i)
theorem bldT_succ {rooms : List Int} {l : List Step} {i : Nat} (h : i < l.length) : bldT rooms l (i + 1) = (worldU (bldT rooms l i) (l.getD i default)).w := by
 unfold bldT buildW
 rw [ZT h, List.foldl_append]; rfl
theorem bldT_inv {rooms : List Int} (h : roomsE rooms = 0) (l : List Step) (i : Nat) : WInv (20 * l.length) (300 * l.length) (bldT rooms l i) := by
 have := build_inv h (l.take i)
 rw [List.length_take] at this
 exact ⟨this.srv.mono (by omega), fun c hc => (this.cli c hc).mono (by omega) (by omega), this.len⟩
structure StepsOK (l : List Step) : Prop where
 len : l.length ≤ 1400000
 path : ∀ x, x ∈ l → x.path.length ≤ 10000000 ∧ x.toPath.length ≤ 10000000
theorem rbuild_ok (rooms : List Int) (hr : rooms.length ≤ 100000000) (l : List Step) (hl : StepsOK l) : FnOK Tryz.prog 7 [.sl (rooms.map ZI), .sl (l.map ZX)] [] (fun r _ => r = .agg (worRow (bldW rooms l))) := by
 have hn := newWorld_ok rooms hr
 have hll := hl.len
 unfold newWA at hn
 have hB0 : bldW rooms l = if roomsE rooms = 0 then bldT rooms l l.length else zeroW := by unfold bldW bldT; rw [List.take_length]
 have hinv := fun h i => @bldT_inv rooms h l i
 have hsu := fun i => @bldT_succ rooms l i
 have hz : bldT rooms l 0 = newW rooms := rfl
 rw [hB0]
 generalize bldT rooms l = F at *
 rw [← hz] at hn
 clear hB0 hz
 generalize roomsE rooms = E at *
 generalize hW0 : (if E = 0 then F 0 else zeroW) = W0 at *
 unfold worRow at hn
 refine ZF tK (Tryz.func7) rfl (fun C => ?_)
 simp only [Tryz.ntmps7, Tryz.results7, go_sem]
 refine wG tK ?_
 refine wC Tryz.func30 (hf := (hn)) (hk := ?_)
 refine wG tK ?_
 by_cases hE : E = 0
 ·rw [if_pos hE] at hW0 ⊢
  have hinv := hinv hE
  subst hW0
  refine wDF (hb := (by simp [hE])) (hk := ?_)
  refine wG tK ?_
  refine ZL (fun i : Nat => i ≤ l.length) (fun i => l.length - i) (fun i => [(8, .any), (9, .any), (10, .any), (21, .int .i64 i), (22, .any), (23, .any), (24, .any), (25, .any), (26, .any), (27, .any), (28, .any), (29, .any), (30, .any), (31, .any), (32, .any), (33, .any)])
   (fun i => [(5, .cells 34 4 [worRow (F i)])]) 0 (by omega) ?_ fun i hi => ?_
  ·unfold worRow
   simp only [go_sem]
   exact ZU (by simp [go_sem]) (by simp [go_sem]) (by simp [go_sem])
  unfold worRow
  simp only [go_sem]
  refine wG tK ?_
  refine wD (fun h => ?_) (fun h => ?_)
  ·have hlt : i < l.length := by simp at h; omega
   have hg : (l.map ZX).getD i [] = ZX (l.getD i default) := Fam.getD hlt
   have how' := wi1 (i := i) (by omega)
   have hpx := hl.path (l.getD i default) (by rw [List.getD_eq_getElem?_getD, List.getElem?_eq_getElem hlt]; exact List.getElem_mem _)
   have hw := rworld_ok (F i) (hinv i) (by omega) (by omega) (l.getD i default) hpx.1 hpx.2
   have hs1 := hsu i hlt
   generalize l.getD i default = x at *
   unfold worldA worRow ZX replyRow at hw
   generalize worldU (F i) x = g at *
   refine wR ?_
   refine wNq tK 4 ?_ ?_ (by simp only [go_sem]; exact rfl) (by simp only [go_sem]; exact rfl) (by simp only [go_sem, hg, ZX]; try exact rfl)
   ·simp [hg, ZX, hlt]
   refine wG tK ?_
   refine wC Tryz.func31 (hf := (hw)) (hk := ?_)
   refine wG tK ?_ (by simp only [go_sem, how']; try exact rfl) (by simp [go_sem, how'])
   refine ZB ⟨i + 1, by omega, by omega, ZU ?_ ?_ ?_⟩
   ·simp [go_sem]
   ·simp [go_sem, hs1, worRow]
   ·simp [go_sem]
  ·have e : i = l.length := by simp at h; omega
   subst e
   refine wG tK ?_
   refine wT ?_
   rfl
 ·rw [if_neg hE] at hW0 ⊢
  subst hW0
  refine wDT (hb := (by simp [hE])) (hk := ?_)
  refine wG tK ?_
  refine wT ?_
  rfl
theorem bldW_inv {rooms : List Int} (h : roomsE rooms = 0) (l : List Step) : WInv (20 * l.length) (300 * l.length) (bldW rooms l) := by
 unfold bldW
 rw [if_pos h]
 exact build_inv h l
def tn (f t x : Int) : Int := if x = f then t else x
def turn (a : Act) (f t : Int) : Act := { a with fid := tn f t a.fid, dir := tn f t a.dir, to := tn f t a.to }
theorem bldW_no {rooms : List Int} (h : roomsE rooms ≠ 0) (l : List Step) : bldW rooms l = zeroW := by unfold bldW; rw [if_neg h]
theorem Hist.ne {p : List Past} {t : List Node} (h : Hist p t) : 0 < t.length := by
 obtain ⟨n, hn, _⟩ := h.whole.root
 exact List.length_pos_of_mem hn
end La
namespace La
open Go Go.Eng
def goneC (k i : Nat) (lost : List (Int × Bool)) (r : Rec) : Bool := i == k || (fids r.act).any (getB lost)
def lostAt (l : List Rec) (k : Nat) : Nat → List (Int × Bool)
 | 0 => []
 | i + 1 => if goneC k i (lostAt l k i) (l.getD i default) = true then mput (lostAt l k i) (l.getD i default).act.fid true else lostAt l k i
def goneB (l : List Rec) (k i : Nat) : Bool := goneC k i (lostAt l k i) (l.getD i default)
def restTo (l : List Rec) (k : Nat) : Nat → List Int
 | 0 => []
 | i + 1 => if (decide (k < i) && goneB l k i) = true then restTo l k i ++ [(i : Int)] else restTo l k i
def leftTo (l : List Rec) (k : Nat) : Nat → List Rec
 | 0 => []
 | i + 1 => if goneB l k i = true then leftTo l k i else leftTo l k i ++ [l.getD i default]
theorem getB_nil (x : Int) : getB [] x = false := rfl
theorem lostAt_low (l : List Rec) (k : Nat) : ∀ i, i ≤ k → lostAt l k i = []
 | 0, _ => rfl
 | i + 1, h => by
  have ih := lostAt_low l k i (by omega)
  have : goneC k i (lostAt l k i) (l.getD i default) = false := by
   rw [ih]; unfold goneC
   have h1 : (i == k) = false := by simpa using (show i ≠ k by omega)
   rw [h1, Bool.false_or, List.any_eq_false]
   intro x _; simp [getB_nil]
  unfold lostAt
  rw [this, ih]; rfl
theorem goneB_low {l : List Rec} {k i : Nat} (h : i < k) : goneB l k i = false := by
 unfold goneB goneC
 rw [lostAt_low l k i (by omega)]
 have h1 : (i == k) = false := by simpa using (show i ≠ k by omega)
 rw [h1, Bool.false_or, List.any_eq_false]
 intro x _; simp [getB_nil]
theorem goneB_self (l : List Rec) (k : Nat) : goneB l k k = true := by unfold goneB goneC; simp
theorem lostAt_start (l : List Rec) (k : Nat) : lostAt l k (k + 1) = mput [] (l.getD k default).act.fid true := by
 have h : goneC k k (lostAt l k k) (l.getD k default) = true := goneB_self l k
 have h2 := lostAt_low l k k (Nat.le_refl _)
 show (if goneC k k (lostAt l k k) (l.getD k default) = true then mput (lostAt l k k) (l.getD k default).act.fid true else lostAt l k k) = _
 rw [if_pos h, h2]
theorem lostAt_succ (l : List Rec) (k i : Nat) : lostAt l k (i + 1) = if goneB l k i = true then mput (lostAt l k i) (l.getD i default).act.fid true else lostAt l k i := rfl
theorem goneB_high {l : List Rec} {k i : Nat} (h : k < i) : goneB l k i = (fids (l.getD i default).act).any (getB (lostAt l k i)) := by
 unfold goneB goneC
 have h1 : (i == k) = false := by simpa using (show i ≠ k by omega)
 rw [h1, Bool.false_or]
theorem restTo_low (l : List Rec) (k : Nat) : ∀ i, i ≤ k + 1 → restTo l k i = []
 | 0, _ => rfl
 | i + 1, h => by
  have ih := restTo_low l k i (by omega)
  unfold restTo
  rw [show decide (k < i) = false from decide_eq_false (by omega), ih]; rfl
theorem restTo_mem {l : List Rec} {k : Nat} {x : Int} : ∀ {i}, x ∈ restTo l k i ↔ ∃ j : Nat, j < i ∧ x = (j : Int) ∧ k < j ∧ goneB l k j = true
 | 0 => by simp [restTo]
 | i + 1 => by
  have ih := @restTo_mem l k x i
  unfold restTo
  by_cases h : (decide (k < i) && goneB l k i) = true
  ·rw [if_pos h, List.mem_append, ih]
   simp only [Bool.and_eq_true, decide_eq_true_eq] at h
   constructor
   ·rintro (⟨j, h1, h2⟩ | h1)
    ·exact ⟨j, by omega, h2⟩
    ·exact ⟨i, by omega, List.mem_singleton.1 h1, h⟩
   ·rintro ⟨j, h1, h2, h3⟩
    by_cases e : j = i
    ·subst e; exact .inr (List.mem_singleton.2 h2)
    ·exact .inl ⟨j, by omega, h2, h3⟩
  ·rw [if_neg h, ih]
   simp only [Bool.and_eq_true, decide_eq_true_eq] at h
   constructor
   ·rintro ⟨j, h1, h2⟩; exact ⟨j, by omega, h2⟩
   ·rintro ⟨j, h1, h2, h3⟩
    by_cases e : j = i
    ·subst e; exact absurd h3 h
    ·exact ⟨j, by omega, h2, h3⟩
def goneL (l : List Rec) (k : Nat) : List Int := restTo l k l.length ++ [(k : Int)]
theorem goneL_has {l : List Rec} {k i : Nat} (hi : i < l.length) : (goneL l k).contains (i : Int) = goneB l k i := by
 rw [Bool.eq_iff_iff, List.contains_iff_mem]
 unfold goneL
 rw [List.mem_append, restTo_mem, List.mem_singleton]
 constructor
 ·rintro (⟨j, _, h2, _, h4⟩ | h)
  ·rw [show i = j by omega]; exact h4
  ·rw [show i = k by omega]; exact goneB_self l k
 ·intro h
  rcases Nat.lt_trichotomy i k with h1 | h1 | h1
  ·rw [goneB_low h1] at h; cases h
  ·exact .inr (by omega)
  ·exact .inl ⟨i, hi, rfl, h1, h⟩
theorem leftTo_succ (l : List Rec) (k i : Nat) : leftTo l k (i + 1) = if goneB l k i = true then leftTo l k i else leftTo l k i ++ [l.getD i default] := rfl
theorem restTo_succ (l : List Rec) (k i : Nat) : restTo l k (i + 1) = if (decide (k < i) && goneB l k i) = true then restTo l k i ++ [(i : Int)] else restTo l k i := rfl
theorem left_count (l : List Rec) (k : Nat) : ∀ i, (leftTo l k i).length + (restTo l k i).length + (if k < i then 1 else 0) = i
 | 0 => by simp [leftTo, restTo]
 | i + 1 => by
  have ih := left_count l k i
  rw [leftTo_succ, restTo_succ]
  rcases Nat.lt_trichotomy i k with h1 | h1 | h1
  ·have e1 : (decide (k < i) && goneB l k i) = false := by rw [goneB_low h1, Bool.and_false]
   rw [e1, goneB_low h1, if_neg Bool.false_ne_true, if_neg Bool.false_ne_true, List.length_append, List.length_singleton, if_neg (show ¬ k < i + 1 by omega)]
   rw [if_neg (show ¬ k < i by omega)] at ih
   omega
  ·subst h1
   have e1 : (decide (i < i) && goneB l i i) = false := by rw [show decide (i < i) = false from decide_eq_false (by omega)]; rfl
   rw [e1, goneB_self, if_pos rfl, if_neg Bool.false_ne_true, if_pos (show i < i + 1 by omega)]
   rw [if_neg (show ¬ i < i by omega)] at ih
   omega
  ·rw [show decide (k < i) = true from decide_eq_true h1, Bool.true_and, if_pos (show k < i + 1 by omega)]
   rw [if_pos h1] at ih
   cases goneB l k i with
   | true => rw [if_pos rfl, if_pos rfl, List.length_append, List.length_singleton]; omega
   | false => rw [if_neg Bool.false_ne_true, if_neg Bool.false_ne_true, List.length_append, List.length_singleton]; omega
end La
namespace La
open Go Go.Eng Go.Proofs
def loH (m : List (Int × Bool)) (G Y N : Nat → Nat) : List (Nat × Blk) := [(5, .cells 54 1 [[.mp 16]]), (16, .map (mB m))] ++ pins [5, 16] G Y N
theorem lo_ok (m : List (Int × Bool)) (f : Int) (G Y N : Nat → Nat) : FnOK Tryz.prog 44 [.int .i64 f, .ptr 5 1 0 0] (loH m G Y N) (fun r H => r = .bool (getB m f) ∧ Holds (loH m G Y N) H) := by
 unfold loH
 refine ZF tK (Tryz.func44) rfl (fun C => ?_)
 simp only [Tryz.ntmps44, Tryz.results44, go_sem]
 refine wG tK ?_
 refine wT ?_
 exact ⟨rfl, fun i b hb => hb⟩
theorem loIdx_ok (m : List (Int × Bool)) (l : List Int) (hlen : l.length ≤ 100000000) (G Y N : Nat → Nat) : FnOK Tryz.prog 70 [.sl (l.map ZI), .fn 44 [.ptr 5 1 0 0]] (loH m G Y N)
  (fun r H => r = .int .i64 (idxI (l.findIdx? (getB m))) ∧ Holds (loH m G Y N) H) := by
 unfold loH
 refine ZF tK (Tryz.func70) rfl (fun C => ?_)
 simp only [Tryz.ntmps70, Tryz.results70, go_sem]
 refine wG tK ?_
 refine ZL (fun i : Nat => i ≤ l.length ∧ ∀ x, x ∈ l.take i → getB m x = false) (fun i => l.length - i) (fun i => [(8, .int .i64 i), (5, .any), (9, .any), (10, .any), (11, .any), (12, .any), (13, .any), (14, .any), (15, .any), (16, .any), (17, .any), (18, .any)]) (fun _ => []) 0 ⟨by omega, by simp⟩ ?_ fun i hi => ?_
 ·simp only [go_sem]
  exact ZU (by simp [go_sem]) (by simp [go_sem]) (by simp [go_sem])
 obtain ⟨hi, hno⟩ := hi
 simp only [go_sem]
 refine wG tK ?_
 refine wD (fun h => ?_) (fun h => ?_)
 ·have hlt : i < l.length := by simp at h; omega
  have hg : (l.map ZI).getD i [] = ZI (l.getD i default) := Fam.getD hlt
  have htk := ZT hlt
  have hgi : l[i]? = some (l.getD i default) := by rw [List.getD_eq_getElem?_getD, List.getElem?_eq_getElem hlt]; rfl
  have hc := lo_ok m (l.getD i default)
  unfold loH at hc
  generalize l.getD i default = n at hg htk hgi hc
  refine wGq tK ?_ ?_ (by simp only [go_sem, hg, ZI]; try exact rfl)
  ·simp [hlt, ZI]
  refine wP [5, 16] Tryz.func44 (hf := (hc)) (hk := ?_)
  refine wG tK ?_
  refine wD (fun h => ?_) (fun h => ?_)
  ·refine wG tK ?_
   refine wU ?_ ?_
   ·rw [findIdx_at hgi hno h]; rfl
   ·skip
    simp only [pins, List.cons_append, List.nil_append, List.map_cons, List.map_nil]
    repeat' refine ZH ?_ ?_
    all_goals first | exact YH _ | rfl | simp [go_sem]
  ·have hw : IntKind.i64.wrap ((i : Int) + 1) = (i : Int) + 1 := wrap_small (by omega) (by omega)
   refine wG tK ?_ (by simp only [go_sem, hw]; try exact rfl) (by simp [go_sem, hw])
   refine ZB ⟨i + 1, ⟨by omega, ?_⟩, by omega, ZU ?_ ?_ ?_⟩
   ·rw [htk]
    intro x hx
    rcases List.mem_append.1 hx with hx | hx
    ·exact hno x hx
    ·rw [List.mem_singleton.1 hx]; exact h
   ·simp [go_sem]
   ·simp [go_sem]
   ·simp [go_sem]
 ·have e : i = l.length := by simp at h; omega
  refine wG tK ?_
  refine wU ?_ ?_
  ·rw [e, List.take_length] at hno
   rw [List.findIdx?_eq_none_iff.2 hno]; rfl
  ·skip
   simp only [pins, List.cons_append, List.nil_append, List.map_cons, List.map_nil]
   repeat' refine ZH ?_ ?_
   all_goals first | exact YH _ | rfl | simp [go_sem]
theorem loAny_ok (m : List (Int × Bool)) (l : List Int) (hlen : l.length ≤ 100000000) (G Y N : Nat → Nat) : FnOK Tryz.prog 42 [.sl (l.map ZI), .fn 44 [.ptr 5 1 0 0]] (loH m G Y N)
  (fun r H => r = .bool (l.any (getB m)) ∧ Holds (loH m G Y N) H) := by
 have hc := loIdx_ok m l hlen
 unfold loH at hc ⊢
 refine ZF tK (Tryz.func42) rfl (fun C => ?_)
 simp only [Tryz.ntmps42, Tryz.results42, go_sem]
 refine wG tK ?_
 refine wP [5, 16] Tryz.func70 (hf := (hc)) (hk := ?_)
 refine wG tK ?_
 refine wU ?_ ?_
 ·rw [idxI_any]
 ·skip
  simp only [pins, List.cons_append, List.nil_append, List.map_cons, List.map_nil]
  repeat' refine ZH ?_ ?_
  all_goals first | exact YH _ | rfl | simp [go_sem]
theorem mB_begin (k : Int) : mput ([] : List (Int × AV)) k (.bool true) = mB (mput [] k true) := rfl
theorem rests_held (l : List Rec) (k : Nat) (hk : k < l.length) (hlen : l.length ≤ 80000000) : FnOK Tryz.prog 23 [.sl (l.map ZR), .int .i64 k] []
  (fun r H => r = .osl 50 1 0 (restTo l k l.length).length ∧ ∀ i b, hget [(50, .cells 3 1 ((restTo l k l.length).map ZI))] i = some b → hget H i = some b) := by
 have hgk : (l.map ZR).getD k [] = ZR (l.getD k default) := Fam.getD hk
 have hst := lostAt_start l k
 have hlow := restTo_low l k (k + 1) (Nat.le_refl _)
 have hlk : k < 100000000 := by omega
 have hwk : IntKind.i64.wrap ((k : Int) + 1) = ((k + 1 : Nat) : Int) := by rw [Eng.wrap_small (by omega) (by omega)]; rfl
 generalize l.getD k default = rk at *
 refine ZF tK (Tryz.func23) rfl (fun C => ?_)
 simp only [Tryz.ntmps23, Tryz.results23, go_sem]
 refine wR ?_
 refine wN tK 1 ?_
 refine wR ?_
 refine wN tK 8 ?_
 refine cw_name 15 (by simp only [go_sem]; exact rfl) (fun c15 h15 => ?_)
 simp only [go_sem]
 have hc : c15 = false := by
  subst h15
  simp; omega
 refine wDF (hb := (hc)) (hk := ?_)
 refine wGq tK ?_ ?_ (by simp only [go_sem, hgk, ZR, hwk]; try exact rfl)
 ·simp [hgk, ZR, hk, AV.deepB, AV.pureB]
 refine cw_le (le_empty 50 3 1 (by simp only [go_sem]; try exact rfl)) ?_
 simp only [go_sem]
 refine ZL (fun i : Nat => k + 1 ≤ i ∧ i ≤ l.length) (fun i => l.length - i) (fun i => [(6, .osl 50 1 0 (restTo l k i).length), (7, .int .i64 i), (26, .any), (27, .any), (28, .any), (29, .any), (30, .any), (31, .any), (32, .any), (33, .any), (34, .any), (35, .any), (36, .any), (37, .any), (38, .any), (39, .any), (40, .any), (41, .any), (42, .any), (43, .any), (44, .any), (45, .any), (46, .any), (47, .any), (48, .any), (49, .any), (50, .any)]) (fun i => [(16, .map (mB (lostAt l k i))), (50, .cells 3 1 ((restTo l k i).map ZI))]) (k + 1) ⟨by omega, by omega⟩ ?_ fun i hi => ?_
 ·rw [hlow, hst]
  simp only [go_sem]
  exact ZU (by simp [go_sem]) (by simp [go_sem, mB_begin]) (by simp [go_sem])
 obtain ⟨hki, hi⟩ := hi
 refine wG tK ?_
 refine wD (fun h => ?_) (fun h => ?_)
 ·have hlt : i < l.length := by simp at h; omega
  have hg : (l.map ZR).getD i [] = ZR (l.getD i default) := Fam.getD hlt
  have hwi := wi1 (i := i) (by omega)
  have hgo := goneB_high (l := l) (show k < i by omega)
  have hls := lostAt_succ l k i
  have hrs := restTo_succ l k i
  have hlc := left_count l k i
  rw [show decide (k < i) = true from decide_eq_true (by omega), Bool.true_and] at hrs
  generalize l.getD i default = r at *
  have hfi := fids_ok r.act
  have hf3 := fids_len r.act
  have hany := loAny_ok (lostAt l k i) (fids r.act) (by omega)
  rw [← hgo] at hany
  unfold loH at hany
  unfold ZA at hfi
  refine wGq tK ?_ ?_ (by simp only [go_sem, hg, ZR]; try exact rfl)
  ·simp [hg, ZR, hlt]
  refine wC Tryz.func43 (hf := (hfi)) (hk := ?_)
  refine wG tK ?_
  refine wP [5, 16] Tryz.func42 (hf := (hany)) (hk := ?_)
  refine wG tK ?_
  cases hb : goneB l k i with
  | true =>
   rw [hb, if_pos rfl] at hls hrs
   refine wDT (hb := (by simp)) (hk := ?_)
   refine wG tK ?_
   refine ZW ZM ?_
   refine ZS rfl ?_
   refine sNq tK 7 ?_ ?_ (by simp only [go_sem]; exact rfl) (by simp only [go_sem]; exact rfl) (by simp only [go_sem, hg, ZR]; try exact rfl)
   ·simp [hg, ZR, hlt]
   refine sE ?_
   refine dS tK ?_
   refine wKd ?_
   try simp only [go_sem, gA, gB, gC]
   refine wGq tK ?_ ?_ (by simp only [go_sem, hwi]; try exact rfl)
   ·simp [rowsOf]; omega
   refine ZB ⟨i + 1, by omega, by omega, ZU ?_ ?_ ?_⟩
   ·simp [go_sem, hrs]
   ·simp [go_sem, hls, hrs, ZI]
   ·simp [go_sem]
  | false =>
   rw [hb, if_neg Bool.false_ne_true] at hls hrs
   refine wDF (hb := (by simp)) (hk := ?_)
   refine wG tK ?_ (by simp only [go_sem, hwi]; try exact rfl) (by simp [go_sem, hwi])
   refine ZB ⟨i + 1, by omega, by omega, ZU ?_ ?_ ?_⟩
   ·simp [go_sem, hrs]
   ·simp [go_sem, hls, hrs]
   ·simp [go_sem]
 ·have e : i = l.length := by simp at h; omega
  subst e
  refine wG tK ?_
  refine wT ?_
  simp [go_sem]
theorem rests_read (l : List Rec) (k : Nat) (hk : k < l.length) (hlen : l.length ≤ 80000000) : FnOK Tryz.prog 23 [.sl (l.map ZR), .int .i64 k] [] (fun r _ => r = .sl ((restTo l k l.length).map ZI)) := by
 have h := rests_held l k hk hlen
 have e : (restTo l k l.length).length = ((restTo l k l.length).map ZI).length := by simp
 rw [e] at h
 exact FnOK.read h (intRow_pure _)
theorem drop_raw (l : List Rec) (k : Nat) (hk : k < l.length) (hl : SmallL l) (hlen : l.length ≤ 80000000) : FnOK Tryz.prog 26 [.sl (l.map ZR), .int .i64 k] []
  (fun r _ => r = .tup [.sl ((leftTo l k l.length).map ZR), .int .i64 0]) := by
 have hre := rests_held l k hk hlen
 have how := logs_own l hl
 have hcl := left_count l k l.length
 have hgl : (goneL l k).length ≤ 100000000 := by unfold goneL; simp; omega
 have hgr : (goneL l k).map ZI = (restTo l k l.length).map ZI ++ [[.int .i64 (k : Int)]] := by unfold goneL; rw [List.map_append]; rfl
 have hgln : (goneL l k).length = (restTo l k l.length).length + 1 := by unfold goneL; simp
 have hlk : k < 100000000 := by omega
 refine ZF tK (Tryz.func26) rfl (fun C => ?_)
 simp only [Tryz.ntmps26, Tryz.results26, go_sem]
 refine wR ?_
 refine wN tK 2 ?_
 refine wR ?_
 refine wN tK 8 ?_
 refine cw_name 17 (by simp only [go_sem]; exact rfl) (fun c17 h17 => ?_)
 simp only [go_sem]
 have hc : c17 = false := by
  subst h17
  simp; omega
 refine wDF (hb := (hc)) (hk := ?_)
 refine wG tK ?_
 refine wCG [] 1000 Tryz.func23 (hf := (hre)) (hk := ?_)
 refine wGq tK ?_ ?_
 ·simp [rowsOf]; omega
 rw [← hgr, ← hgln]
 refine ZZ 23 rfl (intRow_pure _) ?_
 simp only [go_sem]
 refine wC Tryz.func46 (hf := (how)) (hk := ?_)
 refine wG tK ?_
 refine cw_le (le_empty 39 56 9 (by simp only [go_sem]; try exact rfl)) ?_
 simp only [go_sem]
 refine ZL (fun i : Nat => i ≤ l.length) (fun i => l.length - i) (fun i => [(7, .osl 39 9 0 (leftTo l k i).length), (8, .any), (9, .any), (27, .int .i64 i), (28, .any), (29, .any), (30, .any), (31, .any), (32, .any), (33, .any), (34, .any), (35, .any), (36, .any), (37, .any), (38, .any), (39, .any), (40, .any)]) (fun i => [(39, .cells 56 9 ((leftTo l k i).map ZR))]) 0 (by omega) ?_ fun i hi => ?_
 ·simp only [go_sem]
  exact ZU (by simp [go_sem, leftTo]) (by simp [go_sem, leftTo]) (by simp [go_sem])
 simp only [go_sem]
 refine wG tK ?_
 refine wD (fun h => ?_) (fun h => ?_)
 ·have hlt : i < l.length := by simp at h; omega
  have hg : (l.map ZR).getD i [] = ZR (l.getD i default) := Fam.getD hlt
  have hwi := wi1 (i := i) (by omega)
  have hls := leftTo_succ l k i
  have hlc := left_count l k i
  have hcn := contains_ok (goneL l k) hgl (i : Int)
  rw [goneL_has hlt] at hcn
  generalize l.getD i default = r at *
  refine wGq tK ?_ ?_ (by simp only [go_sem, hg, ZR]; try exact rfl)
  ·simp [hg, ZR, hlt]
  refine wC Tryz.func48 (hf := (hcn)) (hk := ?_)
  refine wG tK ?_
  cases hb : goneB l k i with
  | true =>
   rw [hb, if_pos rfl] at hls
   refine wDF (hb := (by simp)) (hk := ?_)
   refine wG tK ?_ (by simp only [go_sem, hwi]; try exact rfl) (by simp [go_sem, hwi])
   refine ZB ⟨i + 1, by omega, by omega, ZU ?_ ?_ ?_⟩
   ·simp [go_sem, hls]
   ·simp [go_sem, hls]
   ·simp [go_sem]
  | false =>
   rw [hb, if_neg Bool.false_ne_true] at hls
   refine wDT (hb := (by simp)) (hk := ?_)
   refine wGq tK ?_ ?_ (by simp only [go_sem, hwi]; try exact rfl)
   ·simp [rowsOf]; omega
   refine ZB ⟨i + 1, by omega, by omega, ZU ?_ ?_ ?_⟩
   ·simp [go_sem, hls]
   ·simp [go_sem, hls, ZR]
   ·simp [go_sem]
 ·have e : i = l.length := by simp at h; omega
  subst e
  refine wG tK ?_
  refine ZZ 39 rfl (recRow_pure _) ?_
  simp only [go_sem]
  refine wT ?_
  simp
def freshR (t : List Node) (r : Rec) : Rec := match findN t r.act.fid with
 | none => r
 | some n => if r.version ≥ 0 then { r with version := n.version } else r
def freshTo (t : List Node) (l : List Rec) (i : Nat) : List Rec := (l.take i).map (freshR t) ++ l.drop i
theorem freshTo_len (t : List Node) (l : List Rec) {i : Nat} (h : i ≤ l.length) : (freshTo t l i).length = l.length := by unfold freshTo; simp; omega
theorem freshTo_at (t : List Node) {l : List Rec} {i : Nat} (h : i < l.length) : (freshTo t l i).getD i default = l.getD i default := by
 unfold freshTo
 rw [List.getD_eq_getElem?_getD, List.getElem?_append_right (by simp; omega), List.getD_eq_getElem?_getD]
 simp
 rw [show min i l.length = i by omega, Nat.sub_self, Nat.add_zero]
theorem freshTo_succ (t : List Node) {l : List Rec} {i : Nat} (h : i < l.length) : freshTo t l (i + 1) = (freshTo t l i).set i (freshR t (l.getD i default)) := by
 unfold freshTo
 rw [ZT h, drop_getD h, List.map_append, List.append_assoc]
 have hl : ((l.take i).map (freshR t)).length = i := by simp; omega
 rw [List.set_append_right _ _ (by omega), hl, Nat.sub_self]
 rfl
theorem freshTo_same {t : List Node} {l : List Rec} {i : Nat} (h : i < l.length) (hs : freshR t (l.getD i default) = l.getD i default) : freshTo t l (i + 1) = freshTo t l i := by
 rw [freshTo_succ t h, hs]
 refine List.ext_getElem? fun j => ?_
 rw [List.getElem?_set]
 split
 ·rename_i e; subst e
  have := freshTo_at t h
  rw [List.getD_eq_getElem?_getD] at this
  have hl := freshTo_len t l (i := i) (by omega)
  rw [if_pos (by omega)]
  rw [List.getElem?_eq_getElem (by omega)] at this ⊢
  simp only [Option.getD_some] at this
  rw [this]
 ·rfl
theorem rfresh_ok (l : List Rec) (t : List Node) (hl : SmallL l) (hlen : l.length ≤ 80000000) (ht : Small t) : FnOK Tryz.prog 25 [.sl (l.map ZR), .sl (t.map ZN)] []
  (fun r _ => r = .sl ((l.map (freshR t)).map ZR)) := by
 have how := logs_ownH l hl
 have hz : freshTo t l 0 = l := by simp [freshTo]
 have hn : freshTo t l l.length = l.map (freshR t) := by unfold freshTo; rw [List.take_length, List.drop_length, List.append_nil]
 rw [← hn]
 refine ZF tK (Tryz.func25) rfl (fun C => ?_)
 simp only [Tryz.ntmps25, Tryz.results25, go_sem]
 refine wG tK ?_
 refine wCG [] 1000 Tryz.func46 (hf := (how)) (hk := ?_)
 refine wG tK ?_
 refine ZL (fun i : Nat => i ≤ l.length) (fun i => l.length - i) (fun i => [(6, .any), (7, .any), (8, .any), (9, .any), (14, .int .i64 i), (15, .any), (16, .any), (17, .any), (18, .any), (19, .any), (20, .any), (21, .any), (22, .any), (23, .any), (24, .any), (25, .any), (26, .any), (27, .any), (28, .any), (29, .any), (30, .any), (31, .any), (32, .any), (33, .any), (34, .any), (35, .any), (36, .any), (37, .any), (38, .any), (39, .any), (40, .any), (41, .any), (42, .any), (43, .any)]) (fun i => [(1019, .cells 56 9 ((freshTo t l i).map ZR))]) 0 (by omega) ?_ fun i hi => ?_
 ·rw [hz]
  simp only [go_sem]
  exact ZU (by simp [go_sem]) (by simp [go_sem]) (by simp [go_sem])
 simp only [go_sem]
 refine wG tK ?_
 refine wD (fun h => ?_) (fun h => ?_)
 ·have hlt : i < l.length := by simp at h; omega
  have hfl := freshTo_len t l hi
  have hg : ((freshTo t l i).map ZR).getD i [] = ZR (l.getD i default) := by rw [Fam.getD (by omega), freshTo_at t hlt]
  have hwi := wi1 (i := i) (by omega)
  have hsu := freshTo_succ t hlt
  have hsa := freshTo_same (t := t) hlt
  have hfd := find_ok t (l.getD i default).act.fid ht
  generalize l.getD i default = r at *
  refine wGq tK ?_ ?_ (by simp only [go_sem, hg, ZR]; try exact rfl)
  ·simp [hg, ZR, hlt, hfl]
  refine wC Tryz.func47 (hf := (hfd)) (hk := ?_)
  simp only [go_sem, findR]
  rw [isAt_eq]
  unfold freshR at hsu hsa
  cases hfn : findN t r.act.fid with
  | none =>
   rw [hfn] at hsa hsu
   simp only at hsa hsu
   have hsa := hsa trivial
   simp only [Option.getD_none, Option.isSome_none]
   refine wGq tK ?_ ?_ (by simp only [go_sem, hg, ZR, zeroN, ZN]; try exact rfl)
   ·simp [zeroN, ZN]
   refine wDF (hb := (by simp)) (hk := ?_)
   refine wG tK ?_ (by simp only [go_sem, hwi]; try exact rfl) (by simp [go_sem, hwi])
   refine ZB ⟨i + 1, by omega, by omega, ZU ?_ ?_ ?_⟩
   ·simp [go_sem]
   ·simp [go_sem, hsa]
   ·simp [go_sem]
  | some n =>
   rw [hfn] at hsa hsu
   simp only at hsa hsu
   simp only [Option.getD_some, Option.isSome_some]
   refine wGq tK ?_ ?_ (by simp only [go_sem, hg, ZR, ZN]; try exact rfl)
   ·simp [hg, ZR, ZN, hfl, hlt]
   by_cases hv : r.version ≥ 0
   ·rw [if_pos hv] at hsu
    have hset := set_map ZR (freshTo t l i) i { r with version := n.version }
    rw [← hsu] at hset
    simp only [ZR] at hset
    refine wDT (hb := (by simp [hv])) (hk := ?_)
    refine wGq tK ?_ ?_ (by simp only [go_sem, hwi, hg, ZR, ZN]; try exact rfl)
    ·simp [hg, ZR, ZN, hfl, hlt]
    refine ZB ⟨i + 1, by omega, by omega, ZU ?_ ?_ ?_⟩
    ·simp [go_sem]
    ·simp [go_sem, hg, ZR, hset, -List.map_set]
    ·simp [go_sem]
   ·rw [if_neg hv] at hsa
    have hsa := hsa rfl
    refine wDF (hb := (by simp at hv; simp [hv])) (hk := ?_)
    refine wG tK ?_ (by simp only [go_sem, hwi]; try exact rfl) (by simp [go_sem, hwi])
    refine ZB ⟨i + 1, by omega, by omega, ZU ?_ ?_ ?_⟩
    ·simp [go_sem]
    ·simp [go_sem, hsa]
    ·simp [go_sem]
 ·have e : i = l.length := by simp at h; omega
  subst e
  refine wG tK ?_
  refine ZZ 1019 rfl (recRow_pure _) ?_
  simp only [go_sem]
  have hfl := freshTo_len t l (Nat.le_refl l.length)
  have htk : ((freshTo t l l.length).map ZR).take l.length = (freshTo t l l.length).map ZR := List.take_of_length_le (by simp [hfl])
  refine wT ?_
  rw [if_pos (by omega), htk]
theorem freshR_fit {t : List Node} {r : Rec} (h : ActFit r.act) : ActFit (freshR t r).act := by
 unfold freshR
 split
 ·exact h
 ·split <;> exact h
theorem freshR_small {t : List Node} {r : Rec} (h : r.act.Small) : (freshR t r).act.Small := by
 unfold freshR
 split
 ·exact h
 ·split <;> exact h
theorem freshL_small {t : List Node} {l : List Rec} (h : SmallL l) : SmallL (l.map (freshR t)) := ⟨by rw [List.length_map]; exact h.len, fun r hr => by
 obtain ⟨q, hq, rfl⟩ := List.mem_map.1 hr
 exact freshR_small (h.each q hq)⟩
theorem force_ok (s : Srv) (h : SrvOK 40000000 s) (c : Int) (l : List Rec) (hl : SmallL l) (hl2 : l.length ≤ 2000000) (hfit : ∀ r, r ∈ l → ActFit r.act) :
  FnOK Tryz.prog 27 [.agg (ZQ s), .int .i64 c, .sl (l.map ZR)] []
   (fun r _ => r = .tup [.agg (ZQ (takeS s c (l.map (freshR s.tree)))), .sl ((judgeJ s.tree s.next ((s.past.length + 1 : Nat) : Int) (l.map (freshR s.tree))).vs.map ZV)]) := by
 have hfr := rfresh_ok l s.tree hl (by omega) h.hist.good.small
 have htk := take_ok s h c (l.map (freshR s.tree)) (freshL_small hl) (by rw [List.length_map]; exact hl2) (fun r hr => by
  obtain ⟨q, hq, rfl⟩ := List.mem_map.1 hr
  exact freshR_fit (hfit q hq))
 generalize takeS s c (l.map (freshR s.tree)) = q at *
 generalize judgeJ s.tree s.next ((s.past.length + 1 : Nat) : Int) (l.map (freshR s.tree)) = g at *
 generalize l.map (freshR s.tree) = l2 at *
 unfold ZQ at htk ⊢
 refine ZF tK (Tryz.func27) rfl (fun C => ?_)
 simp only [Tryz.ntmps27, Tryz.results27, go_sem]
 refine wG tK ?_
 refine ZZ 3 rfl (rfl) ?_
 simp only [go_sem]
 refine ZW ZM ?_
 refine ZS rfl ?_
 refine sN tK 5 ?_
 refine sC Tryz.func25 (hf := (hfr)) (hk := ?_)
 refine sC Tryz.func15 (hf := (htk)) (hk := ?_)
 refine sN tK 2 ?_
 refine sT tK ?_
 refine sN tK 1 ?_
 refine sE ?_
 refine wKd ?_
 try simp only [go_sem, gA, gB, gC]
 refine wG tK ?_
 refine wT ?_
 rfl
theorem foldJ_vs : ∀ (l : List Rec) (s : JG), ∃ m, (l.foldl stepJ s).vs = s.vs ++ m
 | [], s => ⟨[], by simp⟩
 | r :: l, s => by
  obtain ⟨m, hm⟩ := foldJ_vs l (stepJ s r)
  have h1 : (stepJ s r).vs = s.vs ++ [oneV s.j r] := by unfold stepJ; split <;> rfl
  exact ⟨[oneV s.j r] ++ m, by rw [List.foldl_cons, hm, h1, List.append_assoc]⟩
theorem judge_first (t : List Node) (n0 v : Int) (r : Rec) (l : List Rec) : (judgeJ t n0 v (r :: l)).vs.getD 0 default = oneV (startJ t n0 v).j r := by
 unfold judgeJ
 rw [List.foldl_cons]
 obtain ⟨m, hm⟩ := foldJ_vs l (stepJ (startJ t n0 v) r)
 have h1 : (stepJ (startJ t n0 v) r).vs = [oneV (startJ t n0 v).j r] := by unfold stepJ; split <;> rfl
 rw [hm, h1]
 rfl
theorem freshR_act (t : List Node) (r : Rec) : (freshR t r).act = r.act := by
 unfold freshR
 split
 ·rfl
 ·split <;> rfl
theorem force_first {t : List Node} {r : Rec} {n0 v : Int} {n : Node} (hf : findN t r.act.fid = some n) (hk : r.act.kind = 3) (hd : n.dir = false) (hl : r.act.data.length ≤ 20) : oneE (startJ t n0 v).j (freshR t r) = 0 := by
 have ha := freshR_act t r
 have hm : madeB r.act = false := by unfold madeB; rw [hk]; rfl
 have ho : own1 (startJ t n0 v).j (freshR t r) = [] := by unfold own1; rw [ha, hm]; rfl
 have hat : ∀ f, atF [] f = f := fun f => by unfold atF hasI; rfl
 have hA : actJ (startJ t n0 v).j (freshR t r) = r.act := by
  unfold actJ
  rw [ho, ha]
  simp only [hat]
  split <;> rfl
 have hr : restsB (startJ t n0 v).j r.act = false := by
  unfold restsB
  rw [List.any_eq_false]
  intro x _
  rw [show (startJ t n0 v).j.lost = [] from rfl]
  unfold getB
  rw [show mget ([] : List (Int × Bool)) x = none from rfl]
  simp
 have hst : staleB { (startJ t n0 v).j with own := own1 (startJ t n0 v).j (freshR t r) } (freshR t r) r.act = false := by
  unfold staleB
  split
  ·rfl
  ·rename_i hn
   show (match findN t r.act.fid with | none => true | some m => m.version != (freshR t r).version) = false
   rw [hf]
   have : (freshR t r).version = n.version := by
    have hv : ¬ (freshR t r).version < 0 := fun h => hn (.inl (.inr h))
    unfold freshR at hv ⊢
    rw [hf] at hv ⊢
    simp only at hv ⊢
    split
    ·rfl
    ·rename_i h2
     rw [if_neg h2] at hv
     omega
   simp [this]
 have hap : applyE t r.act = 0 := by
  unfold applyE
  simp only [hk]
  unfold storeE
  rw [hf]
  simp [hd]
  omega
 unfold oneE
 rw [ha, hA, if_neg (by simp [hr]), if_neg (by simp [hm]), if_neg (by rw [hst]; simp)]
 exact hap
theorem force_vs0 {s : Srv} {r : Rec} {l : List Rec} {n : Node} (hf : findN s.tree r.act.fid = some n) (hk : r.act.kind = 3) (hd : n.dir = false) (hl : r.act.data.length ≤ 20) :
  ((judgeJ s.tree s.next ((s.past.length + 1 : Nat) : Int) ((r :: l).map (freshR s.tree))).vs.getD 0 default).err = 0 := by
 rw [List.map_cons, judge_first]
 exact force_first hf hk hd hl
def b1 : Rec := ⟨⟨2, -1, 0, [100], 0, [], []⟩, 0, 0⟩
def b2 : Rec := ⟨⟨1, -2, -1, [102], 0, [], []⟩, 0, 0⟩
def b3 : Rec := ⟨⟨3, 7, 0, [], 0, [], []⟩, 3, 0⟩
def b4 : Rec := ⟨⟨3, 7, 0, [], 0, [], []⟩, 9, 0⟩
theorem bsm {l : List Rec} (h : l.length ≤ 100) (h2 : ∀ r, r ∈ l → r.act.data.length ≤ 100) : SmallL l := ⟨by omega, fun r hr => by unfold Act.Small; have := h2 r hr; omega⟩
theorem bp1 : FnOK Tryz.prog 26 [.sl ([b1, b2, b3].map ZR), .int .i64 0] [] (fun r _ => r = .tup [.sl ([b3].map ZR), .int .i64 0]) :=
 drop_raw [b1, b2, b3] 0 (by decide) (bsm (by decide) (by decide)) (by decide)
theorem bp2 : FnOK Tryz.prog 25 [.sl ([b1, b2, b3].map ZR), .sl ([(⟨7, false, [], [], 9⟩ : Node)].map ZN)] [] (fun r _ => r = .sl ([b1, b2, b4].map ZR)) :=
 rfresh_ok [b1, b2, b3] [⟨7, false, [], [], 9⟩] (bsm (by decide) (by decide)) (by decide) ⟨by decide, fun n hn => by rw [List.mem_singleton.1 hn]; exact ⟨by decide, by decide⟩⟩
def bT : List Node := [⟨0, true, [], [⟨[100], 1⟩], 1⟩, ⟨1, true, [], [⟨[102], 2⟩], 2⟩, ⟨2, false, [], [], 2⟩]
def bS : Srv := ⟨bT, 3, [⟨1, ⟨2, 1, 0, [100], 0, [], []⟩⟩, ⟨1, ⟨1, 2, 1, [102], 0, [], []⟩⟩]⟩
theorem bk : takeS ⟨[rootN], 1, []⟩ 1 ([b1, b2].map (freshR [rootN])) = bS := rfl
theorem bp3 : FnOK Tryz.prog 27 [.agg (ZQ ⟨[rootN], 1, []⟩), .int .i64 1, .sl ([b1, b2].map ZR)] [] (fun r _ => r = .tup [.agg (ZQ bS), .sl ([(⟨0, 1⟩ : Verdict), ⟨0, 2⟩].map ZV)]) := by
 have := force_ok ⟨[rootN], 1, []⟩ (SrvOK.new.mono (by decide)) 1 [b1, b2] (bsm (by decide) (by decide)) (by decide) (fun r hr => by
  rcases List.mem_cons.1 hr with rfl | hr
  ·exact ⟨by decide, by decide, by decide⟩
  ·rw [List.mem_singleton.1 hr]; exact ⟨by decide, by decide, by decide⟩)
 rw [bk] at this
 exact this
theorem bp5 : FnOK Tryz.prog 23 [.sl ([b1, b2, b3].map ZR), .int .i64 0] [] (fun r _ => r = .sl ([1].map ZI)) := rests_read [b1, b2, b3] 0 (by decide) (by decide)
theorem alive11 : FnOK Tryz.prog 28 [] [] (fun r _ => r = .bool true) := by
 have p3 := bp3
 have p4 := newServer_ok
 simp only [ZQ, bS] at p3 p4
 refine ZF tK (Tryz.func28) rfl (fun C => ?_)
 simp only [Tryz.ntmps28, Tryz.results28, go_sem]
 refine wG tK ?_
 refine ZZ 13 rfl (rfl) ?_
 simp only [go_sem]
 refine wC Tryz.func26 (hf := (by exact FnOK.nrm rfl (bp1))) (hk := ?_)
 refine wG tK ?_
 refine ZZ 21 rfl (rfl) ?_
 simp only [go_sem]
 refine wC Tryz.func25 (hf := (by exact FnOK.nrm rfl (bp2))) (hk := ?_)
 refine wG tK ?_
 refine ZW ZM ?_
 refine ZS rfl ?_
 refine sC Tryz.func10 (hf := (p4)) (hk := ?_)
 refine sN tK 2 ?_
 refine sC Tryz.func27 (hf := (by exact FnOK.nrm rfl (p3))) (hk := ?_)
 refine sN tK 3 ?_
 refine sW tK ?_
 simp only [go_sem]
 refine sT tK ?_
 refine sE ?_
 refine dS tK ?_
 refine wKd ?_
 try simp only [go_sem, gA, gB, gC]
 refine wG tK ?_
 refine wCC Tryz.func23 (hf := fun hb => (by exact FnOK.nrm rfl (bp5))) (hk := ?_)
 refine wGq tK ?_ ?_ (by simp only [go_sem, ZR, b4, ZV]; try exact rfl)
 ·simp [go_sem, ZR, b4, ZV]
 refine wT ?_
 rfl
end La
