/- Texts of this claim, part 30: RWorld, NewS, RNew, RBuild, Turn, Ren, Same, SameLog, RSame, RLaw7. No condition. -/
import Derived.Test.YtfiiingppbkpkaaGreatXS29
import Derived.Test.YtfiiingppbkpkaaGreatXS21
import Derived.Test.YtfiiingppbkpkaaGreatXS11
import Derived.Test.YtfiiingppbkpkaaGreatXS15
import Derived.Test.YtfiiingppbkpkaaGreatXS19
import Derived.Test.YtfiiingppbkpkaaGreatXS27
import Derived.Test.YtfiiingppbkpkaaGreatXS22
import Derived.Test.YtfiiingppbkpkaaGreatXS16
set_option maxRecDepth 10000
set_option maxHeartbeats 4000000
set_option linter.unusedSimpArgs false
set_option linter.unusedVariables false
namespace La
open Go Go.Eng Go.Proofs
def worldA (g : GotW) : AV := .tup [.agg (worRow g.w), .agg (replyRow g.r)]
def csT (t : List Node) (cs : List Cli) (j : Nat) (c : Cli) (i : Nat) : List Cli := ((cs.set j c).take i).map (freshW t)
theorem csT_succ {t : List Node} {cs : List Cli} {j : Nat} {c : Cli} {i : Nat} (h : i < cs.length) : csT t cs j c (i + 1) = csT t cs j c i ++ [freshW t (if i = j then c else cs.getD i default)] := by
 unfold csT
 rw [ZT (show i < (cs.set j c).length by rw [List.length_set]; exact h), List.map_append]
 have : (cs.set j c).getD i default = if i = j then c else cs.getD i default := by
  rw [List.getD_eq_getElem?_getD, List.getElem?_set]
  by_cases e : j = i
  ·subst e
   rw [if_pos rfl, if_pos h, if_pos rfl]; rfl
  ·rw [if_neg e, if_neg (fun h => e h.symm), List.getD_eq_getElem?_getD]
 rw [this]; rfl
theorem csT_len {t : List Node} {cs : List Cli} {j : Nat} {c : Cli} {i : Nat} (h : i ≤ cs.length) : (csT t cs j c i).length = i := by
 unfold csT; rw [List.length_map, List.length_take, List.length_set]; omega
theorem rworld_out {B T : Nat} (w : Wor) (h : WInv B T w) (hB : B ≤ 30000000) (hT : T ≤ 800000000000) (x : Step) (hp : x.path.length ≤ 10000000) (hq : x.toPath.length ≤ 10000000) (hb : x.client < 0 ∨ x.client ≥ w.cs.length) : FnOK Tryz.prog 31 [.agg (worRow w), .agg (ZX x)] [] (fun r _ => r = worldA (worldU w x)) := by
 have h3 := h.len
 have hW : worldU w x = ⟨w, errR 6⟩ := by unfold worldU; rw [if_pos hb]
 rw [hW]
 unfold worRow ZX
 refine ZF tK (Tryz.func31) rfl (fun C => ?_)
 simp only [Tryz.ntmps31, Tryz.results31, go_sem]
 refine wR ?_
 refine wN tK 4 ?_
 refine wR ?_
 refine wN tK 11 ?_
 refine cw_name 22 (by simp only [go_sem]; exact rfl) (fun c22 h22 => ?_)
 simp only [go_sem]
 have hc : c22 = true := by
  rw [← h22]
  by_cases h1 : x.client < 0
  ·simp [h1]
  ·simp [h1]; omega
 clear h22
 refine wG tK ?_
 refine wDT (hb := (hc)) (hk := ?_)
 refine wG tK ?_
 refine cw_le (le_nil0 5) ?_
 simp only [go_sem]
 refine wT ?_
 rfl
theorem rworld_in {B T : Nat} (w : Wor) (h : WInv B T w) (hB : B ≤ 30000000) (hT : T ≤ 800000000000) (x : Step) (hp : x.path.length ≤ 10000000) (hq : x.toPath.length ≤ 10000000) (hb : ¬ (x.client < 0 ∨ x.client ≥ w.cs.length)) : FnOK Tryz.prog 31 [.agg (worRow w), .agg (ZX x)] [] (fun r _ => r = worldA (worldU w x)) := by
 have h3 := h.len
 obtain ⟨k, cl, n, path, toPath, data⟩ := x
 simp only at hb hp hq
 obtain ⟨j, rfl⟩ : ∃ j : Nat, cl = (j : Int) := ⟨cl.toNat, by omega⟩
 have hj : j < w.cs.length := by omega
 have hu := h.at hj
 have hst := rstep_ok (w.cs.getD j default) w.s hu hB hT ⟨k, j, n, path, toPath, data⟩ hp hq
 have hinv := step_inv hu ⟨k, j, n, path, toPath, data⟩
 have hW : worldU w ⟨k, j, n, path, toPath, data⟩ = ⟨⟨(stepU ⟨w.cs.getD j default, w.s⟩ ⟨k, j, n, path, toPath, data⟩).u.s, csT (stepU ⟨w.cs.getD j default, w.s⟩ ⟨k, j, n, path, toPath, data⟩).u.s.tree w.cs j (stepU ⟨w.cs.getD j default, w.s⟩ ⟨k, j, n, path, toPath, data⟩).u.c w.cs.length⟩, (stepU ⟨w.cs.getD j default, w.s⟩ ⟨k, j, n, path, toPath, data⟩).r⟩ := by
  unfold worldU csT
  rw [if_neg hb, show w.cs.length = (w.cs.set j (stepU ⟨w.cs.getD j default, w.s⟩ ⟨k, j, n, path, toPath, data⟩).u.c).length by rw [List.length_set], List.take_length]
  rfl
 have hcx : ∀ i, i < w.cs.length → (w.cs.getD i default).cache.length ≤ 24 := fun i hi => by have := (h.at hi).cli.len; have := (h.at hi).cli.room; simp only at *; omega
 rw [hW]
 have hg0 : (w.cs.map ZC).getD j [] = ZC (w.cs.getD j default) := Fam.getD hj
 generalize w.cs.getD j default = c0 at hst hinv hg0 ⊢
 generalize stepU ⟨c0, w.s⟩ ⟨k, j, n, path, toPath, data⟩ = g at *
 have hcg : g.u.c.cache.length ≤ 24 := by have := hinv.cli.len; have := hinv.cli.room; omega
 have hof := of_rm g.u.s.tree (by have := hinv.srv.hist.good.len; omega)
 have hfr0 := fun l hl => rfreshK_ok l g.u.s.tree hl hinv.srv.hist.good.up
 have hcc : ∀ kk : Cli, kk.cache.length ≤ 24 → kk.cache.length ≤ 90000000 := fun kk hk => by omega
 have hPs := fun i => @csT_succ g.u.s.tree w.cs j g.u.c i
 have hPl := fun i => @csT_len g.u.s.tree w.cs j g.u.c i
 have hP0 : csT g.u.s.tree w.cs j g.u.c 0 = [] := rfl
 generalize csT g.u.s.tree w.cs j g.u.c = P at *
 unfold stepA ZC ZQ ZX replyRow at hst
 unfold worldA worRow ZX replyRow
 refine ZF tK (Tryz.func31) rfl (fun C => ?_)
 simp only [Tryz.ntmps31, Tryz.results31, go_sem]
 refine wR ?_
 refine wN tK 4 ?_
 refine wR ?_
 refine wN tK 11 ?_
 refine cw_name 22 (by simp only [go_sem]; exact rfl) (fun c22 h22 => ?_)
 simp only [go_sem]
 have hc : c22 = false := by
  rw [← h22]
  have h1 : ¬ ((j : Int) < 0) := by omega
  simp [h1]; omega
 clear h22
 refine wG tK ?_
 refine wDF (hb := (hc)) (hk := ?_)
 refine wG tK ?_
 refine ZW ZM ?_
 refine ZS rfl ?_
 refine sNq tK 9 ?_ ?_ (by simp only [go_sem]; exact rfl) (by simp only [go_sem]; exact rfl) (by simp only [go_sem, hg0, ZC]; try exact rfl)
 ·simp [hg0, hj, ZC]
 refine sC Tryz.func51 (hf := (hst)) (hk := ?_)
 refine sN tK 4 ?_
 refine sW tK ?_
 refine sW tK ?_
 refine sW tK ?_
 refine sT tK ?_
 refine sT tK ?_
 refine sT tK ?_
 refine sE ?_
 refine wKd ?_
 try simp only [go_sem, gA, gB, gC]
 refine wG tK ?_
 refine cw_le (le_empty 68 110 10 (by simp only [go_sem]; try exact rfl)) ?_
 simp only [go_sem]
 refine cw_le (le_rows 9 ([[.sl (g.u.s.tree.map ZN), .int .i64 g.u.s.next, .sl (g.u.s.past.map ZP), .osl 68 10 0 0]]) (by simp only [go_sem]; exact rfl) (by simp [leRowsP, leWk, wk])) ?_
 simp only [go_sem]
 refine ZL (fun i : Nat => i ≤ w.cs.length) (fun i => w.cs.length - i) (fun i => [(10, .any), (11, .any), (44, .int .i64 i), (45, .any), (46, .any), (47, .any), (48, .any), (49, .any), (50, .any), (51, .any), (52, .any), (53, .any), (54, .any), (55, .any), (56, .any), (57, .any), (58, .any), (59, .any), (60, .any), (61, .any), (62, .any), (63, .any), (64, .any), (65, .any), (66, .any), (67, .any), (68, .any), (69, .any), (70, .any)])
  (fun i => [(9, .cells 34 4 [[.sl (g.u.s.tree.map ZN), .int .i64 g.u.s.next, .sl (g.u.s.past.map ZP), .osl 68 10 0 (P i).length]]), (68, .cells 110 10 ((P i).map ZC))]) 0 (by omega) ?_ fun i hi => ?_
 ·rw [hP0]
  simp only [go_sem]
  exact ZU (by simp [go_sem]) (by simp [go_sem]) (by simp [go_sem])
 simp only [go_sem]
 refine wG tK ?_
 refine wD (fun h => ?_) (fun h => ?_)
 ·have hlt : i < w.cs.length := by simp at h; omega
  have hg1 : (w.cs.map ZC).getD i [] = ZC (w.cs.getD i default) := Fam.getD hlt
  have how' := wi1 (i := i) (by omega)
  have hs1 := hPs i hlt
  have hl1 := hPl i hi
  have hci := hcx i hlt
  generalize w.cs.getD i default = ci at *
  generalize P i = Q at *
  have htq : List.take Q.length (Q.map ZC) = Q.map ZC := List.take_of_length_le (by simp)
  refine wR ?_
  refine wNq tK 6 ?_ ?_ (by simp only [go_sem]; exact rfl) (by simp only [go_sem]; exact rfl) (by simp only [go_sem, hg1, ZC]; try exact rfl)
  ·simp [hg1, ZC, hlt]
  refine wG tK ?_
  by_cases hij : i = j
  ·rw [if_pos hij] at hs1
   refine wDT (hb := (by simp [hij])) (hk := ?_)
   refine wG tK ?_
   have hin := hcg
   generalize hkv : g.u.c = kk at *
   cases haw : kk.away with
   | true =>
    have hkk : freshW g.u.s.tree kk = kk := by unfold freshW; rw [if_pos haw]
    refine wDF (hb := (by simp [haw])) (hk := ?_)
    refine wR ?_
    refine wN tK 2 ?_
    refine cw_le (le_killB 68 9 (by simp only [go_sem]; exact rfl) (by simp only [go_sem, kill]; exact rfl)) ?_
    refine wGq tK ?_ ?_ (by simp only [go_sem, how']; try exact rfl)
    ·simp [htq, refs]
     omega
    refine ZB ⟨i + 1, by omega, by omega, ZU ?_ ?_ ?_⟩
    ·simp [go_sem]
    ·simp [go_sem, hs1, htq, ZC, hkk, haw]
    ·simp [go_sem]
   | false =>
    have hkk : freshW g.u.s.tree kk = { kk with cache := kk.cache.filter fun k => !staleK g.u.s.tree k } := by unfold freshW freshC; rw [if_neg (by simp [haw])]
    have hfr := hfr0 kk.cache (hcc kk hin)
    refine wDT (hb := (by simp [haw])) (hk := ?_)
    refine wG tK ?_
    refine ZW ZM ?_
    refine ZS rfl ?_
    refine sN tK 4 ?_
    refine sC Tryz.func20 (hf := (hof)) (hk := ?_)
    refine sC Tryz.func52 (hf := (hfr)) (hk := ?_)
    refine sN tK 1 ?_
    refine sT tK ?_
    refine sE ?_
    refine wKd ?_
    try simp only [go_sem, gA, gB, gC]
    refine wR ?_
    refine wN tK 2 ?_
    refine cw_le (le_killB 68 9 (by simp only [go_sem]; exact rfl) (by simp only [go_sem, kill]; exact rfl)) ?_
    refine wGq tK ?_ ?_ (by simp only [go_sem, how']; try exact rfl)
    ·simp [htq, refs]
     omega
    refine ZB ⟨i + 1, by omega, by omega, ZU ?_ ?_ ?_⟩
    ·simp [go_sem]
    ·simp [go_sem, hs1, htq, ZC, hkk, haw]
    ·simp [go_sem]
  ·rw [if_neg hij] at hs1
   refine wDF (hb := (by simp; omega)) (hk := ?_)
   refine wG tK ?_
   have hin := hci
   generalize hkv : ci = kk at *
   cases haw : kk.away with
   | true =>
    have hkk : freshW g.u.s.tree kk = kk := by unfold freshW; rw [if_pos haw]
    refine wDF (hb := (by simp [haw])) (hk := ?_)
    refine wR ?_
    refine wN tK 2 ?_
    refine cw_le (le_killB 68 9 (by simp only [go_sem]; exact rfl) (by simp only [go_sem, kill]; exact rfl)) ?_
    refine wGq tK ?_ ?_ (by simp only [go_sem, how']; try exact rfl)
    ·simp [htq, refs]
     omega
    refine ZB ⟨i + 1, by omega, by omega, ZU ?_ ?_ ?_⟩
    ·simp [go_sem]
    ·simp [go_sem, hs1, htq, ZC, hkk, haw]
    ·simp [go_sem]
   | false =>
    have hkk : freshW g.u.s.tree kk = { kk with cache := kk.cache.filter fun k => !staleK g.u.s.tree k } := by unfold freshW freshC; rw [if_neg (by simp [haw])]
    have hfr := hfr0 kk.cache (hcc kk hin)
    refine wDT (hb := (by simp [haw])) (hk := ?_)
    refine wG tK ?_
    refine ZW ZM ?_
    refine ZS rfl ?_
    refine sN tK 4 ?_
    refine sC Tryz.func20 (hf := (hof)) (hk := ?_)
    refine sC Tryz.func52 (hf := (hfr)) (hk := ?_)
    refine sN tK 1 ?_
    refine sT tK ?_
    refine sE ?_
    refine wKd ?_
    try simp only [go_sem, gA, gB, gC]
    refine wR ?_
    refine wN tK 2 ?_
    refine cw_le (le_killB 68 9 (by simp only [go_sem]; exact rfl) (by simp only [go_sem, kill]; exact rfl)) ?_
    refine wGq tK ?_ ?_ (by simp only [go_sem, how']; try exact rfl)
    ·simp [htq, refs]
     omega
    refine ZB ⟨i + 1, by omega, by omega, ZU ?_ ?_ ?_⟩
    ·simp [go_sem]
    ·simp [go_sem, hs1, htq, ZC, hkk, haw]
    ·simp [go_sem]
 ·have e : i = w.cs.length := by simp at h; omega
  subst e
  have hl1 := hPl w.cs.length (Nat.le_refl _)
  generalize P w.cs.length = Q at *
  have htq : List.take Q.length (Q.map ZC) = Q.map ZC := List.take_of_length_le (by simp)
  refine ZZ 68 rfl (cliRow_pure _) ?_
  simp only [go_sem, htq]
  refine wG tK ?_
  refine ZW ZM ?_
  refine ZS rfl ?_
  refine sN tK 2 ?_
  refine sT tK ?_
  refine sT tK ?_
  refine sE ?_
  refine wKd ?_
  try simp only [go_sem, gA, gB, gC]
  refine wG tK ?_
  refine wT ?_
  rfl
theorem rworld_ok {B T : Nat} (w : Wor) (h : WInv B T w) (hB : B ≤ 30000000) (hT : T ≤ 800000000000) (x : Step) (hp : x.path.length ≤ 10000000) (hq : x.toPath.length ≤ 10000000) : FnOK Tryz.prog 31 [.agg (worRow w), .agg (ZX x)] [] (fun r _ => r = worldA (worldU w x)) := by
 by_cases hb : x.client < 0 ∨ x.client ≥ w.cs.length
 ·exact rworld_out w h hB hT x hp hq hb
 ·exact rworld_in w h hB hT x hp hq hb
theorem newServer_raw : FnOK Tryz.prog 10 [] [] (fun r _ => r = .agg [.sl [[.int .i64 0, .bool true, .nils, .nils, .int .i64 0]], .int .i64 1, .nils]) := by
 refine ZF tK (Tryz.func10) rfl (fun C => ?_)
 simp only [Tryz.ntmps10, Tryz.results10, go_sem]
 refine wG tK ?_
 refine ZZ 2 rfl (rfl) ?_
 simp only [go_sem]
 refine wT ?_
 rfl
theorem newServer_ok : FnOK Tryz.prog 10 [] [] (fun r _ => r = .agg (ZQ ⟨[rootN], 1, []⟩)) := FnOK.nrmR newServer_raw rfl
def zeroW : Wor := ⟨⟨[], 0, []⟩, []⟩
def newWA (rooms : List Int) : AV := .tup [.agg (worRow (if roomsE rooms = 0 then newW rooms else zeroW)), .int .i64 (roomsE rooms)]
theorem newCs_succ (rooms : List Int) (i : Nat) : newCs rooms (i + 1) = newCs rooms i ++ [newC (i : Int) (rooms.getD i 0)] := by
 unfold newCs
 rw [List.range_succ, List.map_append]; rfl
theorem newCs_len (rooms : List Int) (i : Nat) : (newCs rooms i).length = i := by unfold newCs; simp
theorem newWorld_ok (rooms : List Int) (hr : rooms.length ≤ 100000000) : FnOK Tryz.prog 30 [.sl (rooms.map ZI)] [] (fun r _ => r = newWA rooms) := by
 have hns := newServer_ok
 unfold ZQ at hns
 have hsu := newCs_succ rooms
 have hle := newCs_len rooms
 have h0 : newCs rooms 0 = [] := rfl
 have hW : newWA rooms = .tup [.agg (worRow (if roomsE rooms = 0 then ⟨newS, newCs rooms rooms.length⟩ else zeroW)), .int .i64 (roomsE rooms)] := rfl
 have hE : roomsE rooms = if rooms.length < 1 ∨ 3 < rooms.length then 5 else if rooms.all (fun n => decide (3 ≤ n) && decide (n ≤ 24)) then 0 else 3 := rfl
 rw [hW]
 generalize roomsE rooms = E at *
 generalize newCs rooms = P at *
 clear hW
 refine ZF tK (Tryz.func30) rfl (fun C => ?_)
 simp only [Tryz.ntmps30, Tryz.results30, go_sem]
 refine wR ?_
 refine wN tK 2 ?_
 refine wR ?_
 refine wN tK 8 ?_
 refine cw_name 14 (by simp only [go_sem]; exact rfl) (fun c14 h14 => ?_)
 simp only [go_sem]
 have hc : c14 = true ↔ (rooms.length < 1 ∨ 3 < rooms.length) := by
  rw [← h14]
  by_cases h1 : rooms.length < 1
  ·simp [h1]; omega
  ·simp [h1]; omega
 clear h14
 refine wG tK ?_
 by_cases hb : rooms.length < 1 ∨ 3 < rooms.length
 ·rw [if_pos hb] at hE
  subst hE
  refine wDT (hb := (hc.2 hb)) (hk := ?_)
  refine wG tK ?_
  refine cw_le (le_nil0 2) ?_
  simp only [go_sem]
  refine wT ?_
  rfl
 ·rw [if_neg hb] at hE
  refine wDF (hb := (by simpa using fun h0 => hb (hc.1 h0))) (hk := ?_)
  refine wG tK ?_
  refine wC Tryz.func10 (hf := (hns)) (hk := ?_)
  refine wG tK ?_
  refine cw_le (le_empty 38 110 10 (by simp only [go_sem]; try exact rfl)) ?_
  simp only [go_sem]
  refine cw_le (le_rows 4 ([[.sl ([rootN].map ZN), .int .i64 1, .sl [], .osl 38 10 0 0]]) (by simp only [go_sem]; exact rfl) (by simp [leRowsP, leWk, wk])) ?_
  simp only [go_sem]
  refine ZL (fun i : Nat => i ≤ rooms.length ∧ (rooms.take i).all (fun n => decide (3 ≤ n) && decide (n ≤ 24)) = true) (fun i => rooms.length - i) (fun i => [(5, .any), (6, .any), (20, .int .i64 i), (21, .any), (22, .any), (23, .any), (24, .any), (25, .any), (26, .any), (27, .any), (28, .any), (29, .any), (30, .any), (31, .any), (32, .any), (33, .any), (34, .any), (35, .any), (36, .any), (37, .any), (38, .any), (39, .any), (40, .any), (41, .any)])
   (fun i => [(4, .cells 34 4 [[.sl ([rootN].map ZN), .int .i64 1, .sl [], .osl 38 10 0 (P i).length]]), (38, .cells 110 10 ((P i).map ZC))]) 0 ⟨by omega, rfl⟩ ?_ fun i hi => ?_
  ·rw [h0]
   simp only [go_sem]
   exact ZU (by simp [go_sem]) (by simp [go_sem]) (by simp [go_sem])
  obtain ⟨hi, hall⟩ := hi
  simp only [go_sem]
  refine wG tK ?_
  refine wD (fun h => ?_) (fun h => ?_)
  ·have hlt : i < rooms.length := by simp at h; omega
   have hg : (rooms.map ZI).getD i [] = [.int .i64 (rooms.getD i 0)] := by
    rw [List.getD_eq_getElem?_getD, List.getElem?_map, List.getD_eq_getElem?_getD, List.getElem?_eq_getElem hlt]; rfl
   have how' := wi1 (i := i) (by omega)
   have hs1 := hsu i
   have hl1 := hle i
   have htk : rooms.take (i + 1) = rooms.take i ++ [rooms.getD i 0] := by
    rw [List.take_add_one, List.getD_eq_getElem?_getD, List.getElem?_eq_getElem hlt]; rfl
   generalize hn : rooms.getD i 0 = n at *
   generalize P i = Q at *
   have htq : List.take Q.length (Q.map ZC) = Q.map ZC := List.take_of_length_le (by simp)
   refine wR ?_
   refine wNq tK 5 ?_ ?_ (by simp only [go_sem]; exact rfl) (by simp only [go_sem]; exact rfl) (by simp only [go_sem, hg]; try exact rfl)
   ·simp [hg, hlt]
   refine wR ?_
   refine wN tK 6 ?_
   refine cw_name 30 (by simp only [go_sem]; exact rfl) (fun c30 h30 => ?_)
   simp only [go_sem]
   have hc3 : c30 = true ↔ ¬ (3 ≤ n ∧ n ≤ 24) := by
    rw [← h30]
    by_cases h1 : n < 3
    ·simp [h1]; omega
    ·simp [h1]; omega
   clear h30
   refine wG tK ?_
   by_cases hok : 3 ≤ n ∧ n ≤ 24
   ·refine wDF (hb := (by simpa using fun h0 => hc3.1 h0 hok)) (hk := ?_)
    refine wR ?_
    refine wN tK 5 ?_
    refine cw_le (le_nilT 36 (by simp only [go_sem]; exact rfl) (by simp only [go_sem, nil0]; exact rfl)) ?_
    simp only [go_sem]
    refine cw_le (le_killB 38 4 (by simp only [go_sem]; exact rfl) (by simp only [go_sem, kill]; exact rfl)) ?_
    refine wGq tK ?_ ?_ (by simp only [go_sem, how']; try exact rfl)
    ·simp [htq, refs]
     first | exact ⟨by intro row h; simp at h; subst h; rfl, by omega⟩ | omega
    refine ZB ⟨i + 1, ⟨by omega, by rw [htk, List.all_append, hall]; simp [hok]⟩, by omega, ZU ?_ ?_ ?_⟩
    ·simp [go_sem]
    ·simp [go_sem, hs1, htq, ZC, newC]
    ·simp [go_sem]
   ·have hE3 : E = 3 := by
     rw [hE, if_neg]
     simp only [List.all_eq_true, Bool.and_eq_true, decide_eq_true_eq]
     intro hx
     have := hx n (by rw [← hn, List.getD_eq_getElem?_getD, List.getElem?_eq_getElem hlt]; exact List.getElem_mem _)
     exact hok this
    subst hE3
    refine wDT (hb := (hc3.2 hok)) (hk := ?_)
    refine wG tK ?_
    refine cw_le (le_nil0 2) ?_
    simp only [go_sem]
    refine wT ?_
    rfl
  ·have e : i = rooms.length := by simp at h; omega
   subst e
   rw [List.take_length] at hall
   rw [if_pos hall] at hE
   subst hE
   have hl1 := hle rooms.length
   generalize P rooms.length = Q at *
   have htq : List.take Q.length (Q.map ZC) = Q.map ZC := List.take_of_length_le (by simp)
   refine wR ?_
   refine ZZ 38 rfl (cliRow_pure _) ?_
   simp only [go_sem, htq]
   refine wG tK ?_
   refine wT ?_
   rfl
noncomputable def bldW (rooms : List Int) (l : List Step) : Wor := if roomsE rooms = 0 then buildW rooms l else zeroW
noncomputable def bldT (rooms : List Int) (l : List Step) (i : Nat) : Wor := buildW rooms (l.take i)
theorem bldT_succ {rooms : List Int} {l : List Step} {i : Nat} (h : i < l.length) : bldT rooms l (i + 1) = (worldU (bldT rooms l i) (l.getD i default)).w := by
 unfold bldT buildW
 rw [ZT h, List.foldl_append]; rfl
theorem bldT_inv {rooms : List Int} (h : roomsE rooms = 0) (l : List Step) (i : Nat) : WInv (20 * l.length) (300 * l.length) (bldT rooms l i) := by
 have := build_inv h (l.take i)
 rw [List.length_take] at this
 exact ⟨this.srv.mono (by omega), fun c hc => (this.cli c hc).mono (by omega) (by omega), this.len⟩
structure StepsOK (l : List Step) : Prop where
 len : l.length ≤ 1400000
 path : ∀ x, x ∈ l → x.path.length ≤ 10000000 ∧ x.toPath.length ≤ 10000000
theorem rbuild_ok (rooms : List Int) (hr : rooms.length ≤ 100000000) (l : List Step) (hl : StepsOK l) : FnOK Tryz.prog 7 [.sl (rooms.map ZI), .sl (l.map ZX)] [] (fun r _ => r = .agg (worRow (bldW rooms l))) := by
 have hn := newWorld_ok rooms hr
 have hll := hl.len
 unfold newWA at hn
 have hB0 : bldW rooms l = if roomsE rooms = 0 then bldT rooms l l.length else zeroW := by unfold bldW bldT; rw [List.take_length]
 have hinv := fun h i => @bldT_inv rooms h l i
 have hsu := fun i => @bldT_succ rooms l i
 have hz : bldT rooms l 0 = newW rooms := rfl
 rw [hB0]
 generalize bldT rooms l = F at *
 rw [← hz] at hn
 clear hB0 hz
 generalize roomsE rooms = E at *
 generalize hW0 : (if E = 0 then F 0 else zeroW) = W0 at *
 unfold worRow at hn
 refine ZF tK (Tryz.func7) rfl (fun C => ?_)
 simp only [Tryz.ntmps7, Tryz.results7, go_sem]
 refine wG tK ?_
 refine wC Tryz.func30 (hf := (hn)) (hk := ?_)
 refine wG tK ?_
 by_cases hE : E = 0
 ·rw [if_pos hE] at hW0 ⊢
  have hinv := hinv hE
  subst hW0
  refine wDF (hb := (by simp [hE])) (hk := ?_)
  refine wG tK ?_
  refine ZL (fun i : Nat => i ≤ l.length) (fun i => l.length - i) (fun i => [(8, .any), (9, .any), (10, .any), (21, .int .i64 i), (22, .any), (23, .any), (24, .any), (25, .any), (26, .any), (27, .any), (28, .any), (29, .any), (30, .any), (31, .any), (32, .any), (33, .any)])
   (fun i => [(5, .cells 34 4 [worRow (F i)])]) 0 (by omega) ?_ fun i hi => ?_
  ·unfold worRow
   simp only [go_sem]
   exact ZU (by simp [go_sem]) (by simp [go_sem]) (by simp [go_sem])
  unfold worRow
  simp only [go_sem]
  refine wG tK ?_
  refine wD (fun h => ?_) (fun h => ?_)
  ·have hlt : i < l.length := by simp at h; omega
   have hg : (l.map ZX).getD i [] = ZX (l.getD i default) := Fam.getD hlt
   have how' := wi1 (i := i) (by omega)
   have hpx := hl.path (l.getD i default) (by rw [List.getD_eq_getElem?_getD, List.getElem?_eq_getElem hlt]; exact List.getElem_mem _)
   have hw := rworld_ok (F i) (hinv i) (by omega) (by omega) (l.getD i default) hpx.1 hpx.2
   have hs1 := hsu i hlt
   generalize l.getD i default = x at *
   unfold worldA worRow ZX replyRow at hw
   generalize worldU (F i) x = g at *
   refine wR ?_
   refine wNq tK 4 ?_ ?_ (by simp only [go_sem]; exact rfl) (by simp only [go_sem]; exact rfl) (by simp only [go_sem, hg, ZX]; try exact rfl)
   ·simp [hg, ZX, hlt]
   refine wG tK ?_
   refine wC Tryz.func31 (hf := (hw)) (hk := ?_)
   refine wG tK ?_ (by simp only [go_sem, how']; try exact rfl) (by simp [go_sem, how'])
   refine ZB ⟨i + 1, by omega, by omega, ZU ?_ ?_ ?_⟩
   ·simp [go_sem]
   ·simp [go_sem, hs1, worRow]
   ·simp [go_sem]
  ·have e : i = l.length := by simp at h; omega
   subst e
   refine wG tK ?_
   refine wT ?_
   rfl
 ·rw [if_neg hE] at hW0 ⊢
  subst hW0
  refine wDT (hb := (by simp [hE])) (hk := ?_)
  refine wG tK ?_
  refine wT ?_
  rfl
theorem bldW_inv {rooms : List Int} (h : roomsE rooms = 0) (l : List Step) : WInv (20 * l.length) (300 * l.length) (bldW rooms l) := by
 unfold bldW
 rw [if_pos h]
 exact build_inv h l
def tn (f t x : Int) : Int := if x = f then t else x
def turn (a : Act) (f t : Int) : Act := { a with fid := tn f t a.fid, dir := tn f t a.dir, to := tn f t a.to }
theorem sameAct_ok (a b : Act) : FnOK Tryz.prog 45 [.agg (ZA a), .agg (ZA b)] [] (fun r _ => r = .bool (decide (a = b))) := by
 unfold ZA
 refine ZF tK (Tryz.func45) rfl (fun C => ?_)
 simp only [Tryz.ntmps45, Tryz.results45, go_sem]
 refine cw_go tK 5 (by simp only [go_sem]; try exact rfl) (by simp [go_sem]) ?_
 refine wN tK 6 ?_
 generalize h1 : (a.kind == b.kind) = c1
 refine wN tK 1 ?_
 refine wN tK 1 ?_
 refine wN tK 1 ?_
 refine wN tK 1 ?_
 refine wN tK 1 ?_
 refine wN tK 1 ?_
 refine wN tK 1 ?_
 generalize h2 : (bif c1 then a.fid == b.fid else false) = c2
 refine wN tK 1 ?_
 refine wN tK 1 ?_
 refine wN tK 1 ?_
 refine wN tK 1 ?_
 refine wN tK 1 ?_
 refine wN tK 1 ?_
 refine wN tK 1 ?_
 generalize h3 : (bif c2 then a.dir == b.dir else false) = c3
 refine wN tK 1 ?_
 refine wN tK 1 ?_
 refine wN tK 1 ?_
 refine wN tK 1 ?_
 refine wN tK 1 ?_
 refine wN tK 1 ?_
 refine wN tK 1 ?_
 generalize h4 : (bif c3 then a.name == b.name else false) = c4
 refine wN tK 1 ?_
 refine wN tK 1 ?_
 refine wN tK 1 ?_
 refine wN tK 1 ?_
 refine wN tK 1 ?_
 refine wN tK 1 ?_
 refine wN tK 1 ?_
 generalize h5 : (bif c4 then a.to == b.to else false) = c5
 refine wN tK 1 ?_
 refine wN tK 1 ?_
 refine wN tK 1 ?_
 refine wN tK 1 ?_
 refine wN tK 1 ?_
 refine wN tK 1 ?_
 refine wN tK 1 ?_
 generalize h6 : (bif c5 then a.toName == b.toName else false) = c6
 refine wN tK 1 ?_
 refine wN tK 1 ?_
 refine wN tK 1 ?_
 refine wN tK 1 ?_
 refine wN tK 1 ?_
 refine wN tK 1 ?_
 refine wN tK 1 ?_
 refine wN tK 1 ?_
 refine wN tK 1 ?_
 refine wG tK ?_
 refine wT ?_
 subst h6 h5 h4 h3 h2 h1
 obtain ⟨k1, f1, d1, n1, t1, m1, x1⟩ := a
 obtain ⟨k2, f2, d2, n2, t2, m2, x2⟩ := b
 congr 1
 rw [Bool.eq_iff_iff]
 simp only [Bool.cond_eq_ite]
 simp [and_assoc]
theorem sameVerdicts_self (l : List Verdict) (hl : l.length ≤ 100000000) : FnOK Tryz.prog 17 [.sl (l.map ZV), .sl (l.map ZV)] [] (fun r _ => r = .bool true) := by
 refine ZF tK (Tryz.func17) rfl (fun C => ?_)
 simp only [Tryz.ntmps17, Tryz.results17, go_sem]
 refine wG tK ?_
 refine wDF (hb := (by simp)) (hk := ?_)
 refine wG tK ?_
 refine ZL (fun i : Nat => i ≤ l.length) (fun i => l.length - i) (fun i => [(13, .int .i64 i), (5, .any), (14, .any), (15, .any), (16, .any), (17, .any), (18, .any), (19, .any), (20, .any), (21, .any), (22, .any), (23, .any), (24, .any), (25, .any)]) (fun _ => []) 0 (by omega) ?_ fun i hi => ?_
 ·simp only [go_sem]
  exact ZU (by simp [go_sem]) (by simp [go_sem]) (by simp only [go_sem])
 simp only [go_sem]
 refine wG tK ?_
 refine wD (fun h => ?_) (fun h => ?_)
 ·have hlt : i < l.length := by simp at h; omega
  have hg : (l.map ZV).getD i [] = ZV (l.getD i default) := Fam.getD hlt
  have hw := wi1 (i := i) (by omega)
  generalize l.getD i default = x at hg
  refine wG tK ?_
  refine ZW ZM ?_
  refine ZS rfl ?_
  refine sNq tK 8 ?_ ?_ (by simp only [go_sem]; exact rfl) (by simp only [go_sem]; exact rfl) (by simp only [go_sem, hg, ZV]; try exact rfl)
  ·simp [hg, ZV, hlt]
  refine sE ?_
  refine draw_trip rfl (by kernel_rfl) rfl (trip_eqS tK rfl (tys := [38, 3]) (by kernel_rfl) (by simp only [go_sem]; try exact rfl) (by simp only [go_sem]; try exact rfl) (by simp only [go_sem]; exact rfl) (by first | exact .inl ⟨rfl, rfl⟩ | exact .inr ⟨rfl, rfl⟩)) rfl ?_
  refine wKd ?_
  simp only [go_sem]
  refine wG tK ?_
  refine wDF (hb := (by simp)) (hk := ?_)
  refine wG tK ?_ (by simp only [go_sem, hw]; try exact rfl) (by simp [go_sem, hw])
  refine ZB ⟨i + 1, by omega, by omega, ZU ?_ ?_ ?_⟩
  ·simp [go_sem]; exact hw
  ·simp [go_sem]
  ·simp [go_sem]
 ·refine wG tK ?_
  refine wT ?_
  rfl
theorem samePast_self (l : List Past) (hl : l.length ≤ 100000000) : FnOK Tryz.prog 32 [.sl (l.map ZP), .sl (l.map ZP)] [] (fun r _ => r = .bool true) := by
 refine ZF tK (Tryz.func32) rfl (fun C => ?_)
 simp only [Tryz.ntmps32, Tryz.results32, go_sem]
 refine wG tK ?_
 refine wDF (hb := (by simp)) (hk := ?_)
 refine wG tK ?_
 refine ZL (fun i : Nat => i ≤ l.length) (fun i => l.length - i) (fun i => [(13, .int .i64 i), (5, .any), (14, .any), (15, .any), (16, .any), (17, .any), (18, .any), (19, .any), (20, .any), (21, .any), (22, .any), (23, .any), (24, .any), (25, .any), (26, .any), (27, .any), (28, .any), (29, .any), (30, .any), (31, .any), (32, .any), (33, .any), (34, .any), (35, .any), (36, .any), (37, .any), (38, .any), (39, .any), (40, .any), (41, .any)]) (fun _ => []) 0 (by omega) ?_ fun i hi => ?_
 ·simp only [go_sem]
  exact ZU (by simp [go_sem]) (by simp [go_sem]) (by simp only [go_sem])
 simp only [go_sem]
 refine wG tK ?_
 refine wD (fun h => ?_) (fun h => ?_)
 ·have hlt : i < l.length := by simp at h; omega
  have hg : (l.map ZP).getD i [] = ZP (l.getD i default) := Fam.getD hlt
  have hw := wi1 (i := i) (by omega)
  generalize l.getD i default = x at hg
  have hsa := sameAct_ok x.act x.act
  rw [decide_eq_true (rfl : x.act = x.act)] at hsa
  unfold ZA at hsa
  refine wG tK ?_
  refine ZW ZM ?_
  refine ZS rfl ?_
  refine sNq tK 12 ?_ ?_ (by simp only [go_sem]; exact rfl) (by simp only [go_sem]; exact rfl) (by simp only [go_sem, hg, ZP]; try exact rfl)
  ·simp [hg, ZP, hlt]
  refine sNq tK 10 ?_ ?_ (by simp only [go_sem]; exact rfl) (by simp only [go_sem]; exact rfl) (by simp only [go_sem, hg, ZP]; try exact rfl)
  ·simp [hg, ZP, hlt]
  refine sCC Tryz.func45 (hf := fun hb => (hsa)) (hk := ?_)
  refine sN tK 2 ?_
  refine sE ?_
  refine wKd ?_
  refine wG tK ?_
  refine wDF (hb := (by simp)) (hk := ?_)
  refine wG tK ?_ (by simp only [go_sem, hw]; try exact rfl) (by simp [go_sem, hw])
  refine ZB ⟨i + 1, by omega, by omega, ZU ?_ ?_ ?_⟩
  ·simp [go_sem]
  ·simp [go_sem]
  ·simp [go_sem]
 ·refine wG tK ?_
  refine wT ?_
  rfl
theorem sameServer_self (s : Srv) (ht : Small s.tree) (hp : s.past.length ≤ 100000000) : FnOK Tryz.prog 8 [.agg (ZQ s), .agg (ZQ s)] [] (fun r _ => r = .bool true) := by
 have h1 := same_self s.tree ht
 have h2 := samePast_self s.past hp
 unfold ZQ
 refine ZF tK (Tryz.func8) rfl (fun C => ?_)
 simp only [Tryz.ntmps8, Tryz.results8, go_sem]
 refine wR ?_
 refine wN tK 3 ?_
 refine wR ?_
 refine wN tK 6 ?_
 refine cw_name 10 (by simp only [go_sem]; exact rfl) (fun c10 h10 => ?_)
 simp only [go_sem]
 have hc : c10 = true := by rw [← h10]; simp
 subst hc
 clear h10
 refine wN tK 4 ?_
 refine wCC Tryz.func19 (hf := fun hb => (h1)) (hk := ?_)
 refine wN tK 2 ?_
 refine cw_name 17 (by simp only [go_sem]; exact rfl) (fun c17 h17 => ?_)
 simp only [go_sem]
 have hc : c17 = true := by rw [← h17]; rfl
 subst hc
 clear h17
 refine wN tK 4 ?_
 refine wCC Tryz.func32 (hf := fun hb => (h2)) (hk := ?_)
 refine wG tK ?_
 refine wT ?_
 rfl
theorem SrvOK.pastS {k : Nat} {s : Srv} (h : SrvOK k s) (hk : k ≤ 80000000) : SmallP s.past := ⟨by have := h.len; omega, fun p hp => by
 obtain ⟨st, _, _, h3⟩ := h.hist.st
 obtain ⟨i, hi⟩ := List.getElem?_of_mem hp
 have hil := (List.getElem?_eq_some_iff.1 hi).1
 have := (h3 i hil).2.1.data
 rwa [show s.past.getD i default = p by rw [List.getD_eq_getElem?_getD, hi]; rfl] at this⟩
theorem replayH_ok {p : List Past} {t : List Node} (h : Hist p t) (hlen : p.length ≤ 90000000) : FnOK Tryz.prog 18 [.sl (p.map ZP)] [] (fun r _ => r = .tup [.sl (t.map ZN), .int .i64 0]) := by
 obtain ⟨st, h0, h1, h2⟩ := h.st
 rw [← h1]
 exact replay_ok p st hlen h0 h2
noncomputable def doX (s : Srv) (c : Int) (a : Act) : Srv := if doE s a = 0 then doS s c a else ⟨[], 0, []⟩
theorem rdoX (s : Srv) (c : Int) (a : Act) : rdoR s c a = .tup [.agg (ZQ (doX s c a)), .int .i64 (doE s a)] := by
 unfold rdoR doX
 by_cases h : doE s a = 0
 ·rw [if_pos h, if_pos h, h]
 ·rw [if_neg h, if_neg h]; rfl
theorem sdoX_ok {k : Nat} (s : Srv) (h : SrvOK k s) (hk : k ≤ 80000000) (c : Int) (a : Act) (ha : ActFit a) : FnOK Tryz.prog 11 [.agg (ZQ s), .int .i64 c, .agg (ZA a)] [] (fun r _ => r = .tup [.agg (ZQ (doX s c a)), .int .i64 (doE s a)]) := by
 have h0 := do_raw s c a h.hist.good (h.pastS hk) ha (by have := h.next; omega)
 unfold doR at h0
 unfold doX
 by_cases e : doE s a = 0
 ·rw [if_pos e] at h0
  rw [if_pos e, e]
  exact h0
 ·rw [if_neg e] at h0
  rw [if_neg e]
  exact FnOK.nrmR h0 (by simp [Eng.nrm, Eng.nrmL, ZQ])
theorem doX_small {k : Nat} {s : Srv} (h : SrvOK k s) (hk : k ≤ 80000000) (c : Int) {a : Act} (ha : ActFit a) : Small (doX s c a).tree ∧ (doX s c a).past.length ≤ 90000000 := by
 unfold doX
 split
 ·rename_i he
  have h2 := h.step c ha he
  exact ⟨h2.hist.good.small, by have := h2.len; omega⟩
 ·exact ⟨⟨by simp, fun n hn => by cases hn⟩, by simp⟩
theorem bldW_no {rooms : List Int} (h : roomsE rooms ≠ 0) (l : List Step) : bldW rooms l = zeroW := by unfold bldW; rw [if_neg h]
theorem Hist.ne {p : List Past} {t : List Node} (h : Hist p t) : 0 < t.length := by
 obtain ⟨n, hn, _⟩ := h.whole.root
 exact List.length_pos_of_mem hn
theorem srvTells_no (rooms : List Int) (hr : rooms.length ≤ 100000000) (l : List Step) (hl : StepsOK l) (c : Int) (a : Act) (log : List Rec) (hE : roomsE rooms ≠ 0) :
  FnOK Tryz.prog 3 [.sl (rooms.map ZI), .sl (l.map ZX), .int .i64 c, .agg (ZA a), .sl (log.map ZR)] [] (fun r _ => r = .bool true) := by
 have hb := rbuild_ok rooms hr l hl
 rw [bldW_no hE] at hb
 have h1 := snew_ok
 have h2 := newServer_ok
 have h3 := sameServer_self ⟨[rootN], 1, []⟩ SrvOK.new.hist.good.small (by simp)
 unfold worRow at hb
 unfold ZA
 refine ZF tK (Tryz.func3) rfl (fun C => ?_)
 simp only [Tryz.ntmps3, Tryz.results3, go_sem]
 refine wG tK ?_
 refine wC Tryz.func7 (hf := (hb)) (hk := ?_)
 refine wG tK ?_
 refine wDT (hb := (rfl)) (hk := ?_)
 refine wG tK ?_
 refine wC Tryz.func9 (hf := (h1)) (hk := ?_)
 refine wC Tryz.func10 (hf := (h2)) (hk := ?_)
 refine wC Tryz.func8 (hf := (h3)) (hk := ?_)
 refine wG tK ?_
 refine wT ?_
 rfl
theorem srvTells_yes (rooms : List Int) (hr : rooms.length ≤ 100000000) (l : List Step) (hl : StepsOK l) (c : Int) (a : Act) (ha : ActFit a) (log : List Rec) (hlog : SmallL log) (hl2 : log.length ≤ 2000000) (hfit : ∀ r, r ∈ log → ActFit r.act) (hE : roomsE rooms = 0) :
  FnOK Tryz.prog 3 [.sl (rooms.map ZI), .sl (l.map ZX), .int .i64 c, .agg (ZA a), .sl (log.map ZR)] [] (fun r _ => r = .bool true) := by
 have hb := rbuild_ok rooms hr l hl
 have hs := (bldW_inv hE l).srv
 have hll := hl.len
 generalize bldW rooms l = W at *
 have hs := hs.mono (show 20 * l.length ≤ 40000000 by omega)
 have hx := doX_small hs (by omega) c ha
 have hd1 := sdoX_ok W.s hs (by omega) c a ha
 have hd2 := rdo_ok W.s hs (by omega) c a ha
 rw [rdoX] at hd2
 have ht1 := take_ok W.s hs c log hlog hl2 hfit
 have ht2 := rtake_ok W.s hs (by omega) c log hl2 hfit
 have hs2 := hs.take c hfit
 have hvl : (judgeJ W.s.tree W.s.next ((W.s.past.length + 1 : Nat) : Int) log).vs.length = log.length := (JInv.judge hs.hist c W.s.next log hfit).vlen
 have hv := sameVerdicts_self (judgeJ W.s.tree W.s.next ((W.s.past.length + 1 : Nat) : Int) log).vs (by omega)
 have hss1 := sameServer_self (doX W.s c a) hx.1 (by omega)
 have hss2 := sameServer_self W.s hs.hist.good.small (by have := hs.len; omega)
 have hss3 := sameServer_self (takeS W.s c log) hs2.hist.good.small (by have := hs2.len; omega)
 have hso := sown_ok W.s hs.hist.good.small (hs.pastS (by omega))
 have hve := version_ok W.s (by have := hs.len; omega)
 have hrp := replayH_ok hs2.hist (by have := hs2.len; omega)
 have hsm := same_self (takeS W.s c log).tree hs2.hist.good.small
 have hne := hs.hist.ne
 have hpl := hs.len
 have hwp : IntKind.i64.wrap ((W.s.past.length : Int) + 1) = ((W.s.past.length + 1 : Nat) : Int) := by rw [Eng.wrap_small (by omega) (by omega)]; rfl
 generalize takeS W.s c log = S2 at *
 generalize (judgeJ W.s.tree W.s.next ((W.s.past.length + 1 : Nat) : Int) log).vs = vs at *
 generalize doX W.s c a = X at *
 generalize doE W.s a = e at *
 unfold worRow at hb
 unfold ZA at hd1 hd2
 unfold ZQ at hd1 hd2 ht1 ht2 hss1 hss2 hss3 hso hve
 unfold ZA
 refine ZF tK (Tryz.func3) rfl (fun C => ?_)
 simp only [Tryz.ntmps3, Tryz.results3, go_sem]
 refine wG tK ?_
 refine wC Tryz.func7 (hf := (hb)) (hk := ?_)
 refine wG tK ?_
 refine wDF (hb := (by simp; exact fun h0 => by rw [h0] at hne; exact absurd hne (by simp))) (hk := ?_)
 refine wG tK ?_
 refine wC Tryz.func11 (hf := (hd1)) (hk := ?_)
 refine wG tK ?_
 refine wC Tryz.func12 (hf := (hd2)) (hk := ?_)
 refine wG tK ?_
 refine ZW ZM ?_
 refine ZS rfl ?_
 refine sN tK 4 ?_
 refine seg_name 47 (by simp only [go_sem]; exact rfl) (fun c47 h47 => ?_)
 simp only [go_sem]
 have hc : c47 = false := by rw [← h47]; simp
 subst hc
 clear h47
 refine sN tK 2 ?_
 refine sCC Tryz.func8 (hf := fun hb => (hss1)) (hk := ?_)
 refine sN tK 3 ?_
 refine sN tK 1 ?_
 refine sCC Tryz.func13 (hf := fun hb => (hso)) (hk := ?_)
 refine sN tK 1 ?_
 refine sCC Tryz.func8 (hf := fun hb => (hss2)) (hk := ?_)
 refine sN tK 3 ?_
 refine sN tK 1 ?_
 refine sCC Tryz.func14 (hf := fun hb => (hve)) (hk := ?_)
 refine sN tK 6 ?_ (by simp only [go_sem]; exact rfl) (by simp only [go_sem]; exact rfl) (by simp only [go_sem, hwp]; try exact rfl) (by simp [go_sem, hwp])
 refine sE ?_
 refine wKd ?_
 refine wG tK ?_
 refine wDF (hb := (by simp)) (hk := ?_)
 refine wG tK ?_
 refine wC Tryz.func15 (hf := (ht1)) (hk := ?_)
 refine wG tK ?_
 refine wC Tryz.func16 (hf := (ht2)) (hk := ?_)
 refine wG tK ?_
 refine wC Tryz.func8 (hf := (hss3)) (hk := ?_)
 refine wG tK ?_
 refine wCC Tryz.func17 (hf := fun hb => (hv)) (hk := ?_)
 refine wG tK ?_
 refine wDF (hb := (by simp)) (hk := ?_)
 refine wG tK ?_
 refine wC Tryz.func18 (hf := (hrp)) (hk := ?_)
 refine wG tK ?_
 refine wCC Tryz.func19 (hf := fun hb => (hsm)) (hk := ?_)
 refine wG tK ?_
 refine wT ?_
 rfl
theorem srvTells_ok (rooms : List Int) (l : List Step) (c : Int) (a : Act) (log : List Rec) (hr : rooms.length ≤ 100000000) (hl : StepsOK l) (ha : ActFit a) (hlog : SmallL log) (hl2 : log.length ≤ 2000000) (hfit : ∀ r, r ∈ log → ActFit r.act) :
  FnOK Tryz.prog 3 [.sl (rooms.map ZI), .sl (l.map ZX), .int .i64 c, .agg (ZA a), .sl (log.map ZR)] [] (fun r _ => r = .bool true) := by
 by_cases hE : roomsE rooms = 0
 ·exact srvTells_yes rooms hr l hl c a ha log hlog hl2 hfit hE
 ·exact srvTells_no rooms hr l hl c a log hE
end La
