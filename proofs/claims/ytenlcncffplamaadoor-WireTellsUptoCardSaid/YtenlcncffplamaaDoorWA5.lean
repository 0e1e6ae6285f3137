/- The law WireTells is true of the program: its card WireTellsUptoCardSaid. No condition. -/
import Derived.Test.YtenlcncffplamaaDoorWA4
namespace La
open Go Go.Eng Go.Proofs
set_option maxRecDepth 10000
set_option linter.unusedSimpArgs false
set_option linter.unusedVariables false

def kRow (k : Int) : List AV := [.int .i64 k, .int .i64 0, .int .i64 0, .str [], .int .i64 0, .str [], .nils, .int .i64 0, .int .i64 0]
def formW (k : Int) : List UInt8 := if k = 3 then [110, 110, 110, 98] else if k = 5 then [110, 110, 110, 110, 97, 110, 97] else [110, 110, 110, 110, 97]
def rowN (k : Int) (w1 w2 w3 w4 w5 w6 w7 : List UInt8) (i : Nat) : List AV := [.int .i64 k, .int .i64 (if 3 ≤ i then numV w3 else 0), .int .i64 (if 4 ≤ i then numV w4 else 0), .str (if 5 ≤ i then w5 else []), .int .i64 (if 6 ≤ i then numV w6 else 0), .str (if 7 ≤ i then w7 else []), .nils, .int .i64 (if 2 ≤ i then numV w2 else 0), .int .i64 (if 1 ≤ i then numV w1 else 0)]
def rowS (w1 w2 w3 : List UInt8) (i n : Nat) : List AV := [.int .i64 3, .int .i64 (if 3 ≤ i then numV w3 else 0), .int .i64 0, .str [], .int .i64 0, .str [], .osl 124 1 0 n, .int .i64 (if 2 ≤ i then numV w2 else 0), .int .i64 (if 1 ≤ i then numV w1 else 0)]
def nn3 (i : Nat) : Nat := if 4 ≤ i then 3 else i
def datI (w4 : List UInt8) (i : Nat) : List UInt8 := if 4 ≤ i then (unhexR w4).1 else []
def nnI (i : Nat) : Nat := if 6 ≤ i then 5 else if 5 ≤ i then 4 else i
def ntI (i : Nat) : Nat := if 7 ≤ i then 2 else if 5 ≤ i then 1 else 0
def nmI (w5 w7 : List UInt8) (i : Nat) : Bool := if 7 ≤ i then nameB w5 && nameB w7 else if 5 ≤ i then nameB w5 else true

theorem wr_small : IntKind.i64.wrap 1 = 1 ∧ IntKind.i64.wrap 2 = 2 ∧ IntKind.i64.wrap 3 = 3 ∧ IntKind.i64.wrap 4 = 4 ∧ IntKind.i64.wrap 5 = 5 ∧ IntKind.i64.wrap 6 = 6 ∧ IntKind.i64.wrap 7 = 7 := by decide
theorem pl_kind {L : List (List UInt8)} (h : kindW (L.getD 0 []) = 0) : parseL L = (zeroRec, 1) := by
  unfold parseL; simp only; rw [if_pos h]
theorem pl_len {L : List (List UInt8)} {k : Int} (hk : kindW (L.getD 0 []) = k) (h0 : ¬ k = 0) (hl : L.length ≠ (if k = 3 then 5 else if k = 5 then 8 else 6)) : parseL L = (zeroRec, 2) := by
  unfold parseL; simp only; rw [hk, if_neg h0, if_pos hl]
theorem pl_six {v0 w1 w2 w3 w4 w5 : List UInt8} {k : Int} (hk : kindW v0 = k) (h0 : ¬ k = 0) (h3 : ¬ k = 3) (h5 : ¬ k = 5) :
    parseL [v0, w1, w2, w3, w4, w5] = if numB w1 = true ∧ numB w2 = true ∧ numB w3 = true ∧ numB w4 = true then (if nameB w5 = true then (⟨⟨k, numV w3, numV w4, w5, 0, [], []⟩, numV w2, numV w1⟩, 0) else (zeroRec, 7)) else (zeroRec, 2) := by
  unfold parseL
  simp only [List.getD_cons_zero, List.getD_cons_succ, hk]
  rw [if_neg h0, if_neg (by simp [h3, h5]), if_neg h3]
  cases e1 : numB w1 <;> cases e2 : numB w2 <;> cases e3 : numB w3 <;> cases e4 : numB w4 <;> cases e5 : nameB w5 <;> simp [nums3, e1, e2, e3, h5, recOf, h3]
theorem pl_eight {v0 w1 w2 w3 w4 w5 w6 w7 : List UInt8} (hk : kindW v0 = 5) :
    parseL [v0, w1, w2, w3, w4, w5, w6, w7] = if numB w1 = true ∧ numB w2 = true ∧ numB w3 = true ∧ numB w4 = true ∧ numB w6 = true then (if nameB w5 = true ∧ nameB w7 = true then (⟨⟨5, numV w3, numV w4, w5, numV w6, w7, []⟩, numV w2, numV w1⟩, 0) else (zeroRec, 7)) else (zeroRec, 2) := by
  unfold parseL
  simp only [List.getD_cons_zero, List.getD_cons_succ, hk]
  rw [if_neg (by decide), if_neg (by simp), if_neg (by decide)]
  cases e1 : numB w1 <;> cases e2 : numB w2 <;> cases e3 : numB w3 <;> cases e4 : numB w4 <;> cases e6 : numB w6 <;> cases e5 : nameB w5 <;> cases e7 : nameB w7 <;> simp [nums3, e1, e2, e3, recOf]
theorem pl_five {v0 w1 w2 w3 w4 : List UInt8} (hk : kindW v0 = 3) :
    parseL [v0, w1, w2, w3, w4] = if numB w1 = true ∧ numB w2 = true ∧ numB w3 = true ∧ (unhexR w4).2 = true then (⟨⟨3, numV w3, 0, [], 0, [], (unhexR w4).1⟩, numV w2, numV w1⟩, 0) else (zeroRec, 2) := by
  unfold parseL
  simp only [List.getD_cons_zero, List.getD_cons_succ, hk]
  rw [if_neg (by decide), if_neg (by simp), if_pos trivial]
  cases e1 : numB w1 <;> cases e2 : numB w2 <;> cases e3 : numB w3 <;> cases e4 : (unhexR w4).2 <;> simp [nums3, e1, e2, e3, recOf]



set_option maxHeartbeats 8000000 in
theorem rline_raw (s : List UInt8) (hs : s.length ≤ 10000000) : FnOK Tryd.prog 19 [.str s] [] (fun r _ => Eng.nrm r = parseA (parseR s)) := by
  unfold parseR
  have hcl := cutL_le 32 s
  have hcp := cutL_part 32 s
  have hne := cutL_ne 32 s
  refine fn_of_cwW tabOK (Go.Proofs.Tryd.func19) rfl (fun C => ?_)
  simp only [Go.Proofs.Tryd.ntmps19, Go.Proofs.Tryd.results19, go_sem]
  refine cw_goR 99 (by simp only [go_sem]; try exact rfl) ?_
  refine cw_runN tabOK 2 (by simp only [go_sem]; exact rfl) (by simp only [go_sem]; exact rfl) (by simp only [go_sem]; try exact rfl) (by simp [go_sem]) ?_
  refine cw_goR 99 (by simp only [go_sem]; try exact rfl) ?_
  refine cw_runN tabOK 1 (by simp only [go_sem]; exact rfl) (by simp only [go_sem]; exact rfl) (by simp only [go_sem]; try exact rfl) (by simp [go_sem]) ?_
  refine cw_call rfl rfl (by simp only [go_sem]; try exact rfl) (by simp [go_sem]) ⟨_, Go.Proofs.Tryd.func25, by kernel_rfl, rfl⟩ (by simp [go_sem]) (cut_ok s 32 (by omega)) (by simp [go_sem]) (by simp only [go_sem]; exact rfl) ?_
  generalize cutL 32 s = L at hcl hcp hne
  generalize hPL : parseL L = P
  refine cw_go tabOK 99 (by simp only [go_sem]; try exact rfl) (by simp [go_sem]) ?_
  refine cw_call rfl rfl (by simp only [go_sem]; try exact rfl) (by simp [go_sem]) ⟨_, Go.Proofs.Tryd.func31, by kernel_rfl, rfl⟩ (by simp [go_sem]) (rkinds_ok) (by simp [go_sem]) (by simp only [go_sem]; exact rfl) ?_
  refine cw_go tabOK 99 (by simp only [go_sem]; try exact rfl) (by simp [go_sem]) ?_
  have hL0 : 0 < L.length := List.length_pos_iff.2 hne
  have hg0 : (L.map strRow).getD 0 [] = strRow (L.getD 0 []) := Fam.getD hL0
  have hk0 : kindI (L.getD 0 []) 0 = 0 := by
    have := kindW_le (L.getD 0 [])
    unfold kindI; split <;> omega
  have hkr := kindW_le (L.getD 0 [])
  rw [words_len]
  generalize hw0 : L.getD 0 [] = w0 at hg0 hk0 hkr
  refine cw_loopS (fun i : Nat => i ≤ 5) (fun i => 5 - i) (fun i => [(6, .any), (7, .any), (24, .int .i64 i), (25, .any), (26, .any), (27, .any), (28, .any), (29, .any), (30, .any), (31, .any), (32, .any), (33, .any), (34, .any), (35, .any), (36, .any), (37, .any), (38, .any)]) (fun i => [(5, .cells 36 9 [kRow (kindI w0 i)])]) 0 (by omega) ?_ fun i hi => ?_
  · simp only [go_sem]
    exact le_sub (by simp [go_sem]) (by simp [go_sem, hk0, kRow]) (by simp [go_sem, kRow])
  simp only [go_sem, kRow]
  refine cw_go tabOK 99 (by simp only [go_sem]; try exact rfl) (by simp [go_sem]) ?_
  refine cw_cond (by simp only [go_sem]; try exact rfl) trivial (fun h => ?_) (fun h => ?_)
  · have hlt : i < 5 := by simp at h; omega
    have hw : IntKind.i64.wrap ((i : Int) + 1) = ((i + 1 : Nat) : Int) := by rw [Eng.wrap_small (by omega) (by omega)]; rfl
    have hgi : (La.words.map strRow).getD i [] = strRow (La.words.getD i []) := Fam.getD hlt
    have hst := kind_step w0 i hlt
    have hnx : kindI w0 (i + 1) = if kindW w0 = (i : Int) + 1 then (i : Int) + 1 else kindI w0 i := by
      unfold kindI
      split <;> split <;> (try split) <;> omega
    generalize La.words.getD i [] = x at hgi hst
    refine cw_go tabOK 99 (by simp only [go_sem, hgi, hg0, strRow]; try exact rfl) ?_ ?_
    · simp [hgi, hg0, strRow, hlt, hL0, words_len]
    refine cw_cond (by simp only [go_sem]; try exact rfl) trivial (fun h => ?_) (fun h => ?_)
    · have hx : kindW w0 = (i : Int) + 1 := by rw [hst] at h; exact of_decide_eq_true h
      rw [if_pos hx] at hnx
      refine cw_go tabOK 99 (by simp only [go_sem, hw]; try exact rfl) (by simp [go_sem, hw]) ?_
      refine cw_back ⟨i + 1, by omega, by omega, le_sub ?_ ?_ ?_⟩
      · simp [go_sem, hnx]
      · simp [go_sem, hnx, kRow]
      · simp [go_sem]
    · have hx : ¬ kindW w0 = (i : Int) + 1 := by rw [hst] at h; exact of_decide_eq_false h
      rw [if_neg hx] at hnx
      refine cw_go tabOK 99 (by simp only [go_sem, hw]; try exact rfl) (by simp [go_sem, hw]) ?_
      refine cw_back ⟨i + 1, by omega, by omega, le_sub ?_ ?_ ?_⟩
      · simp [go_sem, hnx]
      · simp [go_sem, hnx, kRow]
      · simp [go_sem]
  have e : i = 5 := by simp at h; omega
  subst e
  have hk5 : kindI w0 5 = kindW w0 := by unfold kindI; rw [if_pos (by omega)]
  rw [hk5]
  clear hk0 hk5
  generalize hkk : kindW w0 = k at hkr
  refine cw_go tabOK 99 (by simp only [go_sem]; try exact rfl) (by simp [go_sem]) ?_
  refine cw_cond (by simp only [go_sem]; try exact rfl) trivial (fun h => ?_) (fun h => ?_)
  · have h0 : k = 0 := by simpa using h
    rw [← hPL, pl_kind (by rw [hw0, hkk, h0])]
    refine cw_go tabOK 99 (by simp only [go_sem]; try exact rfl) (by simp [go_sem]) ?_
    refine cw_ret ⟨_, _, by simp only [go_sem]; try exact rfl, by simp [go_sem], _, .inr (.inl rfl), ?_⟩
    rfl
  have h0 : ¬ k = 0 := by simpa using h
  have hmap : (mget (mput (mput (mput (mput (mput [] 1 (AV.str [110, 110, 110, 110, 97])) 2 (AV.str [110, 110, 110, 110, 97])) 3 (AV.str [110, 110, 110, 98])) 4 (AV.str [110, 110, 110, 110, 97])) 5 (AV.str [110, 110, 110, 110, 97, 110, 97])) k).getD (AV.str []) = .str (formW k) := by
    rcases (show k = 1 ∨ k = 2 ∨ k = 3 ∨ k = 4 ∨ k = 5 by omega) with rfl | rfl | rfl | rfl | rfl <;> rfl
  have hw1 : IntKind.i64.wrap ((L.length : Int) - 1) = ((L.length - 1 : Nat) : Int) := by rw [Eng.wrap_small (by omega) (by omega)]; omega
  have hlen : ((((L.length - 1 : Nat) : Int)) != ((formW k).length : Int)) = decide (L.length ≠ (if k = 3 then 5 else if k = 5 then 8 else 6)) := by
    rw [Bool.eq_iff_iff]
    simp only [bne_iff_ne, ne_eq, decide_eq_true_eq]
    unfold formW
    split
    · simp; omega
    · split
      · simp; omega
      · simp; omega
  refine cw_go tabOK 99 (by simp only [go_sem, hmap, cond_false, hw1]; try exact rfl) (by simp [go_sem, hmap, cond_false, hw1]) ?_
  refine cw_cond (by simp only [go_sem]; try exact rfl) trivial (fun h => ?_) (fun h => ?_)
  · have hl : L.length ≠ (if k = 3 then 5 else if k = 5 then 8 else 6) := by rw [hlen] at h; exact of_decide_eq_true h
    rw [← hPL, pl_len (by rw [hw0, hkk]) h0 hl]
    refine cw_go tabOK 99 (by simp only [go_sem]; try exact rfl) (by simp [go_sem]) ?_
    refine cw_ret ⟨_, _, by simp only [go_sem]; try exact rfl, by simp [go_sem], _, .inr (.inl rfl), ?_⟩
    rfl
  have hl : ¬ L.length ≠ (if k = 3 then 5 else if k = 5 then 8 else 6) := by rw [hlen] at h; exact of_decide_eq_false h
  have hl := Decidable.of_not_not hl
  clear hlen hmap h
  by_cases h3 : k = 3
  · subst h3
    simp only [if_true] at hl
    obtain ⟨v0, w1, w2, w3, w4, rfl⟩ : ∃ v0 w1 w2 w3 w4, L = [v0, w1, w2, w3, w4] := by
      match L, hl with
      | [a, b, c, d, e], _ => exact ⟨a, b, c, d, e, rfl⟩
    have m1 := hcp w1 (by simp)
    have m2 := hcp w2 (by simp)
    have m3 := hcp w3 (by simp)
    have m4 := hcp w4 (by simp)
    have hfm : formW 3 = [110, 110, 110, 98] := rfl
    rw [pl_five (by rw [← hkk, ← hw0]; rfl)] at hPL
    rw [hfm]
    clear hfm hne hcl hcp hw0 hg0 hw1 hL0 hl
    simp only [List.map_cons, List.map_nil, strRow]
    refine cw_go tabOK 99 (by simp only [go_sem]; try exact rfl) (by simp [go_sem]) ?_
    refine cw_le (le_empty 124 5 1 (by simp [go_sem])) ?_
    simp only [go_sem]
    refine cw_le (le_nilB 124 1 5 (by simp only [go_sem]; exact rfl) (by simp only [go_sem, asEmpty]; exact rfl)) ?_
    simp only [go_sem, asEmpty]
    refine cw_loopS (fun i : Nat => i ≤ 4 ∧ (1 ≤ i → numB w1 = true) ∧ (2 ≤ i → numB w2 = true) ∧ (3 ≤ i → numB w3 = true) ∧ (4 ≤ i → (unhexR w4).2 = true) ∧ (6 ≤ i → True)) (fun i => 4 - i) (fun i => [(9, .osl 65 1 (nn3 i) (5 - nn3 i)), (12, .any), (13, .any), (14, .any), (15, .any), (16, .any), (17, .any), (18, .any), (74, .int .i64 i), (75, .any), (76, .any), (77, .any), (78, .any), (79, .any), (80, .any), (81, .any), (82, .any), (83, .any), (84, .any), (85, .any), (86, .any), (87, .any), (88, .any), (89, .any), (90, .any), (91, .any), (92, .any), (93, .any), (94, .any), (95, .any), (96, .any), (97, .any), (98, .any), (99, .any), (100, .any), (101, .any), (102, .any), (103, .any), (104, .any), (105, .any), (106, .any), (107, .any), (108, .any), (109, .any), (110, .any), (111, .any), (112, .any), (113, .any), (114, .any), (115, .any), (116, .any), (117, .any), (118, .any), (119, .any), (120, .any), (121, .any), (122, .any), (123, .any), (124, .any), (125, .any), (126, .any), (127, .any), (128, .any), (129, .any), (130, .any), (131, .any), (132, .any), (133, .any), (134, .any), (135, .any), (136, .any), (137, .any), (138, .any), (139, .any), (140, .any), (141, .any), (142, .any), (143, .any), (144, .any), (145, .any), (146, .any), (147, .any), (148, .any), (149, .any), (150, .any), (151, .any), (152, .any), (153, .any), (154, .any), (155, .any), (156, .any), (157, .any), (158, .any), (159, .any), (160, .any), (161, .any), (162, .any), (163, .any), (164, .any)]) (fun i => [(5, .cells 36 9 [rowS w1 w2 w3 i (datI w4 i).length]), (124, .cells 5 1 ((datI w4 i).map byteRow))]) 0 ⟨by omega, by omega, by omega, by omega, by omega, by omega⟩ ?_ fun i hi => ?_
    · simp only [go_sem]
      exact le_sub (by simp [go_sem, nn3]) (by simp [go_sem, rowS, datI]) (by simp [go_sem, rowS, datI])
    obtain ⟨hi, hb1, hb2, hb3, hb4, hb6⟩ := hi
    rcases (show i = 0 ∨ i = 1 ∨ i = 2 ∨ i = 3 ∨ i = 4 by omega) with rfl | rfl | rfl | rfl | rfl
    · skip
      simp only [rowS, datI, nn3, go_sem, Nat.reduceLeDiff, ↓reduceIte]
      refine cw_go tabOK 99 (by simp only [go_sem]; try exact rfl) (by simp [go_sem]) ?_
      refine cw_cond (by simp only [go_sem]; try exact rfl) trivial (fun h => ?_) (fun h => ?_)
      · skip
        have hat := atoi_ok w1 (by omega)
        rcases errA_cases (s := w1) with ⟨hea, heb⟩ | ⟨hea, heb⟩
        · rw [hea] at hat
          refine cw_go tabOK 99 (by simp only [go_sem, cond_true, cond_false]; try exact rfl) (by simp [go_sem, cond_true, cond_false]) ?_
          refine cw_cond (by simp only [go_sem]; try exact rfl) trivial (fun h => ?_) (fun h => ?_)
          · refine cw_go tabOK 99 (by simp only [go_sem]; try exact rfl) (by simp [go_sem]) ?_
            refine cw_call rfl rfl (by simp only [go_sem]; try exact rfl) (by simp [go_sem]) ⟨_, Go.Proofs.Tryd.func38, by kernel_rfl, rfl⟩ (by simp [go_sem]) (hat) (by simp [go_sem]) (by simp only [go_sem]; exact rfl) ?_
            refine cw_runN tabOK 5 (by simp only [go_sem]; exact rfl) (by simp only [go_sem]; exact rfl) (by simp only [go_sem]; try exact rfl) (by simp [go_sem]) ?_
            refine cw_goR 99 (by simp only [go_sem]; try exact rfl) ?_
            refine cw_runN tabOK 1 (by simp only [go_sem]; exact rfl) (by simp only [go_sem]; exact rfl) (by simp only [go_sem]; try exact rfl) (by simp [go_sem]) ?_
            refine cw_step rfl (trip_nilI rfl (by kernel_rfl) (by simp only [go_sem]; try exact rfl) (X := .nili) (r := true) (q := false) (.inl ⟨rfl, rfl⟩) (.inr ⟨rfl, rfl⟩)) ?_
            refine cw_go tabOK 99 (by simp only [go_sem]; try exact rfl) (by simp [go_sem]) ?_
            refine cw_callC rfl (by simp only [go_sem]; try exact rfl) (by simp only [go_sem]; try exact rfl) (by simp [go_sem]) ⟨_, Go.Proofs.Tryd.func28, by kernel_rfl, rfl⟩ (by simp [go_sem]) (fun hb => (itoa_ok (numV w1) (numV_range w1).1 (numV_range w1).2)) (by simp [go_sem]) (by simp only [go_sem]; exact rfl) ?_
            refine cw_go tabOK 99 (by simp only [go_sem]; try exact rfl) (by simp [go_sem]) ?_
            refine cw_cond (by simp only [go_sem]; try exact rfl) trivial (fun h => ?_) (fun h => ?_)
            · have hf : numB w1 = false := by
                rw [heb]; simpa using h
              have hP2 : P = (zeroRec, 2) := by rw [← hPL]; simp [hf]
              rw [hP2]
              refine cw_go tabOK 99 (by simp only [go_sem]; try exact rfl) (by simp [go_sem]) ?_
              refine cw_ret ⟨_, _, by simp only [go_sem]; try exact rfl, by simp [go_sem], _, .inr (.inl rfl), ?_⟩
              rfl
            have ht : numB w1 = true := by
              rw [heb]; simpa using h
            refine cw_go tabOK 99 (by simp only [go_sem]; try exact rfl) (by simp [go_sem]) ?_
            refine cw_back ⟨1, ?_, by omega, le_sub ?_ ?_ ?_⟩
            · refine ⟨by omega, ?_⟩
              (repeat' apply And.intro) <;> (intro hj; first | exact ht | exact hb1 (by omega) | exact hb2 (by omega) | exact hb3 (by omega) | exact hb4 (by omega) | exact hb6 (by omega) | omega)
            · simp [go_sem, wr_small, nn3]
            · simp [go_sem, rowS, datI]
            · simp [go_sem]
          · exfalso; simp at h
        · rw [hea] at hat
          refine cw_go tabOK 99 (by simp only [go_sem, cond_true, cond_false]; try exact rfl) (by simp [go_sem, cond_true, cond_false]) ?_
          refine cw_cond (by simp only [go_sem]; try exact rfl) trivial (fun h => ?_) (fun h => ?_)
          · refine cw_go tabOK 99 (by simp only [go_sem]; try exact rfl) (by simp [go_sem]) ?_
            refine cw_call rfl rfl (by simp only [go_sem]; try exact rfl) (by simp [go_sem]) ⟨_, Go.Proofs.Tryd.func38, by kernel_rfl, rfl⟩ (by simp [go_sem]) (hat) (by simp [go_sem]) (by simp only [go_sem]; exact rfl) ?_
            refine cw_runN tabOK 5 (by simp only [go_sem]; exact rfl) (by simp only [go_sem]; exact rfl) (by simp only [go_sem]; try exact rfl) (by simp [go_sem]) ?_
            refine cw_goR 99 (by simp only [go_sem]; try exact rfl) ?_
            refine cw_runN tabOK 1 (by simp only [go_sem]; exact rfl) (by simp only [go_sem]; exact rfl) (by simp only [go_sem]; try exact rfl) (by simp [go_sem]) ?_
            refine cw_step rfl (trip_nilI rfl (by kernel_rfl) (by simp only [go_sem]; try exact rfl) (X := .ifc) (r := false) (q := true) (.inr ⟨rfl, rfl⟩) (.inr ⟨rfl, rfl⟩)) ?_
            refine cw_go tabOK 99 (by simp only [go_sem]; try exact rfl) (by simp [go_sem]) ?_
            refine cw_callC rfl (by simp only [go_sem]; try exact rfl) (by simp only [go_sem]; try exact rfl) (by simp [go_sem]) ⟨_, Go.Proofs.Tryd.func28, by kernel_rfl, rfl⟩ (by simp [go_sem]) (fun hb => (itoa_ok (numV w1) (numV_range w1).1 (numV_range w1).2)) (by simp [go_sem]) (by simp only [go_sem]; exact rfl) ?_
            refine cw_go tabOK 99 (by simp only [go_sem]; try exact rfl) (by simp [go_sem]) ?_
            refine cw_cond (by simp only [go_sem]; try exact rfl) trivial (fun h => ?_) (fun h => ?_)
            · have hP2 : P = (zeroRec, 2) := by rw [← hPL]; simp [heb]
              rw [hP2]
              refine cw_go tabOK 99 (by simp only [go_sem]; try exact rfl) (by simp [go_sem]) ?_
              refine cw_ret ⟨_, _, by simp only [go_sem]; try exact rfl, by simp [go_sem], _, .inr (.inl rfl), ?_⟩
              rfl
            · cases h
          · exfalso; simp at h
      · simp at h
    · skip
      simp only [rowS, datI, nn3, go_sem, Nat.reduceLeDiff, ↓reduceIte]
      refine cw_go tabOK 99 (by simp only [go_sem]; try exact rfl) (by simp [go_sem]) ?_
      refine cw_cond (by simp only [go_sem]; try exact rfl) trivial (fun h => ?_) (fun h => ?_)
      · skip
        have hat := atoi_ok w2 (by omega)
        rcases errA_cases (s := w2) with ⟨hea, heb⟩ | ⟨hea, heb⟩
        · rw [hea] at hat
          refine cw_go tabOK 99 (by simp only [go_sem, cond_true, cond_false]; try exact rfl) (by simp [go_sem, cond_true, cond_false]) ?_
          refine cw_cond (by simp only [go_sem]; try exact rfl) trivial (fun h => ?_) (fun h => ?_)
          · refine cw_go tabOK 99 (by simp only [go_sem]; try exact rfl) (by simp [go_sem]) ?_
            refine cw_call rfl rfl (by simp only [go_sem]; try exact rfl) (by simp [go_sem]) ⟨_, Go.Proofs.Tryd.func38, by kernel_rfl, rfl⟩ (by simp [go_sem]) (hat) (by simp [go_sem]) (by simp only [go_sem]; exact rfl) ?_
            refine cw_runN tabOK 5 (by simp only [go_sem]; exact rfl) (by simp only [go_sem]; exact rfl) (by simp only [go_sem]; try exact rfl) (by simp [go_sem]) ?_
            refine cw_goR 99 (by simp only [go_sem]; try exact rfl) ?_
            refine cw_runN tabOK 1 (by simp only [go_sem]; exact rfl) (by simp only [go_sem]; exact rfl) (by simp only [go_sem]; try exact rfl) (by simp [go_sem]) ?_
            refine cw_step rfl (trip_nilI rfl (by kernel_rfl) (by simp only [go_sem]; try exact rfl) (X := .nili) (r := true) (q := false) (.inl ⟨rfl, rfl⟩) (.inr ⟨rfl, rfl⟩)) ?_
            refine cw_go tabOK 99 (by simp only [go_sem]; try exact rfl) (by simp [go_sem]) ?_
            refine cw_callC rfl (by simp only [go_sem]; try exact rfl) (by simp only [go_sem]; try exact rfl) (by simp [go_sem]) ⟨_, Go.Proofs.Tryd.func28, by kernel_rfl, rfl⟩ (by simp [go_sem]) (fun hb => (itoa_ok (numV w2) (numV_range w2).1 (numV_range w2).2)) (by simp [go_sem]) (by simp only [go_sem]; exact rfl) ?_
            refine cw_go tabOK 99 (by simp only [go_sem]; try exact rfl) (by simp [go_sem]) ?_
            refine cw_cond (by simp only [go_sem]; try exact rfl) trivial (fun h => ?_) (fun h => ?_)
            · have hf : numB w2 = false := by
                rw [heb]; simpa using h
              have hP2 : P = (zeroRec, 2) := by rw [← hPL]; simp [hf]
              rw [hP2]
              refine cw_go tabOK 99 (by simp only [go_sem]; try exact rfl) (by simp [go_sem]) ?_
              refine cw_ret ⟨_, _, by simp only [go_sem]; try exact rfl, by simp [go_sem], _, .inr (.inl rfl), ?_⟩
              rfl
            have ht : numB w2 = true := by
              rw [heb]; simpa using h
            refine cw_go tabOK 99 (by simp only [go_sem]; try exact rfl) (by simp [go_sem]) ?_
            refine cw_back ⟨2, ?_, by omega, le_sub ?_ ?_ ?_⟩
            · refine ⟨by omega, ?_⟩
              (repeat' apply And.intro) <;> (intro hj; first | exact ht | exact hb1 (by omega) | exact hb2 (by omega) | exact hb3 (by omega) | exact hb4 (by omega) | exact hb6 (by omega) | omega)
            · simp [go_sem, wr_small, nn3]
            · simp [go_sem, rowS, datI]
            · simp [go_sem]
          · exfalso; simp at h
        · rw [hea] at hat
          refine cw_go tabOK 99 (by simp only [go_sem, cond_true, cond_false]; try exact rfl) (by simp [go_sem, cond_true, cond_false]) ?_
          refine cw_cond (by simp only [go_sem]; try exact rfl) trivial (fun h => ?_) (fun h => ?_)
          · refine cw_go tabOK 99 (by simp only [go_sem]; try exact rfl) (by simp [go_sem]) ?_
            refine cw_call rfl rfl (by simp only [go_sem]; try exact rfl) (by simp [go_sem]) ⟨_, Go.Proofs.Tryd.func38, by kernel_rfl, rfl⟩ (by simp [go_sem]) (hat) (by simp [go_sem]) (by simp only [go_sem]; exact rfl) ?_
            refine cw_runN tabOK 5 (by simp only [go_sem]; exact rfl) (by simp only [go_sem]; exact rfl) (by simp only [go_sem]; try exact rfl) (by simp [go_sem]) ?_
            refine cw_goR 99 (by simp only [go_sem]; try exact rfl) ?_
            refine cw_runN tabOK 1 (by simp only [go_sem]; exact rfl) (by simp only [go_sem]; exact rfl) (by simp only [go_sem]; try exact rfl) (by simp [go_sem]) ?_
            refine cw_step rfl (trip_nilI rfl (by kernel_rfl) (by simp only [go_sem]; try exact rfl) (X := .ifc) (r := false) (q := true) (.inr ⟨rfl, rfl⟩) (.inr ⟨rfl, rfl⟩)) ?_
            refine cw_go tabOK 99 (by simp only [go_sem]; try exact rfl) (by simp [go_sem]) ?_
            refine cw_callC rfl (by simp only [go_sem]; try exact rfl) (by simp only [go_sem]; try exact rfl) (by simp [go_sem]) ⟨_, Go.Proofs.Tryd.func28, by kernel_rfl, rfl⟩ (by simp [go_sem]) (fun hb => (itoa_ok (numV w2) (numV_range w2).1 (numV_range w2).2)) (by simp [go_sem]) (by simp only [go_sem]; exact rfl) ?_
            refine cw_go tabOK 99 (by simp only [go_sem]; try exact rfl) (by simp [go_sem]) ?_
            refine cw_cond (by simp only [go_sem]; try exact rfl) trivial (fun h => ?_) (fun h => ?_)
            · have hP2 : P = (zeroRec, 2) := by rw [← hPL]; simp [heb]
              rw [hP2]
              refine cw_go tabOK 99 (by simp only [go_sem]; try exact rfl) (by simp [go_sem]) ?_
              refine cw_ret ⟨_, _, by simp only [go_sem]; try exact rfl, by simp [go_sem], _, .inr (.inl rfl), ?_⟩
              rfl
            · cases h
          · exfalso; simp at h
      · simp at h
    · skip
      simp only [rowS, datI, nn3, go_sem, Nat.reduceLeDiff, ↓reduceIte]
      refine cw_go tabOK 99 (by simp only [go_sem]; try exact rfl) (by simp [go_sem]) ?_
      refine cw_cond (by simp only [go_sem]; try exact rfl) trivial (fun h => ?_) (fun h => ?_)
      · skip
        have hat := atoi_ok w3 (by omega)
        rcases errA_cases (s := w3) with ⟨hea, heb⟩ | ⟨hea, heb⟩
        · rw [hea] at hat
          refine cw_go tabOK 99 (by simp only [go_sem, cond_true, cond_false]; try exact rfl) (by simp [go_sem, cond_true, cond_false]) ?_
          refine cw_cond (by simp only [go_sem]; try exact rfl) trivial (fun h => ?_) (fun h => ?_)
          · refine cw_go tabOK 99 (by simp only [go_sem]; try exact rfl) (by simp [go_sem]) ?_
            refine cw_call rfl rfl (by simp only [go_sem]; try exact rfl) (by simp [go_sem]) ⟨_, Go.Proofs.Tryd.func38, by kernel_rfl, rfl⟩ (by simp [go_sem]) (hat) (by simp [go_sem]) (by simp only [go_sem]; exact rfl) ?_
            refine cw_runN tabOK 5 (by simp only [go_sem]; exact rfl) (by simp only [go_sem]; exact rfl) (by simp only [go_sem]; try exact rfl) (by simp [go_sem]) ?_
            refine cw_goR 99 (by simp only [go_sem]; try exact rfl) ?_
            refine cw_runN tabOK 1 (by simp only [go_sem]; exact rfl) (by simp only [go_sem]; exact rfl) (by simp only [go_sem]; try exact rfl) (by simp [go_sem]) ?_
            refine cw_step rfl (trip_nilI rfl (by kernel_rfl) (by simp only [go_sem]; try exact rfl) (X := .nili) (r := true) (q := false) (.inl ⟨rfl, rfl⟩) (.inr ⟨rfl, rfl⟩)) ?_
            refine cw_go tabOK 99 (by simp only [go_sem]; try exact rfl) (by simp [go_sem]) ?_
            refine cw_callC rfl (by simp only [go_sem]; try exact rfl) (by simp only [go_sem]; try exact rfl) (by simp [go_sem]) ⟨_, Go.Proofs.Tryd.func28, by kernel_rfl, rfl⟩ (by simp [go_sem]) (fun hb => (itoa_ok (numV w3) (numV_range w3).1 (numV_range w3).2)) (by simp [go_sem]) (by simp only [go_sem]; exact rfl) ?_
            refine cw_go tabOK 99 (by simp only [go_sem]; try exact rfl) (by simp [go_sem]) ?_
            refine cw_cond (by simp only [go_sem]; try exact rfl) trivial (fun h => ?_) (fun h => ?_)
            · have hf : numB w3 = false := by
                rw [heb]; simpa using h
              have hP2 : P = (zeroRec, 2) := by rw [← hPL]; simp [hf]
              rw [hP2]
              refine cw_go tabOK 99 (by simp only [go_sem]; try exact rfl) (by simp [go_sem]) ?_
              refine cw_ret ⟨_, _, by simp only [go_sem]; try exact rfl, by simp [go_sem], _, .inr (.inl rfl), ?_⟩
              rfl
            have ht : numB w3 = true := by
              rw [heb]; simpa using h
            refine cw_go tabOK 99 (by simp only [go_sem]; try exact rfl) (by simp [go_sem]) ?_
            refine cw_back ⟨3, ?_, by omega, le_sub ?_ ?_ ?_⟩
            · refine ⟨by omega, ?_⟩
              (repeat' apply And.intro) <;> (intro hj; first | exact ht | exact hb1 (by omega) | exact hb2 (by omega) | exact hb3 (by omega) | exact hb4 (by omega) | exact hb6 (by omega) | omega)
            · simp [go_sem, wr_small, nn3]
            · simp [go_sem, rowS, datI]
            · simp [go_sem]
          · exfalso; simp at h
        · rw [hea] at hat
          refine cw_go tabOK 99 (by simp only [go_sem, cond_true, cond_false]; try exact rfl) (by simp [go_sem, cond_true, cond_false]) ?_
          refine cw_cond (by simp only [go_sem]; try exact rfl) trivial (fun h => ?_) (fun h => ?_)
          · refine cw_go tabOK 99 (by simp only [go_sem]; try exact rfl) (by simp [go_sem]) ?_
            refine cw_call rfl rfl (by simp only [go_sem]; try exact rfl) (by simp [go_sem]) ⟨_, Go.Proofs.Tryd.func38, by kernel_rfl, rfl⟩ (by simp [go_sem]) (hat) (by simp [go_sem]) (by simp only [go_sem]; exact rfl) ?_
            refine cw_runN tabOK 5 (by simp only [go_sem]; exact rfl) (by simp only [go_sem]; exact rfl) (by simp only [go_sem]; try exact rfl) (by simp [go_sem]) ?_
            refine cw_goR 99 (by simp only [go_sem]; try exact rfl) ?_
            refine cw_runN tabOK 1 (by simp only [go_sem]; exact rfl) (by simp only [go_sem]; exact rfl) (by simp only [go_sem]; try exact rfl) (by simp [go_sem]) ?_
            refine cw_step rfl (trip_nilI rfl (by kernel_rfl) (by simp only [go_sem]; try exact rfl) (X := .ifc) (r := false) (q := true) (.inr ⟨rfl, rfl⟩) (.inr ⟨rfl, rfl⟩)) ?_
            refine cw_go tabOK 99 (by simp only [go_sem]; try exact rfl) (by simp [go_sem]) ?_
            refine cw_callC rfl (by simp only [go_sem]; try exact rfl) (by simp only [go_sem]; try exact rfl) (by simp [go_sem]) ⟨_, Go.Proofs.Tryd.func28, by kernel_rfl, rfl⟩ (by simp [go_sem]) (fun hb => (itoa_ok (numV w3) (numV_range w3).1 (numV_range w3).2)) (by simp [go_sem]) (by simp only [go_sem]; exact rfl) ?_
            refine cw_go tabOK 99 (by simp only [go_sem]; try exact rfl) (by simp [go_sem]) ?_
            refine cw_cond (by simp only [go_sem]; try exact rfl) trivial (fun h => ?_) (fun h => ?_)
            · have hP2 : P = (zeroRec, 2) := by rw [← hPL]; simp [heb]
              rw [hP2]
              refine cw_go tabOK 99 (by simp only [go_sem]; try exact rfl) (by simp [go_sem]) ?_
              refine cw_ret ⟨_, _, by simp only [go_sem]; try exact rfl, by simp [go_sem], _, .inr (.inl rfl), ?_⟩
              rfl
            · cases h
          · exfalso; simp at h
      · simp at h
    · skip
      simp only [rowS, datI, nn3, go_sem, Nat.reduceLeDiff, ↓reduceIte]
      refine cw_go tabOK 99 (by simp only [go_sem]; try exact rfl) (by simp [go_sem]) ?_
      refine cw_cond (by simp only [go_sem]; try exact rfl) trivial (fun h => ?_) (fun h => ?_)
      · refine cw_go tabOK 99 (by simp only [go_sem]; try exact rfl) (by simp [go_sem]) ?_
        refine cw_cond (by simp only [go_sem]; try exact rfl) trivial (fun h => ?_) (fun h => ?_)
        · exfalso; simp at h
        refine cw_go tabOK 99 (by simp only [go_sem]; try exact rfl) (by simp [go_sem]) ?_
        refine cw_cond (by simp only [go_sem]; try exact rfl) trivial (fun h => ?_) (fun h => ?_)
        · exfalso; simp at h
        refine cw_go tabOK 99 (by simp only [go_sem]; try exact rfl) (by simp [go_sem]) ?_
        refine cw_cond (by simp only [go_sem]; try exact rfl) trivial (fun h => ?_) (fun h => ?_)
        · have h45 : w4 = [45] := by simpa using h
          have hu0 : unhexR w4 = ([], true) := by rw [h45]; rfl
          refine cw_go tabOK 99 (by simp only [go_sem]; try exact rfl) (by simp [go_sem]) ?_
          refine cw_back ⟨4, ?_, by omega, le_sub ?_ ?_ ?_⟩
          · refine ⟨by omega, ?_⟩
            (repeat' apply And.intro) <;> (intro hj; first | exact hb1 (by omega) | exact hb2 (by omega) | exact hb3 (by omega) | omega | rw [hu0])
          · simp [go_sem, wr_small, nn3]
          · simp [go_sem, rowS, datI, hu0]
          · simp [go_sem]
        have h45 : w4 ≠ [45] := by simpa using h
        have hrem : ((w4.length : Int)).tmod 2 = ((w4.length % 2 : Nat) : Int) := rfl
        refine cw_go tabOK 99 (by simp only [go_sem]; try exact rfl) (by simp [go_sem]) ?_
        refine cw_cond (by simp only [go_sem]; try exact rfl) trivial (fun h => ?_) (fun h => ?_)
        · have h1 : w4 = [] ∨ w4.length % 2 ≠ 0 := by
            by_cases he : w4 = []
            · exact .inl he
            · simp [he, hrem] at h
              exact .inr (by omega)
          have hu0 : unhexR w4 = ([], false) := by unfold unhexR; rw [if_neg h45, if_pos h1]
          have hP2 : P = (zeroRec, 2) := by rw [← hPL]; simp [hu0]
          rw [hP2]
          refine cw_go tabOK 99 (by simp only [go_sem]; try exact rfl) (by simp [go_sem]) ?_
          refine cw_ret ⟨_, _, by simp only [go_sem]; try exact rfl, by simp [go_sem], _, .inr (.inl rfl), ?_⟩
          rfl
        have h1 : ¬ (w4 = [] ∨ w4.length % 2 ≠ 0) := by
          rintro (h1 | h1)
          · simp [h1] at h
          · have he : w4 ≠ [] := fun e => by rw [e] at h1; simp at h1
            simp [he, hrem] at h
            omega
        have hU : unhexR w4 = match unhexL w4 with | none => ([], false) | some d => (d, true) := by unfold unhexR; rw [if_neg h45, if_neg h1]; rfl
        have hev : w4.length % 2 = 0 := by
          by_cases e : w4.length % 2 = 0
          · exact e
          · exact absurd (.inr e) h1
        clear h1 h45 h hrem
        refine cw_go tabOK 99 (by simp only [go_sem]; try exact rfl) (by simp [go_sem]) ?_
        refine cw_loopS (fun x : Nat × List UInt8 => Unhexing w4 x.1 x.2) (fun x => w4.length - 2 * x.1) (fun x => [(16, .int .i64 ((2 * x.1 : Nat) : Int)), (17, .any), (18, .any), (93, .any), (94, .any), (95, .any), (96, .any), (97, .any), (98, .any), (99, .any), (100, .any), (101, .any), (102, .any), (103, .any), (104, .any), (105, .any), (106, .any), (107, .any), (108, .any), (109, .any), (110, .any), (111, .any), (112, .any), (113, .any), (114, .any), (115, .any), (116, .any), (117, .any), (118, .any), (119, .any), (120, .any), (121, .any), (122, .any), (123, .any), (124, .any), (125, .any), (126, .any)]) (fun x => [(5, .cells 36 9 [rowS w1 w2 w3 3 x.2.length]), (124, .cells 5 1 (x.2.map byteRow))]) (0, []) ⟨by omega, rfl, by simp⟩ ?_ fun x hx => ?_
        · simp only [go_sem]
          exact le_sub (by simp [go_sem]) (by simp [go_sem, rowS]) (by simp [go_sem, rowS])
        obtain ⟨i, d⟩ := x
        obtain ⟨hi, hd, hu⟩ := hx
        simp only at hi hd hu
        simp only [go_sem, rowS, Nat.reduceLeDiff, ↓reduceIte]
        refine cw_go tabOK 99 (by simp only [go_sem]; try exact rfl) (by simp [go_sem]) ?_
        refine cw_cond (by simp only [go_sem]; try exact rfl) trivial (fun h => ?_) (fun h => ?_)
        · have hlt : 2 * i + 1 < w4.length := by simp at h; omega
          have hw : IntKind.i64.wrap (((2 * i : Nat) : Int) + 1) = ((2 * i + 1 : Nat) : Int) := by rw [Eng.wrap_small (by omega) (by omega)]; omega
          have hw2 : IntKind.i64.wrap (((2 * i : Nat) : Int) + 2) = ((2 * (i + 1) : Nat) : Int) := by rw [Eng.wrap_small (by omega) (by omega)]; omega
          rw [unhexL_step hlt] at hu
          refine cw_goR 99 (by simp only [go_sem]; try exact rfl) ?_
          generalize ha : w4.getD (2 * i) 0 = a at hu
          generalize hb : w4.getD (2 * i + 1) 0 = b at hu
          have na := nib_range a
          have nb := nib_range b
          refine cw_draw mixed ?_
          refine seg_start rfl ?_
          refine seg_runN tabOK 3 (by simp only [go_sem]; exact rfl) (by simp only [go_sem]; exact rfl) (by simp only [go_sem, ha]; try exact rfl) ?_ (by simp only [go_sem]; exact rfl) ?_
          · simp; omega
          refine seg_call rfl rfl (by simp only [go_sem]; try exact rfl) (by simp [go_sem]) ⟨_, Go.Proofs.Tryd.func39, by kernel_rfl, rfl⟩ (by simp [go_sem]) (digit_ok a) (by simp [go_sem]) (by simp only [go_sem]; exact rfl) (by simp only [go_sem]; exact rfl) ?_
          refine seg_runN tabOK 4 (by simp only [go_sem]; exact rfl) (by simp only [go_sem]; exact rfl) (by simp only [go_sem, hb, hw]; try exact rfl) ?_ (by simp only [go_sem]; exact rfl) ?_
          · simp [hw]; omega
          refine seg_call rfl rfl (by simp only [go_sem]; try exact rfl) (by simp [go_sem]) ⟨_, Go.Proofs.Tryd.func39, by kernel_rfl, rfl⟩ (by simp [go_sem]) (digit_ok b) (by simp [go_sem]) (by simp only [go_sem]; exact rfl) (by simp only [go_sem]; exact rfl) ?_
          refine seg_runN tabOK 2 (by simp only [go_sem]; exact rfl) (by simp only [go_sem]; exact rfl) (by simp only [go_sem]; try exact rfl) (by simp [go_sem]) (by simp only [go_sem]; exact rfl) ?_
          refine seg_end (by kernel_rfl) (by simp only [go_sem]; exact rfl) ?_
          refine draw_close (by kernel_rfl) ?_
          refine cw_go tabOK 99 (by simp only [go_sem]; try exact rfl) (by simp [go_sem]) ?_
          refine cw_cond (by simp only [go_sem]; try exact rfl) trivial (fun h => ?_) (fun h => ?_)
          · have hneg : nib a < 0 ∨ nib b < 0 := by
              by_cases e : nib a < 0
              · exact .inl e
              · simp [e] at h; exact .inr h
            rw [if_pos hneg, Option.map_none] at hu
            have hP2 : P = (zeroRec, 2) := by rw [← hPL, hU, hu]; simp
            rw [hP2]
            refine cw_go tabOK 99 (by simp only [go_sem]; try exact rfl) (by simp [go_sem]) ?_
            refine cw_ret ⟨_, _, by simp only [go_sem]; try exact rfl, by simp [go_sem], _, .inr (.inl rfl), ?_⟩
            rfl
          · have hneg : ¬ (nib a < 0 ∨ nib b < 0) := by
              rintro (e | e)
              · simp [e] at h
              · by_cases e2 : nib a < 0 <;> simp [e, e2] at h
            rw [if_neg hneg, Option.map_map] at hu
            obtain ⟨x, hx⟩ : ∃ x : Nat, nib a = x := ⟨(nib a).toNat, by omega⟩
            obtain ⟨y, hy⟩ : ∃ y : Nat, nib b = y := ⟨(nib b).toNat, by omega⟩
            rw [hx] at hu na ⊢
            rw [hy] at hu nb ⊢
            have hby : ((UInt8.ofNat (x * 16 + y)).toNat : Int) = ((x * 16 + y : Nat) : Int) := by rw [UInt8.toNat_ofNat']; omega
            have hm1 : IntKind.i64.wrap (16 * (x : Int)) = ((x * 16 : Nat) : Int) := by rw [Eng.wrap_small (by omega) (by omega)]; omega
            have hm2 : IntKind.i64.wrap (((x * 16 : Nat) : Int) + (y : Int)) = ((x * 16 + y : Nat) : Int) := by rw [Eng.wrap_small (by omega) (by omega)]; omega
            have hm3 : IntKind.u8.wrap ((x * 16 + y : Nat) : Int) = ((UInt8.ofNat (x * 16 + y)).toNat : Int) := by rw [hby]; exact wrap8 (by omega) (by omega)
            have htk : List.take d.length (d.map byteRow) = d.map byteRow := List.take_of_length_le (by simp)
            refine cw_goR 99 (by simp only [go_sem]; try exact rfl) ?_
            refine cw_runN tabOK 9 (by simp only [go_sem]; exact rfl) (by simp only [go_sem]; exact rfl) (by simp only [go_sem, hm1, hm2, hm3]; try exact rfl) (by simp [go_sem, hm1, hm2, hm3]) ?_
            refine cw_le (le_killB 124 5 (by simp only [go_sem]; exact rfl) (by simp only [go_sem, kill]; exact rfl)) ?_
            refine cw_runN tabOK 1 (by simp only [go_sem]; exact rfl) (by simp only [go_sem]; exact rfl) (by simp only [go_sem]; try exact rfl) ?_ ?_
            · simp [htk, refs]
              exact ⟨by intro row h; simp at h; subst h; rfl, by omega⟩
            refine cw_go tabOK 99 (by simp only [go_sem, hw2]; try exact rfl) (by simp [go_sem, hw2]) ?_
            have hxy : ((x : Int) * 16 + (y : Int)).toNat = x * 16 + y := by omega
            refine cw_back ⟨(i + 1, d ++ [UInt8.ofNat (x * 16 + y)]), ⟨by omega, by simp [hd], by rw [hu]; congr 1; funext z; simp [hxy]⟩, by simp only; omega, le_sub ?_ ?_ ?_⟩
            · simp [go_sem]
            · simp [go_sem, htk, byteRow, rowS]
            · simp [go_sem]
        · have e : 2 * i = w4.length := by simp at h; omega
          rw [e, List.drop_length] at hu
          simp only [unhexL, Option.map_some, List.append_nil] at hu
          have hu0 : unhexR w4 = (d, true) := by rw [hU, hu]
          refine cw_go tabOK 99 (by simp only [go_sem]; try exact rfl) (by simp [go_sem]) ?_
          refine cw_back ⟨4, ?_, by omega, le_sub ?_ ?_ ?_⟩
          · refine ⟨by omega, ?_⟩
            (repeat' apply And.intro) <;> (intro hj; first | exact hb1 (by omega) | exact hb2 (by omega) | exact hb3 (by omega) | omega | rw [hu0])
          · simp [go_sem, wr_small, nn3]
          · simp [go_sem, rowS, datI, hu0]
          · simp [go_sem]
      · simp at h
    · skip
      simp only [rowS, datI, nn3, go_sem, Nat.reduceLeDiff, ↓reduceIte]
      refine cw_go tabOK 99 (by simp only [go_sem]; try exact rfl) (by simp [go_sem]) ?_
      refine cw_cond (by simp only [go_sem]; try exact rfl) trivial (fun h => ?_) (fun h => ?_)
      · simp at h
      have k1 := hb1 (by omega)
      have k2 := hb2 (by omega)
      have k3 := hb3 (by omega)
      have k4 := hb4 (by omega)
      have hP2 : P = (⟨⟨3, numV w3, 0, [], 0, [], (unhexR w4).1⟩, numV w2, numV w1⟩, 0) := by rw [← hPL]; simp [k1, k2, k3, k4]
      rw [hP2]
      refine cw_go tabOK 99 (by simp only [go_sem]; try exact rfl) (by simp [go_sem]) ?_
      refine cw_cond (by simp only [go_sem]; try exact rfl) trivial (fun h => ?_) (fun h => ?_)
      · simp at h
      refine cw_freeze 124 rfl (byteRow_pure _) ?_
      refine cw_go tabOK 99 (by simp only [go_sem]; try exact rfl) (by simp [go_sem]) ?_
      refine cw_ret ⟨_, _, by simp only [go_sem]; try exact rfl, by simp [go_sem], _, .inr (.inl rfl), ?_⟩
      simp [parseA, Eng.nrm, Eng.nrmL, recRow, nrm_bytes, Eng.nrmR]
  rw [if_neg h3] at hl
  by_cases h5 : k = 5
  · subst h5
    simp only [if_true] at hl
    obtain ⟨v0, w1, w2, w3, w4, w5, w6, w7, rfl⟩ : ∃ v0 w1 w2 w3 w4 w5 w6 w7, L = [v0, w1, w2, w3, w4, w5, w6, w7] := by
      match L, hl with
      | [a, b, c, d, e, f, g, h], _ => exact ⟨a, b, c, d, e, f, g, h, rfl⟩
    have m1 := hcp w1 (by simp)
    have m2 := hcp w2 (by simp)
    have m3 := hcp w3 (by simp)
    have m4 := hcp w4 (by simp)
    have m5 := hcp w5 (by simp)
    have m6 := hcp w6 (by simp)
    have m7 := hcp w7 (by simp)
    have hfm : formW 5 = [110, 110, 110, 110, 97, 110, 97] := rfl
    rw [pl_eight (by rw [← hkk, ← hw0]; rfl)] at hPL
    rw [hfm]
    clear hfm hne hcl hcp hw0 hg0 hw1 hL0 hl
    simp only [List.map_cons, List.map_nil, strRow]
    refine cw_go tabOK 99 (by simp only [go_sem]; try exact rfl) (by simp [go_sem]) ?_
    refine cw_loopS (fun i : Nat => i ≤ 7 ∧ (1 ≤ i → numB w1 = true) ∧ (2 ≤ i → numB w2 = true) ∧ (3 ≤ i → numB w3 = true) ∧ (4 ≤ i → numB w4 = true) ∧ (6 ≤ i → numB w6 = true)) (fun i => 7 - i) (fun i => [(9, .osl 65 1 (nnI i) (5 - nnI i)), (10, .osl 70 1 (ntI i) (2 - ntI i)), (11, .bool (nmI w5 w7 i)), (12, .any), (13, .any), (14, .any), (15, .any), (16, .any), (17, .any), (18, .any), (74, .int .i64 i), (75, .any), (76, .any), (77, .any), (78, .any), (79, .any), (80, .any), (81, .any), (82, .any), (83, .any), (84, .any), (85, .any), (86, .any), (87, .any), (88, .any), (89, .any), (90, .any), (91, .any), (92, .any), (93, .any), (94, .any), (95, .any), (96, .any), (97, .any), (98, .any), (99, .any), (100, .any), (101, .any), (102, .any), (103, .any), (104, .any), (105, .any), (106, .any), (107, .any), (108, .any), (109, .any), (110, .any), (111, .any), (112, .any), (113, .any), (114, .any), (115, .any), (116, .any), (117, .any), (118, .any), (119, .any), (120, .any), (121, .any), (122, .any), (123, .any), (124, .any), (125, .any), (126, .any), (127, .any), (128, .any), (129, .any), (130, .any), (131, .any), (132, .any), (133, .any), (134, .any), (135, .any), (136, .any), (137, .any), (138, .any), (139, .any), (140, .any), (141, .any), (142, .any), (143, .any), (144, .any), (145, .any), (146, .any), (147, .any), (148, .any), (149, .any), (150, .any), (151, .any), (152, .any), (153, .any), (154, .any), (155, .any), (156, .any), (157, .any), (158, .any), (159, .any), (160, .any), (161, .any), (162, .any), (163, .any), (164, .any)]) (fun i => [(5, .cells 36 9 [rowN 5 w1 w2 w3 w4 w5 w6 w7 i])]) 0 ⟨by omega, by omega, by omega, by omega, by omega, by omega⟩ ?_ fun i hi => ?_
    · simp only [go_sem]
      exact le_sub (by simp [go_sem, nnI, ntI, nmI]) (by simp [go_sem, rowN]) (by simp [go_sem, rowN])
    obtain ⟨hi, hb1, hb2, hb3, hb4, hb6⟩ := hi
    rcases (show i = 0 ∨ i = 1 ∨ i = 2 ∨ i = 3 ∨ i = 4 ∨ i = 5 ∨ i = 6 ∨ i = 7 by omega) with rfl | rfl | rfl | rfl | rfl | rfl | rfl | rfl
    · skip
      simp only [rowN, nnI, ntI, nmI, go_sem, Nat.reduceLeDiff, ↓reduceIte]
      refine cw_go tabOK 99 (by simp only [go_sem]; try exact rfl) (by simp [go_sem]) ?_
      refine cw_cond (by simp only [go_sem]; try exact rfl) trivial (fun h => ?_) (fun h => ?_)
      · skip
        have hat := atoi_ok w1 (by omega)
        rcases errA_cases (s := w1) with ⟨hea, heb⟩ | ⟨hea, heb⟩
        · rw [hea] at hat
          refine cw_go tabOK 99 (by simp only [go_sem, cond_true, cond_false]; try exact rfl) (by simp [go_sem, cond_true, cond_false]) ?_
          refine cw_cond (by simp only [go_sem]; try exact rfl) trivial (fun h => ?_) (fun h => ?_)
          · refine cw_go tabOK 99 (by simp only [go_sem]; try exact rfl) (by simp [go_sem]) ?_
            refine cw_call rfl rfl (by simp only [go_sem]; try exact rfl) (by simp [go_sem]) ⟨_, Go.Proofs.Tryd.func38, by kernel_rfl, rfl⟩ (by simp [go_sem]) (hat) (by simp [go_sem]) (by simp only [go_sem]; exact rfl) ?_
            refine cw_runN tabOK 5 (by simp only [go_sem]; exact rfl) (by simp only [go_sem]; exact rfl) (by simp only [go_sem]; try exact rfl) (by simp [go_sem]) ?_
            refine cw_goR 99 (by simp only [go_sem]; try exact rfl) ?_
            refine cw_runN tabOK 1 (by simp only [go_sem]; exact rfl) (by simp only [go_sem]; exact rfl) (by simp only [go_sem]; try exact rfl) (by simp [go_sem]) ?_
            refine cw_step rfl (trip_nilI rfl (by kernel_rfl) (by simp only [go_sem]; try exact rfl) (X := .nili) (r := true) (q := false) (.inl ⟨rfl, rfl⟩) (.inr ⟨rfl, rfl⟩)) ?_
            refine cw_go tabOK 99 (by simp only [go_sem]; try exact rfl) (by simp [go_sem]) ?_
            refine cw_callC rfl (by simp only [go_sem]; try exact rfl) (by simp only [go_sem]; try exact rfl) (by simp [go_sem]) ⟨_, Go.Proofs.Tryd.func28, by kernel_rfl, rfl⟩ (by simp [go_sem]) (fun hb => (itoa_ok (numV w1) (numV_range w1).1 (numV_range w1).2)) (by simp [go_sem]) (by simp only [go_sem]; exact rfl) ?_
            refine cw_go tabOK 99 (by simp only [go_sem]; try exact rfl) (by simp [go_sem]) ?_
            refine cw_cond (by simp only [go_sem]; try exact rfl) trivial (fun h => ?_) (fun h => ?_)
            · have hf : numB w1 = false := by
                rw [heb]; simpa using h
              have hP2 : P = (zeroRec, 2) := by rw [← hPL]; simp [hf]
              rw [hP2]
              refine cw_go tabOK 99 (by simp only [go_sem]; try exact rfl) (by simp [go_sem]) ?_
              refine cw_ret ⟨_, _, by simp only [go_sem]; try exact rfl, by simp [go_sem], _, .inr (.inl rfl), ?_⟩
              rfl
            have ht : numB w1 = true := by
              rw [heb]; simpa using h
            refine cw_go tabOK 99 (by simp only [go_sem]; try exact rfl) (by simp [go_sem]) ?_
            refine cw_back ⟨1, ?_, by omega, le_sub ?_ ?_ ?_⟩
            · refine ⟨by omega, ?_⟩
              (repeat' apply And.intro) <;> (intro hj; first | exact ht | exact hb1 (by omega) | exact hb2 (by omega) | exact hb3 (by omega) | exact hb4 (by omega) | exact hb6 (by omega) | omega)
            · simp [go_sem, nnI, ntI, nmI, wr_small]
            · simp [go_sem, rowN]
            · simp [go_sem]
          · exfalso; simp at h
        · rw [hea] at hat
          refine cw_go tabOK 99 (by simp only [go_sem, cond_true, cond_false]; try exact rfl) (by simp [go_sem, cond_true, cond_false]) ?_
          refine cw_cond (by simp only [go_sem]; try exact rfl) trivial (fun h => ?_) (fun h => ?_)
          · refine cw_go tabOK 99 (by simp only [go_sem]; try exact rfl) (by simp [go_sem]) ?_
            refine cw_call rfl rfl (by simp only [go_sem]; try exact rfl) (by simp [go_sem]) ⟨_, Go.Proofs.Tryd.func38, by kernel_rfl, rfl⟩ (by simp [go_sem]) (hat) (by simp [go_sem]) (by simp only [go_sem]; exact rfl) ?_
            refine cw_runN tabOK 5 (by simp only [go_sem]; exact rfl) (by simp only [go_sem]; exact rfl) (by simp only [go_sem]; try exact rfl) (by simp [go_sem]) ?_
            refine cw_goR 99 (by simp only [go_sem]; try exact rfl) ?_
            refine cw_runN tabOK 1 (by simp only [go_sem]; exact rfl) (by simp only [go_sem]; exact rfl) (by simp only [go_sem]; try exact rfl) (by simp [go_sem]) ?_
            refine cw_step rfl (trip_nilI rfl (by kernel_rfl) (by simp only [go_sem]; try exact rfl) (X := .ifc) (r := false) (q := true) (.inr ⟨rfl, rfl⟩) (.inr ⟨rfl, rfl⟩)) ?_
            refine cw_go tabOK 99 (by simp only [go_sem]; try exact rfl) (by simp [go_sem]) ?_
            refine cw_callC rfl (by simp only [go_sem]; try exact rfl) (by simp only [go_sem]; try exact rfl) (by simp [go_sem]) ⟨_, Go.Proofs.Tryd.func28, by kernel_rfl, rfl⟩ (by simp [go_sem]) (fun hb => (itoa_ok (numV w1) (numV_range w1).1 (numV_range w1).2)) (by simp [go_sem]) (by simp only [go_sem]; exact rfl) ?_
            refine cw_go tabOK 99 (by simp only [go_sem]; try exact rfl) (by simp [go_sem]) ?_
            refine cw_cond (by simp only [go_sem]; try exact rfl) trivial (fun h => ?_) (fun h => ?_)
            · have hP2 : P = (zeroRec, 2) := by rw [← hPL]; simp [heb]
              rw [hP2]
              refine cw_go tabOK 99 (by simp only [go_sem]; try exact rfl) (by simp [go_sem]) ?_
              refine cw_ret ⟨_, _, by simp only [go_sem]; try exact rfl, by simp [go_sem], _, .inr (.inl rfl), ?_⟩
              rfl
            · cases h
          · exfalso; simp at h
      · simp at h
    · skip
      simp only [rowN, nnI, ntI, nmI, go_sem, Nat.reduceLeDiff, ↓reduceIte]
      refine cw_go tabOK 99 (by simp only [go_sem]; try exact rfl) (by simp [go_sem]) ?_
      refine cw_cond (by simp only [go_sem]; try exact rfl) trivial (fun h => ?_) (fun h => ?_)
      · skip
        have hat := atoi_ok w2 (by omega)
        rcases errA_cases (s := w2) with ⟨hea, heb⟩ | ⟨hea, heb⟩
        · rw [hea] at hat
          refine cw_go tabOK 99 (by simp only [go_sem, cond_true, cond_false]; try exact rfl) (by simp [go_sem, cond_true, cond_false]) ?_
          refine cw_cond (by simp only [go_sem]; try exact rfl) trivial (fun h => ?_) (fun h => ?_)
          · refine cw_go tabOK 99 (by simp only [go_sem]; try exact rfl) (by simp [go_sem]) ?_
            refine cw_call rfl rfl (by simp only [go_sem]; try exact rfl) (by simp [go_sem]) ⟨_, Go.Proofs.Tryd.func38, by kernel_rfl, rfl⟩ (by simp [go_sem]) (hat) (by simp [go_sem]) (by simp only [go_sem]; exact rfl) ?_
            refine cw_runN tabOK 5 (by simp only [go_sem]; exact rfl) (by simp only [go_sem]; exact rfl) (by simp only [go_sem]; try exact rfl) (by simp [go_sem]) ?_
            refine cw_goR 99 (by simp only [go_sem]; try exact rfl) ?_
            refine cw_runN tabOK 1 (by simp only [go_sem]; exact rfl) (by simp only [go_sem]; exact rfl) (by simp only [go_sem]; try exact rfl) (by simp [go_sem]) ?_
            refine cw_step rfl (trip_nilI rfl (by kernel_rfl) (by simp only [go_sem]; try exact rfl) (X := .nili) (r := true) (q := false) (.inl ⟨rfl, rfl⟩) (.inr ⟨rfl, rfl⟩)) ?_
            refine cw_go tabOK 99 (by simp only [go_sem]; try exact rfl) (by simp [go_sem]) ?_
            refine cw_callC rfl (by simp only [go_sem]; try exact rfl) (by simp only [go_sem]; try exact rfl) (by simp [go_sem]) ⟨_, Go.Proofs.Tryd.func28, by kernel_rfl, rfl⟩ (by simp [go_sem]) (fun hb => (itoa_ok (numV w2) (numV_range w2).1 (numV_range w2).2)) (by simp [go_sem]) (by simp only [go_sem]; exact rfl) ?_
            refine cw_go tabOK 99 (by simp only [go_sem]; try exact rfl) (by simp [go_sem]) ?_
            refine cw_cond (by simp only [go_sem]; try exact rfl) trivial (fun h => ?_) (fun h => ?_)
            · have hf : numB w2 = false := by
                rw [heb]; simpa using h
              have hP2 : P = (zeroRec, 2) := by rw [← hPL]; simp [hf]
              rw [hP2]
              refine cw_go tabOK 99 (by simp only [go_sem]; try exact rfl) (by simp [go_sem]) ?_
              refine cw_ret ⟨_, _, by simp only [go_sem]; try exact rfl, by simp [go_sem], _, .inr (.inl rfl), ?_⟩
              rfl
            have ht : numB w2 = true := by
              rw [heb]; simpa using h
            refine cw_go tabOK 99 (by simp only [go_sem]; try exact rfl) (by simp [go_sem]) ?_
            refine cw_back ⟨2, ?_, by omega, le_sub ?_ ?_ ?_⟩
            · refine ⟨by omega, ?_⟩
              (repeat' apply And.intro) <;> (intro hj; first | exact ht | exact hb1 (by omega) | exact hb2 (by omega) | exact hb3 (by omega) | exact hb4 (by omega) | exact hb6 (by omega) | omega)
            · simp [go_sem, nnI, ntI, nmI, wr_small]
            · simp [go_sem, rowN]
            · simp [go_sem]
          · exfalso; simp at h
        · rw [hea] at hat
          refine cw_go tabOK 99 (by simp only [go_sem, cond_true, cond_false]; try exact rfl) (by simp [go_sem, cond_true, cond_false]) ?_
          refine cw_cond (by simp only [go_sem]; try exact rfl) trivial (fun h => ?_) (fun h => ?_)
          · refine cw_go tabOK 99 (by simp only [go_sem]; try exact rfl) (by simp [go_sem]) ?_
            refine cw_call rfl rfl (by simp only [go_sem]; try exact rfl) (by simp [go_sem]) ⟨_, Go.Proofs.Tryd.func38, by kernel_rfl, rfl⟩ (by simp [go_sem]) (hat) (by simp [go_sem]) (by simp only [go_sem]; exact rfl) ?_
            refine cw_runN tabOK 5 (by simp only [go_sem]; exact rfl) (by simp only [go_sem]; exact rfl) (by simp only [go_sem]; try exact rfl) (by simp [go_sem]) ?_
            refine cw_goR 99 (by simp only [go_sem]; try exact rfl) ?_
            refine cw_runN tabOK 1 (by simp only [go_sem]; exact rfl) (by simp only [go_sem]; exact rfl) (by simp only [go_sem]; try exact rfl) (by simp [go_sem]) ?_
            refine cw_step rfl (trip_nilI rfl (by kernel_rfl) (by simp only [go_sem]; try exact rfl) (X := .ifc) (r := false) (q := true) (.inr ⟨rfl, rfl⟩) (.inr ⟨rfl, rfl⟩)) ?_
            refine cw_go tabOK 99 (by simp only [go_sem]; try exact rfl) (by simp [go_sem]) ?_
            refine cw_callC rfl (by simp only [go_sem]; try exact rfl) (by simp only [go_sem]; try exact rfl) (by simp [go_sem]) ⟨_, Go.Proofs.Tryd.func28, by kernel_rfl, rfl⟩ (by simp [go_sem]) (fun hb => (itoa_ok (numV w2) (numV_range w2).1 (numV_range w2).2)) (by simp [go_sem]) (by simp only [go_sem]; exact rfl) ?_
            refine cw_go tabOK 99 (by simp only [go_sem]; try exact rfl) (by simp [go_sem]) ?_
            refine cw_cond (by simp only [go_sem]; try exact rfl) trivial (fun h => ?_) (fun h => ?_)
            · have hP2 : P = (zeroRec, 2) := by rw [← hPL]; simp [heb]
              rw [hP2]
              refine cw_go tabOK 99 (by simp only [go_sem]; try exact rfl) (by simp [go_sem]) ?_
              refine cw_ret ⟨_, _, by simp only [go_sem]; try exact rfl, by simp [go_sem], _, .inr (.inl rfl), ?_⟩
              rfl
            · cases h
          · exfalso; simp at h
      · simp at h
    · skip
      simp only [rowN, nnI, ntI, nmI, go_sem, Nat.reduceLeDiff, ↓reduceIte]
      refine cw_go tabOK 99 (by simp only [go_sem]; try exact rfl) (by simp [go_sem]) ?_
      refine cw_cond (by simp only [go_sem]; try exact rfl) trivial (fun h => ?_) (fun h => ?_)
      · skip
        have hat := atoi_ok w3 (by omega)
        rcases errA_cases (s := w3) with ⟨hea, heb⟩ | ⟨hea, heb⟩
        · rw [hea] at hat
          refine cw_go tabOK 99 (by simp only [go_sem, cond_true, cond_false]; try exact rfl) (by simp [go_sem, cond_true, cond_false]) ?_
          refine cw_cond (by simp only [go_sem]; try exact rfl) trivial (fun h => ?_) (fun h => ?_)
          · refine cw_go tabOK 99 (by simp only [go_sem]; try exact rfl) (by simp [go_sem]) ?_
            refine cw_call rfl rfl (by simp only [go_sem]; try exact rfl) (by simp [go_sem]) ⟨_, Go.Proofs.Tryd.func38, by kernel_rfl, rfl⟩ (by simp [go_sem]) (hat) (by simp [go_sem]) (by simp only [go_sem]; exact rfl) ?_
            refine cw_runN tabOK 5 (by simp only [go_sem]; exact rfl) (by simp only [go_sem]; exact rfl) (by simp only [go_sem]; try exact rfl) (by simp [go_sem]) ?_
            refine cw_goR 99 (by simp only [go_sem]; try exact rfl) ?_
            refine cw_runN tabOK 1 (by simp only [go_sem]; exact rfl) (by simp only [go_sem]; exact rfl) (by simp only [go_sem]; try exact rfl) (by simp [go_sem]) ?_
            refine cw_step rfl (trip_nilI rfl (by kernel_rfl) (by simp only [go_sem]; try exact rfl) (X := .nili) (r := true) (q := false) (.inl ⟨rfl, rfl⟩) (.inr ⟨rfl, rfl⟩)) ?_
            refine cw_go tabOK 99 (by simp only [go_sem]; try exact rfl) (by simp [go_sem]) ?_
            refine cw_callC rfl (by simp only [go_sem]; try exact rfl) (by simp only [go_sem]; try exact rfl) (by simp [go_sem]) ⟨_, Go.Proofs.Tryd.func28, by kernel_rfl, rfl⟩ (by simp [go_sem]) (fun hb => (itoa_ok (numV w3) (numV_range w3).1 (numV_range w3).2)) (by simp [go_sem]) (by simp only [go_sem]; exact rfl) ?_
            refine cw_go tabOK 99 (by simp only [go_sem]; try exact rfl) (by simp [go_sem]) ?_
            refine cw_cond (by simp only [go_sem]; try exact rfl) trivial (fun h => ?_) (fun h => ?_)
            · have hf : numB w3 = false := by
                rw [heb]; simpa using h
              have hP2 : P = (zeroRec, 2) := by rw [← hPL]; simp [hf]
              rw [hP2]
              refine cw_go tabOK 99 (by simp only [go_sem]; try exact rfl) (by simp [go_sem]) ?_
              refine cw_ret ⟨_, _, by simp only [go_sem]; try exact rfl, by simp [go_sem], _, .inr (.inl rfl), ?_⟩
              rfl
            have ht : numB w3 = true := by
              rw [heb]; simpa using h
            refine cw_go tabOK 99 (by simp only [go_sem]; try exact rfl) (by simp [go_sem]) ?_
            refine cw_back ⟨3, ?_, by omega, le_sub ?_ ?_ ?_⟩
            · refine ⟨by omega, ?_⟩
              (repeat' apply And.intro) <;> (intro hj; first | exact ht | exact hb1 (by omega) | exact hb2 (by omega) | exact hb3 (by omega) | exact hb4 (by omega) | exact hb6 (by omega) | omega)
            · simp [go_sem, nnI, ntI, nmI, wr_small]
            · simp [go_sem, rowN]
            · simp [go_sem]
          · exfalso; simp at h
        · rw [hea] at hat
          refine cw_go tabOK 99 (by simp only [go_sem, cond_true, cond_false]; try exact rfl) (by simp [go_sem, cond_true, cond_false]) ?_
          refine cw_cond (by simp only [go_sem]; try exact rfl) trivial (fun h => ?_) (fun h => ?_)
          · refine cw_go tabOK 99 (by simp only [go_sem]; try exact rfl) (by simp [go_sem]) ?_
            refine cw_call rfl rfl (by simp only [go_sem]; try exact rfl) (by simp [go_sem]) ⟨_, Go.Proofs.Tryd.func38, by kernel_rfl, rfl⟩ (by simp [go_sem]) (hat) (by simp [go_sem]) (by simp only [go_sem]; exact rfl) ?_
            refine cw_runN tabOK 5 (by simp only [go_sem]; exact rfl) (by simp only [go_sem]; exact rfl) (by simp only [go_sem]; try exact rfl) (by simp [go_sem]) ?_
            refine cw_goR 99 (by simp only [go_sem]; try exact rfl) ?_
            refine cw_runN tabOK 1 (by simp only [go_sem]; exact rfl) (by simp only [go_sem]; exact rfl) (by simp only [go_sem]; try exact rfl) (by simp [go_sem]) ?_
            refine cw_step rfl (trip_nilI rfl (by kernel_rfl) (by simp only [go_sem]; try exact rfl) (X := .ifc) (r := false) (q := true) (.inr ⟨rfl, rfl⟩) (.inr ⟨rfl, rfl⟩)) ?_
            refine cw_go tabOK 99 (by simp only [go_sem]; try exact rfl) (by simp [go_sem]) ?_
            refine cw_callC rfl (by simp only [go_sem]; try exact rfl) (by simp only [go_sem]; try exact rfl) (by simp [go_sem]) ⟨_, Go.Proofs.Tryd.func28, by kernel_rfl, rfl⟩ (by simp [go_sem]) (fun hb => (itoa_ok (numV w3) (numV_range w3).1 (numV_range w3).2)) (by simp [go_sem]) (by simp only [go_sem]; exact rfl) ?_
            refine cw_go tabOK 99 (by simp only [go_sem]; try exact rfl) (by simp [go_sem]) ?_
            refine cw_cond (by simp only [go_sem]; try exact rfl) trivial (fun h => ?_) (fun h => ?_)
            · have hP2 : P = (zeroRec, 2) := by rw [← hPL]; simp [heb]
              rw [hP2]
              refine cw_go tabOK 99 (by simp only [go_sem]; try exact rfl) (by simp [go_sem]) ?_
              refine cw_ret ⟨_, _, by simp only [go_sem]; try exact rfl, by simp [go_sem], _, .inr (.inl rfl), ?_⟩
              rfl
            · cases h
          · exfalso; simp at h
      · simp at h
    · skip
      simp only [rowN, nnI, ntI, nmI, go_sem, Nat.reduceLeDiff, ↓reduceIte]
      refine cw_go tabOK 99 (by simp only [go_sem]; try exact rfl) (by simp [go_sem]) ?_
      refine cw_cond (by simp only [go_sem]; try exact rfl) trivial (fun h => ?_) (fun h => ?_)
      · skip
        have hat := atoi_ok w4 (by omega)
        rcases errA_cases (s := w4) with ⟨hea, heb⟩ | ⟨hea, heb⟩
        · rw [hea] at hat
          refine cw_go tabOK 99 (by simp only [go_sem, cond_true, cond_false]; try exact rfl) (by simp [go_sem, cond_true, cond_false]) ?_
          refine cw_cond (by simp only [go_sem]; try exact rfl) trivial (fun h => ?_) (fun h => ?_)
          · refine cw_go tabOK 99 (by simp only [go_sem]; try exact rfl) (by simp [go_sem]) ?_
            refine cw_call rfl rfl (by simp only [go_sem]; try exact rfl) (by simp [go_sem]) ⟨_, Go.Proofs.Tryd.func38, by kernel_rfl, rfl⟩ (by simp [go_sem]) (hat) (by simp [go_sem]) (by simp only [go_sem]; exact rfl) ?_
            refine cw_runN tabOK 5 (by simp only [go_sem]; exact rfl) (by simp only [go_sem]; exact rfl) (by simp only [go_sem]; try exact rfl) (by simp [go_sem]) ?_
            refine cw_goR 99 (by simp only [go_sem]; try exact rfl) ?_
            refine cw_runN tabOK 1 (by simp only [go_sem]; exact rfl) (by simp only [go_sem]; exact rfl) (by simp only [go_sem]; try exact rfl) (by simp [go_sem]) ?_
            refine cw_step rfl (trip_nilI rfl (by kernel_rfl) (by simp only [go_sem]; try exact rfl) (X := .nili) (r := true) (q := false) (.inl ⟨rfl, rfl⟩) (.inr ⟨rfl, rfl⟩)) ?_
            refine cw_go tabOK 99 (by simp only [go_sem]; try exact rfl) (by simp [go_sem]) ?_
            refine cw_callC rfl (by simp only [go_sem]; try exact rfl) (by simp only [go_sem]; try exact rfl) (by simp [go_sem]) ⟨_, Go.Proofs.Tryd.func28, by kernel_rfl, rfl⟩ (by simp [go_sem]) (fun hb => (itoa_ok (numV w4) (numV_range w4).1 (numV_range w4).2)) (by simp [go_sem]) (by simp only [go_sem]; exact rfl) ?_
            refine cw_go tabOK 99 (by simp only [go_sem]; try exact rfl) (by simp [go_sem]) ?_
            refine cw_cond (by simp only [go_sem]; try exact rfl) trivial (fun h => ?_) (fun h => ?_)
            · have hf : numB w4 = false := by
                rw [heb]; simpa using h
              have hP2 : P = (zeroRec, 2) := by rw [← hPL]; simp [hf]
              rw [hP2]
              refine cw_go tabOK 99 (by simp only [go_sem]; try exact rfl) (by simp [go_sem]) ?_
              refine cw_ret ⟨_, _, by simp only [go_sem]; try exact rfl, by simp [go_sem], _, .inr (.inl rfl), ?_⟩
              rfl
            have ht : numB w4 = true := by
              rw [heb]; simpa using h
            refine cw_go tabOK 99 (by simp only [go_sem]; try exact rfl) (by simp [go_sem]) ?_
            refine cw_back ⟨4, ?_, by omega, le_sub ?_ ?_ ?_⟩
            · refine ⟨by omega, ?_⟩
              (repeat' apply And.intro) <;> (intro hj; first | exact ht | exact hb1 (by omega) | exact hb2 (by omega) | exact hb3 (by omega) | exact hb4 (by omega) | exact hb6 (by omega) | omega)
            · simp [go_sem, nnI, ntI, nmI, wr_small]
            · simp [go_sem, rowN]
            · simp [go_sem]
          · exfalso; simp at h
        · rw [hea] at hat
          refine cw_go tabOK 99 (by simp only [go_sem, cond_true, cond_false]; try exact rfl) (by simp [go_sem, cond_true, cond_false]) ?_
          refine cw_cond (by simp only [go_sem]; try exact rfl) trivial (fun h => ?_) (fun h => ?_)
          · refine cw_go tabOK 99 (by simp only [go_sem]; try exact rfl) (by simp [go_sem]) ?_
            refine cw_call rfl rfl (by simp only [go_sem]; try exact rfl) (by simp [go_sem]) ⟨_, Go.Proofs.Tryd.func38, by kernel_rfl, rfl⟩ (by simp [go_sem]) (hat) (by simp [go_sem]) (by simp only [go_sem]; exact rfl) ?_
            refine cw_runN tabOK 5 (by simp only [go_sem]; exact rfl) (by simp only [go_sem]; exact rfl) (by simp only [go_sem]; try exact rfl) (by simp [go_sem]) ?_
            refine cw_goR 99 (by simp only [go_sem]; try exact rfl) ?_
            refine cw_runN tabOK 1 (by simp only [go_sem]; exact rfl) (by simp only [go_sem]; exact rfl) (by simp only [go_sem]; try exact rfl) (by simp [go_sem]) ?_
            refine cw_step rfl (trip_nilI rfl (by kernel_rfl) (by simp only [go_sem]; try exact rfl) (X := .ifc) (r := false) (q := true) (.inr ⟨rfl, rfl⟩) (.inr ⟨rfl, rfl⟩)) ?_
            refine cw_go tabOK 99 (by simp only [go_sem]; try exact rfl) (by simp [go_sem]) ?_
            refine cw_callC rfl (by simp only [go_sem]; try exact rfl) (by simp only [go_sem]; try exact rfl) (by simp [go_sem]) ⟨_, Go.Proofs.Tryd.func28, by kernel_rfl, rfl⟩ (by simp [go_sem]) (fun hb => (itoa_ok (numV w4) (numV_range w4).1 (numV_range w4).2)) (by simp [go_sem]) (by simp only [go_sem]; exact rfl) ?_
            refine cw_go tabOK 99 (by simp only [go_sem]; try exact rfl) (by simp [go_sem]) ?_
            refine cw_cond (by simp only [go_sem]; try exact rfl) trivial (fun h => ?_) (fun h => ?_)
            · have hP2 : P = (zeroRec, 2) := by rw [← hPL]; simp [heb]
              rw [hP2]
              refine cw_go tabOK 99 (by simp only [go_sem]; try exact rfl) (by simp [go_sem]) ?_
              refine cw_ret ⟨_, _, by simp only [go_sem]; try exact rfl, by simp [go_sem], _, .inr (.inl rfl), ?_⟩
              rfl
            · cases h
          · exfalso; simp at h
      · simp at h
    · skip
      simp only [rowN, nnI, ntI, nmI, go_sem, Nat.reduceLeDiff, ↓reduceIte]
      refine cw_go tabOK 99 (by simp only [go_sem]; try exact rfl) (by simp [go_sem]) ?_
      refine cw_cond (by simp only [go_sem]; try exact rfl) trivial (fun h => ?_) (fun h => ?_)
      · skip
        refine cw_go tabOK 99 (by simp only [go_sem, cond_true, cond_false]; try exact rfl) (by simp [go_sem, cond_true, cond_false]) ?_
        refine cw_cond (by simp only [go_sem]; try exact rfl) trivial (fun h => ?_) (fun h => ?_)
        · exfalso; simp at h
        refine cw_go tabOK 99 (by simp only [go_sem]; try exact rfl) (by simp [go_sem]) ?_
        refine cw_cond (by simp only [go_sem]; try exact rfl) trivial (fun h => ?_) (fun h => ?_)
        · refine cw_go tabOK 99 (by simp only [go_sem]; try exact rfl) (by simp [go_sem]) ?_
          refine cw_callC rfl (by simp only [go_sem]; try exact rfl) (by simp only [go_sem]; try exact rfl) (by simp [go_sem]) ⟨_, Go.Proofs.Tryd.func12, by kernel_rfl, rfl⟩ (by simp [go_sem]) (fun hb => (rname_ok w5 (by omega))) (by simp [go_sem]) (by simp only [go_sem]; exact rfl) ?_
          refine cw_go tabOK 99 (by simp only [go_sem, cond_true, cond_false]; try exact rfl) (by simp [go_sem, cond_true, cond_false]) ?_
          refine cw_back ⟨5, ?_, by omega, le_sub ?_ ?_ ?_⟩
          · refine ⟨by omega, ?_⟩
            (repeat' apply And.intro) <;> (intro hj; first | exact hb1 (by omega) | exact hb2 (by omega) | exact hb3 (by omega) | exact hb4 (by omega) | exact hb6 (by omega) | omega)
          · simp [go_sem, nnI, ntI, nmI, cond_and, wr_small]
          · simp [go_sem, rowN]
          · simp [go_sem]
        · exfalso; simp at h
      · simp at h
    · skip
      simp only [rowN, nnI, ntI, nmI, go_sem, Nat.reduceLeDiff, ↓reduceIte]
      refine cw_go tabOK 99 (by simp only [go_sem]; try exact rfl) (by simp [go_sem]) ?_
      refine cw_cond (by simp only [go_sem]; try exact rfl) trivial (fun h => ?_) (fun h => ?_)
      · skip
        have hat := atoi_ok w6 (by omega)
        rcases errA_cases (s := w6) with ⟨hea, heb⟩ | ⟨hea, heb⟩
        · rw [hea] at hat
          refine cw_go tabOK 99 (by simp only [go_sem, cond_true, cond_false]; try exact rfl) (by simp [go_sem, cond_true, cond_false]) ?_
          refine cw_cond (by simp only [go_sem]; try exact rfl) trivial (fun h => ?_) (fun h => ?_)
          · refine cw_go tabOK 99 (by simp only [go_sem]; try exact rfl) (by simp [go_sem]) ?_
            refine cw_call rfl rfl (by simp only [go_sem]; try exact rfl) (by simp [go_sem]) ⟨_, Go.Proofs.Tryd.func38, by kernel_rfl, rfl⟩ (by simp [go_sem]) (hat) (by simp [go_sem]) (by simp only [go_sem]; exact rfl) ?_
            refine cw_runN tabOK 5 (by simp only [go_sem]; exact rfl) (by simp only [go_sem]; exact rfl) (by simp only [go_sem]; try exact rfl) (by simp [go_sem]) ?_
            refine cw_goR 99 (by simp only [go_sem]; try exact rfl) ?_
            refine cw_runN tabOK 1 (by simp only [go_sem]; exact rfl) (by simp only [go_sem]; exact rfl) (by simp only [go_sem]; try exact rfl) (by simp [go_sem]) ?_
            refine cw_step rfl (trip_nilI rfl (by kernel_rfl) (by simp only [go_sem]; try exact rfl) (X := .nili) (r := true) (q := false) (.inl ⟨rfl, rfl⟩) (.inr ⟨rfl, rfl⟩)) ?_
            refine cw_go tabOK 99 (by simp only [go_sem]; try exact rfl) (by simp [go_sem]) ?_
            refine cw_callC rfl (by simp only [go_sem]; try exact rfl) (by simp only [go_sem]; try exact rfl) (by simp [go_sem]) ⟨_, Go.Proofs.Tryd.func28, by kernel_rfl, rfl⟩ (by simp [go_sem]) (fun hb => (itoa_ok (numV w6) (numV_range w6).1 (numV_range w6).2)) (by simp [go_sem]) (by simp only [go_sem]; exact rfl) ?_
            refine cw_go tabOK 99 (by simp only [go_sem]; try exact rfl) (by simp [go_sem]) ?_
            refine cw_cond (by simp only [go_sem]; try exact rfl) trivial (fun h => ?_) (fun h => ?_)
            · have hf : numB w6 = false := by
                rw [heb]; simpa using h
              have hP2 : P = (zeroRec, 2) := by rw [← hPL]; simp [hf]
              rw [hP2]
              refine cw_go tabOK 99 (by simp only [go_sem]; try exact rfl) (by simp [go_sem]) ?_
              refine cw_ret ⟨_, _, by simp only [go_sem]; try exact rfl, by simp [go_sem], _, .inr (.inl rfl), ?_⟩
              rfl
            have ht : numB w6 = true := by
              rw [heb]; simpa using h
            refine cw_go tabOK 99 (by simp only [go_sem]; try exact rfl) (by simp [go_sem]) ?_
            refine cw_back ⟨6, ?_, by omega, le_sub ?_ ?_ ?_⟩
            · refine ⟨by omega, ?_⟩
              (repeat' apply And.intro) <;> (intro hj; first | exact ht | exact hb1 (by omega) | exact hb2 (by omega) | exact hb3 (by omega) | exact hb4 (by omega) | exact hb6 (by omega) | omega)
            · simp [go_sem, nnI, ntI, nmI, wr_small]
            · simp [go_sem, rowN]
            · simp [go_sem]
          · exfalso; simp at h
        · rw [hea] at hat
          refine cw_go tabOK 99 (by simp only [go_sem, cond_true, cond_false]; try exact rfl) (by simp [go_sem, cond_true, cond_false]) ?_
          refine cw_cond (by simp only [go_sem]; try exact rfl) trivial (fun h => ?_) (fun h => ?_)
          · refine cw_go tabOK 99 (by simp only [go_sem]; try exact rfl) (by simp [go_sem]) ?_
            refine cw_call rfl rfl (by simp only [go_sem]; try exact rfl) (by simp [go_sem]) ⟨_, Go.Proofs.Tryd.func38, by kernel_rfl, rfl⟩ (by simp [go_sem]) (hat) (by simp [go_sem]) (by simp only [go_sem]; exact rfl) ?_
            refine cw_runN tabOK 5 (by simp only [go_sem]; exact rfl) (by simp only [go_sem]; exact rfl) (by simp only [go_sem]; try exact rfl) (by simp [go_sem]) ?_
            refine cw_goR 99 (by simp only [go_sem]; try exact rfl) ?_
            refine cw_runN tabOK 1 (by simp only [go_sem]; exact rfl) (by simp only [go_sem]; exact rfl) (by simp only [go_sem]; try exact rfl) (by simp [go_sem]) ?_
            refine cw_step rfl (trip_nilI rfl (by kernel_rfl) (by simp only [go_sem]; try exact rfl) (X := .ifc) (r := false) (q := true) (.inr ⟨rfl, rfl⟩) (.inr ⟨rfl, rfl⟩)) ?_
            refine cw_go tabOK 99 (by simp only [go_sem]; try exact rfl) (by simp [go_sem]) ?_
            refine cw_callC rfl (by simp only [go_sem]; try exact rfl) (by simp only [go_sem]; try exact rfl) (by simp [go_sem]) ⟨_, Go.Proofs.Tryd.func28, by kernel_rfl, rfl⟩ (by simp [go_sem]) (fun hb => (itoa_ok (numV w6) (numV_range w6).1 (numV_range w6).2)) (by simp [go_sem]) (by simp only [go_sem]; exact rfl) ?_
            refine cw_go tabOK 99 (by simp only [go_sem]; try exact rfl) (by simp [go_sem]) ?_
            refine cw_cond (by simp only [go_sem]; try exact rfl) trivial (fun h => ?_) (fun h => ?_)
            · have hP2 : P = (zeroRec, 2) := by rw [← hPL]; simp [heb]
              rw [hP2]
              refine cw_go tabOK 99 (by simp only [go_sem]; try exact rfl) (by simp [go_sem]) ?_
              refine cw_ret ⟨_, _, by simp only [go_sem]; try exact rfl, by simp [go_sem], _, .inr (.inl rfl), ?_⟩
              rfl
            · cases h
          · exfalso; simp at h
      · simp at h
    · skip
      simp only [rowN, nnI, ntI, nmI, go_sem, Nat.reduceLeDiff, ↓reduceIte]
      refine cw_go tabOK 99 (by simp only [go_sem]; try exact rfl) (by simp [go_sem]) ?_
      refine cw_cond (by simp only [go_sem]; try exact rfl) trivial (fun h => ?_) (fun h => ?_)
      · skip
        refine cw_go tabOK 99 (by simp only [go_sem, cond_true, cond_false]; try exact rfl) (by simp [go_sem, cond_true, cond_false]) ?_
        refine cw_cond (by simp only [go_sem]; try exact rfl) trivial (fun h => ?_) (fun h => ?_)
        · exfalso; simp at h
        refine cw_go tabOK 99 (by simp only [go_sem]; try exact rfl) (by simp [go_sem]) ?_
        refine cw_cond (by simp only [go_sem]; try exact rfl) trivial (fun h => ?_) (fun h => ?_)
        · refine cw_go tabOK 99 (by simp only [go_sem]; try exact rfl) (by simp [go_sem]) ?_
          refine cw_callC rfl (by simp only [go_sem]; try exact rfl) (by simp only [go_sem]; try exact rfl) (by simp [go_sem]) ⟨_, Go.Proofs.Tryd.func12, by kernel_rfl, rfl⟩ (by simp [go_sem]) (fun hb => (rname_ok w7 (by omega))) (by simp [go_sem]) (by simp only [go_sem]; exact rfl) ?_
          refine cw_go tabOK 99 (by simp only [go_sem, cond_true, cond_false]; try exact rfl) (by simp [go_sem, cond_true, cond_false]) ?_
          refine cw_back ⟨7, ?_, by omega, le_sub ?_ ?_ ?_⟩
          · refine ⟨by omega, ?_⟩
            (repeat' apply And.intro) <;> (intro hj; first | exact hb1 (by omega) | exact hb2 (by omega) | exact hb3 (by omega) | exact hb4 (by omega) | exact hb6 (by omega) | omega)
          · simp [go_sem, nnI, ntI, nmI, cond_and, wr_small]
          · simp [go_sem, rowN]
          · simp [go_sem]
        · exfalso; simp at h
      · simp at h
    · skip
      simp only [rowN, nnI, ntI, nmI, go_sem, Nat.reduceLeDiff, ↓reduceIte]
      refine cw_go tabOK 99 (by simp only [go_sem]; try exact rfl) (by simp [go_sem]) ?_
      refine cw_cond (by simp only [go_sem]; try exact rfl) trivial (fun h => ?_) (fun h => ?_)
      · simp at h
      have k1 := hb1 (by omega)
      have k2 := hb2 (by omega)
      have k3 := hb3 (by omega)
      have k4 := hb4 (by omega)
      have k6 := hb6 (by omega)
      refine cw_go tabOK 99 (by simp only [go_sem]; try exact rfl) (by simp [go_sem]) ?_
      refine cw_cond (by simp only [go_sem]; try exact rfl) trivial (fun h => ?_) (fun h => ?_)
      · have hP2 : P = (zeroRec, 7) := by
          rw [← hPL]
          cases e5 : nameB w5 <;> cases e7 : nameB w7 <;> simp [e5, e7] at h <;> simp [k1, k2, k3, k4, k6]
        rw [hP2]
        refine cw_go tabOK 99 (by simp only [go_sem]; try exact rfl) (by simp [go_sem]) ?_
        refine cw_ret ⟨_, _, by simp only [go_sem]; try exact rfl, by simp [go_sem], _, .inr (.inl rfl), ?_⟩
        rfl
      · have hP2 : P = (⟨⟨5, numV w3, numV w4, w5, numV w6, w7, []⟩, numV w2, numV w1⟩, 0) := by
          rw [← hPL]
          cases e5 : nameB w5 <;> cases e7 : nameB w7 <;> simp [e5, e7] at h <;> simp [k1, k2, k3, k4, k6]
        rw [hP2]
        refine cw_go tabOK 99 (by simp only [go_sem]; try exact rfl) (by simp [go_sem]) ?_
        refine cw_ret ⟨_, _, by simp only [go_sem]; try exact rfl, by simp [go_sem], _, .inr (.inl rfl), ?_⟩
        simp [parseA, Eng.nrm, Eng.nrmL, recRow, nrm_bytes, Eng.nrmR]
  rw [if_neg h5] at hl
  obtain ⟨v0, w1, w2, w3, w4, w5, rfl⟩ : ∃ v0 w1 w2 w3 w4 w5, L = [v0, w1, w2, w3, w4, w5] := by
    match L, hl with
    | [a, b, c, d, e, f], _ => exact ⟨a, b, c, d, e, f, rfl⟩
  have m1 := hcp w1 (by simp)
  have m2 := hcp w2 (by simp)
  have m3 := hcp w3 (by simp)
  have m4 := hcp w4 (by simp)
  have m5 := hcp w5 (by simp)
  have hfm : formW k = [110, 110, 110, 110, 97] := by unfold formW; rw [if_neg h3, if_neg h5]
  rw [pl_six (by rw [← hkk, ← hw0]; rfl) h0 h3 h5] at hPL
  rw [hfm]
  clear hfm hne hcl hcp hw0 hg0 hw1 hL0 hl
  simp only [List.map_cons, List.map_nil, strRow]
  refine cw_go tabOK 99 (by simp only [go_sem]; try exact rfl) (by simp [go_sem]) ?_
  refine cw_loopS (fun i : Nat => i ≤ 5 ∧ (1 ≤ i → numB w1 = true) ∧ (2 ≤ i → numB w2 = true) ∧ (3 ≤ i → numB w3 = true) ∧ (4 ≤ i → numB w4 = true) ∧ (6 ≤ i → True)) (fun i => 5 - i) (fun i => [(9, .osl 65 1 (nnI i) (5 - nnI i)), (10, .osl 70 1 (ntI i) (2 - ntI i)), (11, .bool (nmI w5 [] i)), (12, .any), (13, .any), (14, .any), (15, .any), (16, .any), (17, .any), (18, .any), (74, .int .i64 i), (75, .any), (76, .any), (77, .any), (78, .any), (79, .any), (80, .any), (81, .any), (82, .any), (83, .any), (84, .any), (85, .any), (86, .any), (87, .any), (88, .any), (89, .any), (90, .any), (91, .any), (92, .any), (93, .any), (94, .any), (95, .any), (96, .any), (97, .any), (98, .any), (99, .any), (100, .any), (101, .any), (102, .any), (103, .any), (104, .any), (105, .any), (106, .any), (107, .any), (108, .any), (109, .any), (110, .any), (111, .any), (112, .any), (113, .any), (114, .any), (115, .any), (116, .any), (117, .any), (118, .any), (119, .any), (120, .any), (121, .any), (122, .any), (123, .any), (124, .any), (125, .any), (126, .any), (127, .any), (128, .any), (129, .any), (130, .any), (131, .any), (132, .any), (133, .any), (134, .any), (135, .any), (136, .any), (137, .any), (138, .any), (139, .any), (140, .any), (141, .any), (142, .any), (143, .any), (144, .any), (145, .any), (146, .any), (147, .any), (148, .any), (149, .any), (150, .any), (151, .any), (152, .any), (153, .any), (154, .any), (155, .any), (156, .any), (157, .any), (158, .any), (159, .any), (160, .any), (161, .any), (162, .any), (163, .any), (164, .any)]) (fun i => [(5, .cells 36 9 [rowN k w1 w2 w3 w4 w5 [] [] i])]) 0 ⟨by omega, by omega, by omega, by omega, by omega, by omega⟩ ?_ fun i hi => ?_
  · simp only [go_sem]
    exact le_sub (by simp [go_sem, nnI, ntI, nmI]) (by simp [go_sem, rowN]) (by simp [go_sem, rowN])
  obtain ⟨hi, hb1, hb2, hb3, hb4, hb6⟩ := hi
  rcases (show i = 0 ∨ i = 1 ∨ i = 2 ∨ i = 3 ∨ i = 4 ∨ i = 5 by omega) with rfl | rfl | rfl | rfl | rfl | rfl
  · skip
    simp only [rowN, nnI, ntI, nmI, go_sem, Nat.reduceLeDiff, ↓reduceIte]
    refine cw_go tabOK 99 (by simp only [go_sem]; try exact rfl) (by simp [go_sem]) ?_
    refine cw_cond (by simp only [go_sem]; try exact rfl) trivial (fun h => ?_) (fun h => ?_)
    · skip
      have hat := atoi_ok w1 (by omega)
      rcases errA_cases (s := w1) with ⟨hea, heb⟩ | ⟨hea, heb⟩
      · rw [hea] at hat
        refine cw_go tabOK 99 (by simp only [go_sem, cond_true, cond_false]; try exact rfl) (by simp [go_sem, cond_true, cond_false]) ?_
        refine cw_cond (by simp only [go_sem]; try exact rfl) trivial (fun h => ?_) (fun h => ?_)
        · refine cw_go tabOK 99 (by simp only [go_sem]; try exact rfl) (by simp [go_sem]) ?_
          refine cw_call rfl rfl (by simp only [go_sem]; try exact rfl) (by simp [go_sem]) ⟨_, Go.Proofs.Tryd.func38, by kernel_rfl, rfl⟩ (by simp [go_sem]) (hat) (by simp [go_sem]) (by simp only [go_sem]; exact rfl) ?_
          refine cw_runN tabOK 5 (by simp only [go_sem]; exact rfl) (by simp only [go_sem]; exact rfl) (by simp only [go_sem]; try exact rfl) (by simp [go_sem]) ?_
          refine cw_goR 99 (by simp only [go_sem]; try exact rfl) ?_
          refine cw_runN tabOK 1 (by simp only [go_sem]; exact rfl) (by simp only [go_sem]; exact rfl) (by simp only [go_sem]; try exact rfl) (by simp [go_sem]) ?_
          refine cw_step rfl (trip_nilI rfl (by kernel_rfl) (by simp only [go_sem]; try exact rfl) (X := .nili) (r := true) (q := false) (.inl ⟨rfl, rfl⟩) (.inr ⟨rfl, rfl⟩)) ?_
          refine cw_go tabOK 99 (by simp only [go_sem]; try exact rfl) (by simp [go_sem]) ?_
          refine cw_callC rfl (by simp only [go_sem]; try exact rfl) (by simp only [go_sem]; try exact rfl) (by simp [go_sem]) ⟨_, Go.Proofs.Tryd.func28, by kernel_rfl, rfl⟩ (by simp [go_sem]) (fun hb => (itoa_ok (numV w1) (numV_range w1).1 (numV_range w1).2)) (by simp [go_sem]) (by simp only [go_sem]; exact rfl) ?_
          refine cw_go tabOK 99 (by simp only [go_sem]; try exact rfl) (by simp [go_sem]) ?_
          refine cw_cond (by simp only [go_sem]; try exact rfl) trivial (fun h => ?_) (fun h => ?_)
          · have hf : numB w1 = false := by
              rw [heb]; simpa using h
            have hP2 : P = (zeroRec, 2) := by rw [← hPL]; simp [hf]
            rw [hP2]
            refine cw_go tabOK 99 (by simp only [go_sem]; try exact rfl) (by simp [go_sem]) ?_
            refine cw_ret ⟨_, _, by simp only [go_sem]; try exact rfl, by simp [go_sem], _, .inr (.inl rfl), ?_⟩
            rfl
          have ht : numB w1 = true := by
            rw [heb]; simpa using h
          refine cw_go tabOK 99 (by simp only [go_sem]; try exact rfl) (by simp [go_sem]) ?_
          refine cw_back ⟨1, ?_, by omega, le_sub ?_ ?_ ?_⟩
          · refine ⟨by omega, ?_⟩
            (repeat' apply And.intro) <;> (intro hj; first | exact ht | exact hb1 (by omega) | exact hb2 (by omega) | exact hb3 (by omega) | exact hb4 (by omega) | exact hb6 (by omega) | omega)
          · simp [go_sem, nnI, ntI, nmI, wr_small]
          · simp [go_sem, rowN]
          · simp [go_sem]
        · exfalso; simp at h
      · rw [hea] at hat
        refine cw_go tabOK 99 (by simp only [go_sem, cond_true, cond_false]; try exact rfl) (by simp [go_sem, cond_true, cond_false]) ?_
        refine cw_cond (by simp only [go_sem]; try exact rfl) trivial (fun h => ?_) (fun h => ?_)
        · refine cw_go tabOK 99 (by simp only [go_sem]; try exact rfl) (by simp [go_sem]) ?_
          refine cw_call rfl rfl (by simp only [go_sem]; try exact rfl) (by simp [go_sem]) ⟨_, Go.Proofs.Tryd.func38, by kernel_rfl, rfl⟩ (by simp [go_sem]) (hat) (by simp [go_sem]) (by simp only [go_sem]; exact rfl) ?_
          refine cw_runN tabOK 5 (by simp only [go_sem]; exact rfl) (by simp only [go_sem]; exact rfl) (by simp only [go_sem]; try exact rfl) (by simp [go_sem]) ?_
          refine cw_goR 99 (by simp only [go_sem]; try exact rfl) ?_
          refine cw_runN tabOK 1 (by simp only [go_sem]; exact rfl) (by simp only [go_sem]; exact rfl) (by simp only [go_sem]; try exact rfl) (by simp [go_sem]) ?_
          refine cw_step rfl (trip_nilI rfl (by kernel_rfl) (by simp only [go_sem]; try exact rfl) (X := .ifc) (r := false) (q := true) (.inr ⟨rfl, rfl⟩) (.inr ⟨rfl, rfl⟩)) ?_
          refine cw_go tabOK 99 (by simp only [go_sem]; try exact rfl) (by simp [go_sem]) ?_
          refine cw_callC rfl (by simp only [go_sem]; try exact rfl) (by simp only [go_sem]; try exact rfl) (by simp [go_sem]) ⟨_, Go.Proofs.Tryd.func28, by kernel_rfl, rfl⟩ (by simp [go_sem]) (fun hb => (itoa_ok (numV w1) (numV_range w1).1 (numV_range w1).2)) (by simp [go_sem]) (by simp only [go_sem]; exact rfl) ?_
          refine cw_go tabOK 99 (by simp only [go_sem]; try exact rfl) (by simp [go_sem]) ?_
          refine cw_cond (by simp only [go_sem]; try exact rfl) trivial (fun h => ?_) (fun h => ?_)
          · have hP2 : P = (zeroRec, 2) := by rw [← hPL]; simp [heb]
            rw [hP2]
            refine cw_go tabOK 99 (by simp only [go_sem]; try exact rfl) (by simp [go_sem]) ?_
            refine cw_ret ⟨_, _, by simp only [go_sem]; try exact rfl, by simp [go_sem], _, .inr (.inl rfl), ?_⟩
            rfl
          · cases h
        · exfalso; simp at h
    · simp at h
  · skip
    simp only [rowN, nnI, ntI, nmI, go_sem, Nat.reduceLeDiff, ↓reduceIte]
    refine cw_go tabOK 99 (by simp only [go_sem]; try exact rfl) (by simp [go_sem]) ?_
    refine cw_cond (by simp only [go_sem]; try exact rfl) trivial (fun h => ?_) (fun h => ?_)
    · skip
      have hat := atoi_ok w2 (by omega)
      rcases errA_cases (s := w2) with ⟨hea, heb⟩ | ⟨hea, heb⟩
      · rw [hea] at hat
        refine cw_go tabOK 99 (by simp only [go_sem, cond_true, cond_false]; try exact rfl) (by simp [go_sem, cond_true, cond_false]) ?_
        refine cw_cond (by simp only [go_sem]; try exact rfl) trivial (fun h => ?_) (fun h => ?_)
        · refine cw_go tabOK 99 (by simp only [go_sem]; try exact rfl) (by simp [go_sem]) ?_
          refine cw_call rfl rfl (by simp only [go_sem]; try exact rfl) (by simp [go_sem]) ⟨_, Go.Proofs.Tryd.func38, by kernel_rfl, rfl⟩ (by simp [go_sem]) (hat) (by simp [go_sem]) (by simp only [go_sem]; exact rfl) ?_
          refine cw_runN tabOK 5 (by simp only [go_sem]; exact rfl) (by simp only [go_sem]; exact rfl) (by simp only [go_sem]; try exact rfl) (by simp [go_sem]) ?_
          refine cw_goR 99 (by simp only [go_sem]; try exact rfl) ?_
          refine cw_runN tabOK 1 (by simp only [go_sem]; exact rfl) (by simp only [go_sem]; exact rfl) (by simp only [go_sem]; try exact rfl) (by simp [go_sem]) ?_
          refine cw_step rfl (trip_nilI rfl (by kernel_rfl) (by simp only [go_sem]; try exact rfl) (X := .nili) (r := true) (q := false) (.inl ⟨rfl, rfl⟩) (.inr ⟨rfl, rfl⟩)) ?_
          refine cw_go tabOK 99 (by simp only [go_sem]; try exact rfl) (by simp [go_sem]) ?_
          refine cw_callC rfl (by simp only [go_sem]; try exact rfl) (by simp only [go_sem]; try exact rfl) (by simp [go_sem]) ⟨_, Go.Proofs.Tryd.func28, by kernel_rfl, rfl⟩ (by simp [go_sem]) (fun hb => (itoa_ok (numV w2) (numV_range w2).1 (numV_range w2).2)) (by simp [go_sem]) (by simp only [go_sem]; exact rfl) ?_
          refine cw_go tabOK 99 (by simp only [go_sem]; try exact rfl) (by simp [go_sem]) ?_
          refine cw_cond (by simp only [go_sem]; try exact rfl) trivial (fun h => ?_) (fun h => ?_)
          · have hf : numB w2 = false := by
              rw [heb]; simpa using h
            have hP2 : P = (zeroRec, 2) := by rw [← hPL]; simp [hf]
            rw [hP2]
            refine cw_go tabOK 99 (by simp only [go_sem]; try exact rfl) (by simp [go_sem]) ?_
            refine cw_ret ⟨_, _, by simp only [go_sem]; try exact rfl, by simp [go_sem], _, .inr (.inl rfl), ?_⟩
            rfl
          have ht : numB w2 = true := by
            rw [heb]; simpa using h
          refine cw_go tabOK 99 (by simp only [go_sem]; try exact rfl) (by simp [go_sem]) ?_
          refine cw_back ⟨2, ?_, by omega, le_sub ?_ ?_ ?_⟩
          · refine ⟨by omega, ?_⟩
            (repeat' apply And.intro) <;> (intro hj; first | exact ht | exact hb1 (by omega) | exact hb2 (by omega) | exact hb3 (by omega) | exact hb4 (by omega) | exact hb6 (by omega) | omega)
          · simp [go_sem, nnI, ntI, nmI, wr_small]
          · simp [go_sem, rowN]
          · simp [go_sem]
        · exfalso; simp at h
      · rw [hea] at hat
        refine cw_go tabOK 99 (by simp only [go_sem, cond_true, cond_false]; try exact rfl) (by simp [go_sem, cond_true, cond_false]) ?_
        refine cw_cond (by simp only [go_sem]; try exact rfl) trivial (fun h => ?_) (fun h => ?_)
        · refine cw_go tabOK 99 (by simp only [go_sem]; try exact rfl) (by simp [go_sem]) ?_
          refine cw_call rfl rfl (by simp only [go_sem]; try exact rfl) (by simp [go_sem]) ⟨_, Go.Proofs.Tryd.func38, by kernel_rfl, rfl⟩ (by simp [go_sem]) (hat) (by simp [go_sem]) (by simp only [go_sem]; exact rfl) ?_
          refine cw_runN tabOK 5 (by simp only [go_sem]; exact rfl) (by simp only [go_sem]; exact rfl) (by simp only [go_sem]; try exact rfl) (by simp [go_sem]) ?_
          refine cw_goR 99 (by simp only [go_sem]; try exact rfl) ?_
          refine cw_runN tabOK 1 (by simp only [go_sem]; exact rfl) (by simp only [go_sem]; exact rfl) (by simp only [go_sem]; try exact rfl) (by simp [go_sem]) ?_
          refine cw_step rfl (trip_nilI rfl (by kernel_rfl) (by simp only [go_sem]; try exact rfl) (X := .ifc) (r := false) (q := true) (.inr ⟨rfl, rfl⟩) (.inr ⟨rfl, rfl⟩)) ?_
          refine cw_go tabOK 99 (by simp only [go_sem]; try exact rfl) (by simp [go_sem]) ?_
          refine cw_callC rfl (by simp only [go_sem]; try exact rfl) (by simp only [go_sem]; try exact rfl) (by simp [go_sem]) ⟨_, Go.Proofs.Tryd.func28, by kernel_rfl, rfl⟩ (by simp [go_sem]) (fun hb => (itoa_ok (numV w2) (numV_range w2).1 (numV_range w2).2)) (by simp [go_sem]) (by simp only [go_sem]; exact rfl) ?_
          refine cw_go tabOK 99 (by simp only [go_sem]; try exact rfl) (by simp [go_sem]) ?_
          refine cw_cond (by simp only [go_sem]; try exact rfl) trivial (fun h => ?_) (fun h => ?_)
          · have hP2 : P = (zeroRec, 2) := by rw [← hPL]; simp [heb]
            rw [hP2]
            refine cw_go tabOK 99 (by simp only [go_sem]; try exact rfl) (by simp [go_sem]) ?_
            refine cw_ret ⟨_, _, by simp only [go_sem]; try exact rfl, by simp [go_sem], _, .inr (.inl rfl), ?_⟩
            rfl
          · cases h
        · exfalso; simp at h
    · simp at h
  · skip
    simp only [rowN, nnI, ntI, nmI, go_sem, Nat.reduceLeDiff, ↓reduceIte]
    refine cw_go tabOK 99 (by simp only [go_sem]; try exact rfl) (by simp [go_sem]) ?_
    refine cw_cond (by simp only [go_sem]; try exact rfl) trivial (fun h => ?_) (fun h => ?_)
    · skip
      have hat := atoi_ok w3 (by omega)
      rcases errA_cases (s := w3) with ⟨hea, heb⟩ | ⟨hea, heb⟩
      · rw [hea] at hat
        refine cw_go tabOK 99 (by simp only [go_sem, cond_true, cond_false]; try exact rfl) (by simp [go_sem, cond_true, cond_false]) ?_
        refine cw_cond (by simp only [go_sem]; try exact rfl) trivial (fun h => ?_) (fun h => ?_)
        · refine cw_go tabOK 99 (by simp only [go_sem]; try exact rfl) (by simp [go_sem]) ?_
          refine cw_call rfl rfl (by simp only [go_sem]; try exact rfl) (by simp [go_sem]) ⟨_, Go.Proofs.Tryd.func38, by kernel_rfl, rfl⟩ (by simp [go_sem]) (hat) (by simp [go_sem]) (by simp only [go_sem]; exact rfl) ?_
          refine cw_runN tabOK 5 (by simp only [go_sem]; exact rfl) (by simp only [go_sem]; exact rfl) (by simp only [go_sem]; try exact rfl) (by simp [go_sem]) ?_
          refine cw_goR 99 (by simp only [go_sem]; try exact rfl) ?_
          refine cw_runN tabOK 1 (by simp only [go_sem]; exact rfl) (by simp only [go_sem]; exact rfl) (by simp only [go_sem]; try exact rfl) (by simp [go_sem]) ?_
          refine cw_step rfl (trip_nilI rfl (by kernel_rfl) (by simp only [go_sem]; try exact rfl) (X := .nili) (r := true) (q := false) (.inl ⟨rfl, rfl⟩) (.inr ⟨rfl, rfl⟩)) ?_
          refine cw_go tabOK 99 (by simp only [go_sem]; try exact rfl) (by simp [go_sem]) ?_
          refine cw_callC rfl (by simp only [go_sem]; try exact rfl) (by simp only [go_sem]; try exact rfl) (by simp [go_sem]) ⟨_, Go.Proofs.Tryd.func28, by kernel_rfl, rfl⟩ (by simp [go_sem]) (fun hb => (itoa_ok (numV w3) (numV_range w3).1 (numV_range w3).2)) (by simp [go_sem]) (by simp only [go_sem]; exact rfl) ?_
          refine cw_go tabOK 99 (by simp only [go_sem]; try exact rfl) (by simp [go_sem]) ?_
          refine cw_cond (by simp only [go_sem]; try exact rfl) trivial (fun h => ?_) (fun h => ?_)
          · have hf : numB w3 = false := by
              rw [heb]; simpa using h
            have hP2 : P = (zeroRec, 2) := by rw [← hPL]; simp [hf]
            rw [hP2]
            refine cw_go tabOK 99 (by simp only [go_sem]; try exact rfl) (by simp [go_sem]) ?_
            refine cw_ret ⟨_, _, by simp only [go_sem]; try exact rfl, by simp [go_sem], _, .inr (.inl rfl), ?_⟩
            rfl
          have ht : numB w3 = true := by
            rw [heb]; simpa using h
          refine cw_go tabOK 99 (by simp only [go_sem]; try exact rfl) (by simp [go_sem]) ?_
          refine cw_back ⟨3, ?_, by omega, le_sub ?_ ?_ ?_⟩
          · refine ⟨by omega, ?_⟩
            (repeat' apply And.intro) <;> (intro hj; first | exact ht | exact hb1 (by omega) | exact hb2 (by omega) | exact hb3 (by omega) | exact hb4 (by omega) | exact hb6 (by omega) | omega)
          · simp [go_sem, nnI, ntI, nmI, wr_small]
          · simp [go_sem, rowN]
          · simp [go_sem]
        · exfalso; simp at h
      · rw [hea] at hat
        refine cw_go tabOK 99 (by simp only [go_sem, cond_true, cond_false]; try exact rfl) (by simp [go_sem, cond_true, cond_false]) ?_
        refine cw_cond (by simp only [go_sem]; try exact rfl) trivial (fun h => ?_) (fun h => ?_)
        · refine cw_go tabOK 99 (by simp only [go_sem]; try exact rfl) (by simp [go_sem]) ?_
          refine cw_call rfl rfl (by simp only [go_sem]; try exact rfl) (by simp [go_sem]) ⟨_, Go.Proofs.Tryd.func38, by kernel_rfl, rfl⟩ (by simp [go_sem]) (hat) (by simp [go_sem]) (by simp only [go_sem]; exact rfl) ?_
          refine cw_runN tabOK 5 (by simp only [go_sem]; exact rfl) (by simp only [go_sem]; exact rfl) (by simp only [go_sem]; try exact rfl) (by simp [go_sem]) ?_
          refine cw_goR 99 (by simp only [go_sem]; try exact rfl) ?_
          refine cw_runN tabOK 1 (by simp only [go_sem]; exact rfl) (by simp only [go_sem]; exact rfl) (by simp only [go_sem]; try exact rfl) (by simp [go_sem]) ?_
          refine cw_step rfl (trip_nilI rfl (by kernel_rfl) (by simp only [go_sem]; try exact rfl) (X := .ifc) (r := false) (q := true) (.inr ⟨rfl, rfl⟩) (.inr ⟨rfl, rfl⟩)) ?_
          refine cw_go tabOK 99 (by simp only [go_sem]; try exact rfl) (by simp [go_sem]) ?_
          refine cw_callC rfl (by simp only [go_sem]; try exact rfl) (by simp only [go_sem]; try exact rfl) (by simp [go_sem]) ⟨_, Go.Proofs.Tryd.func28, by kernel_rfl, rfl⟩ (by simp [go_sem]) (fun hb => (itoa_ok (numV w3) (numV_range w3).1 (numV_range w3).2)) (by simp [go_sem]) (by simp only [go_sem]; exact rfl) ?_
          refine cw_go tabOK 99 (by simp only [go_sem]; try exact rfl) (by simp [go_sem]) ?_
          refine cw_cond (by simp only [go_sem]; try exact rfl) trivial (fun h => ?_) (fun h => ?_)
          · have hP2 : P = (zeroRec, 2) := by rw [← hPL]; simp [heb]
            rw [hP2]
            refine cw_go tabOK 99 (by simp only [go_sem]; try exact rfl) (by simp [go_sem]) ?_
            refine cw_ret ⟨_, _, by simp only [go_sem]; try exact rfl, by simp [go_sem], _, .inr (.inl rfl), ?_⟩
            rfl
          · cases h
        · exfalso; simp at h
    · simp at h
  · skip
    simp only [rowN, nnI, ntI, nmI, go_sem, Nat.reduceLeDiff, ↓reduceIte]
    refine cw_go tabOK 99 (by simp only [go_sem]; try exact rfl) (by simp [go_sem]) ?_
    refine cw_cond (by simp only [go_sem]; try exact rfl) trivial (fun h => ?_) (fun h => ?_)
    · skip
      have hat := atoi_ok w4 (by omega)
      rcases errA_cases (s := w4) with ⟨hea, heb⟩ | ⟨hea, heb⟩
      · rw [hea] at hat
        refine cw_go tabOK 99 (by simp only [go_sem, cond_true, cond_false]; try exact rfl) (by simp [go_sem, cond_true, cond_false]) ?_
        refine cw_cond (by simp only [go_sem]; try exact rfl) trivial (fun h => ?_) (fun h => ?_)
        · refine cw_go tabOK 99 (by simp only [go_sem]; try exact rfl) (by simp [go_sem]) ?_
          refine cw_call rfl rfl (by simp only [go_sem]; try exact rfl) (by simp [go_sem]) ⟨_, Go.Proofs.Tryd.func38, by kernel_rfl, rfl⟩ (by simp [go_sem]) (hat) (by simp [go_sem]) (by simp only [go_sem]; exact rfl) ?_
          refine cw_runN tabOK 5 (by simp only [go_sem]; exact rfl) (by simp only [go_sem]; exact rfl) (by simp only [go_sem]; try exact rfl) (by simp [go_sem]) ?_
          refine cw_goR 99 (by simp only [go_sem]; try exact rfl) ?_
          refine cw_runN tabOK 1 (by simp only [go_sem]; exact rfl) (by simp only [go_sem]; exact rfl) (by simp only [go_sem]; try exact rfl) (by simp [go_sem]) ?_
          refine cw_step rfl (trip_nilI rfl (by kernel_rfl) (by simp only [go_sem]; try exact rfl) (X := .nili) (r := true) (q := false) (.inl ⟨rfl, rfl⟩) (.inr ⟨rfl, rfl⟩)) ?_
          refine cw_go tabOK 99 (by simp only [go_sem]; try exact rfl) (by simp [go_sem]) ?_
          refine cw_callC rfl (by simp only [go_sem]; try exact rfl) (by simp only [go_sem]; try exact rfl) (by simp [go_sem]) ⟨_, Go.Proofs.Tryd.func28, by kernel_rfl, rfl⟩ (by simp [go_sem]) (fun hb => (itoa_ok (numV w4) (numV_range w4).1 (numV_range w4).2)) (by simp [go_sem]) (by simp only [go_sem]; exact rfl) ?_
          refine cw_go tabOK 99 (by simp only [go_sem]; try exact rfl) (by simp [go_sem]) ?_
          refine cw_cond (by simp only [go_sem]; try exact rfl) trivial (fun h => ?_) (fun h => ?_)
          · have hf : numB w4 = false := by
              rw [heb]; simpa using h
            have hP2 : P = (zeroRec, 2) := by rw [← hPL]; simp [hf]
            rw [hP2]
            refine cw_go tabOK 99 (by simp only [go_sem]; try exact rfl) (by simp [go_sem]) ?_
            refine cw_ret ⟨_, _, by simp only [go_sem]; try exact rfl, by simp [go_sem], _, .inr (.inl rfl), ?_⟩
            rfl
          have ht : numB w4 = true := by
            rw [heb]; simpa using h
          refine cw_go tabOK 99 (by simp only [go_sem]; try exact rfl) (by simp [go_sem]) ?_
          refine cw_back ⟨4, ?_, by omega, le_sub ?_ ?_ ?_⟩
          · refine ⟨by omega, ?_⟩
            (repeat' apply And.intro) <;> (intro hj; first | exact ht | exact hb1 (by omega) | exact hb2 (by omega) | exact hb3 (by omega) | exact hb4 (by omega) | exact hb6 (by omega) | omega)
          · simp [go_sem, nnI, ntI, nmI, wr_small]
          · simp [go_sem, rowN]
          · simp [go_sem]
        · exfalso; simp at h
      · rw [hea] at hat
        refine cw_go tabOK 99 (by simp only [go_sem, cond_true, cond_false]; try exact rfl) (by simp [go_sem, cond_true, cond_false]) ?_
        refine cw_cond (by simp only [go_sem]; try exact rfl) trivial (fun h => ?_) (fun h => ?_)
        · refine cw_go tabOK 99 (by simp only [go_sem]; try exact rfl) (by simp [go_sem]) ?_
          refine cw_call rfl rfl (by simp only [go_sem]; try exact rfl) (by simp [go_sem]) ⟨_, Go.Proofs.Tryd.func38, by kernel_rfl, rfl⟩ (by simp [go_sem]) (hat) (by simp [go_sem]) (by simp only [go_sem]; exact rfl) ?_
          refine cw_runN tabOK 5 (by simp only [go_sem]; exact rfl) (by simp only [go_sem]; exact rfl) (by simp only [go_sem]; try exact rfl) (by simp [go_sem]) ?_
          refine cw_goR 99 (by simp only [go_sem]; try exact rfl) ?_
          refine cw_runN tabOK 1 (by simp only [go_sem]; exact rfl) (by simp only [go_sem]; exact rfl) (by simp only [go_sem]; try exact rfl) (by simp [go_sem]) ?_
          refine cw_step rfl (trip_nilI rfl (by kernel_rfl) (by simp only [go_sem]; try exact rfl) (X := .ifc) (r := false) (q := true) (.inr ⟨rfl, rfl⟩) (.inr ⟨rfl, rfl⟩)) ?_
          refine cw_go tabOK 99 (by simp only [go_sem]; try exact rfl) (by simp [go_sem]) ?_
          refine cw_callC rfl (by simp only [go_sem]; try exact rfl) (by simp only [go_sem]; try exact rfl) (by simp [go_sem]) ⟨_, Go.Proofs.Tryd.func28, by kernel_rfl, rfl⟩ (by simp [go_sem]) (fun hb => (itoa_ok (numV w4) (numV_range w4).1 (numV_range w4).2)) (by simp [go_sem]) (by simp only [go_sem]; exact rfl) ?_
          refine cw_go tabOK 99 (by simp only [go_sem]; try exact rfl) (by simp [go_sem]) ?_
          refine cw_cond (by simp only [go_sem]; try exact rfl) trivial (fun h => ?_) (fun h => ?_)
          · have hP2 : P = (zeroRec, 2) := by rw [← hPL]; simp [heb]
            rw [hP2]
            refine cw_go tabOK 99 (by simp only [go_sem]; try exact rfl) (by simp [go_sem]) ?_
            refine cw_ret ⟨_, _, by simp only [go_sem]; try exact rfl, by simp [go_sem], _, .inr (.inl rfl), ?_⟩
            rfl
          · cases h
        · exfalso; simp at h
    · simp at h
  · skip
    simp only [rowN, nnI, ntI, nmI, go_sem, Nat.reduceLeDiff, ↓reduceIte]
    refine cw_go tabOK 99 (by simp only [go_sem]; try exact rfl) (by simp [go_sem]) ?_
    refine cw_cond (by simp only [go_sem]; try exact rfl) trivial (fun h => ?_) (fun h => ?_)
    · skip
      refine cw_go tabOK 99 (by simp only [go_sem, cond_true, cond_false]; try exact rfl) (by simp [go_sem, cond_true, cond_false]) ?_
      refine cw_cond (by simp only [go_sem]; try exact rfl) trivial (fun h => ?_) (fun h => ?_)
      · exfalso; simp at h
      refine cw_go tabOK 99 (by simp only [go_sem]; try exact rfl) (by simp [go_sem]) ?_
      refine cw_cond (by simp only [go_sem]; try exact rfl) trivial (fun h => ?_) (fun h => ?_)
      · refine cw_go tabOK 99 (by simp only [go_sem]; try exact rfl) (by simp [go_sem]) ?_
        refine cw_callC rfl (by simp only [go_sem]; try exact rfl) (by simp only [go_sem]; try exact rfl) (by simp [go_sem]) ⟨_, Go.Proofs.Tryd.func12, by kernel_rfl, rfl⟩ (by simp [go_sem]) (fun hb => (rname_ok w5 (by omega))) (by simp [go_sem]) (by simp only [go_sem]; exact rfl) ?_
        refine cw_go tabOK 99 (by simp only [go_sem, cond_true, cond_false]; try exact rfl) (by simp [go_sem, cond_true, cond_false]) ?_
        refine cw_back ⟨5, ?_, by omega, le_sub ?_ ?_ ?_⟩
        · refine ⟨by omega, ?_⟩
          (repeat' apply And.intro) <;> (intro hj; first | exact hb1 (by omega) | exact hb2 (by omega) | exact hb3 (by omega) | exact hb4 (by omega) | exact hb6 (by omega) | omega)
        · simp [go_sem, nnI, ntI, nmI, cond_and, wr_small]
        · simp [go_sem, rowN]
        · simp [go_sem]
      · exfalso; simp at h
    · simp at h
  · skip
    simp only [rowN, nnI, ntI, nmI, go_sem, Nat.reduceLeDiff, ↓reduceIte]
    refine cw_go tabOK 99 (by simp only [go_sem]; try exact rfl) (by simp [go_sem]) ?_
    refine cw_cond (by simp only [go_sem]; try exact rfl) trivial (fun h => ?_) (fun h => ?_)
    · simp at h
    have k1 := hb1 (by omega)
    have k2 := hb2 (by omega)
    have k3 := hb3 (by omega)
    have k4 := hb4 (by omega)
    refine cw_go tabOK 99 (by simp only [go_sem]; try exact rfl) (by simp [go_sem]) ?_
    refine cw_cond (by simp only [go_sem]; try exact rfl) trivial (fun h => ?_) (fun h => ?_)
    · have hf : nameB w5 = false := by simpa using h
      have hP2 : P = (zeroRec, 7) := by rw [← hPL]; simp [k1, k2, k3, k4, hf]
      rw [hP2]
      refine cw_go tabOK 99 (by simp only [go_sem]; try exact rfl) (by simp [go_sem]) ?_
      refine cw_ret ⟨_, _, by simp only [go_sem]; try exact rfl, by simp [go_sem], _, .inr (.inl rfl), ?_⟩
      rfl
    · have hf : nameB w5 = true := by simpa using h
      have hP2 : P = (⟨⟨k, numV w3, numV w4, w5, 0, [], []⟩, numV w2, numV w1⟩, 0) := by rw [← hPL]; simp [k1, k2, k3, k4, hf]
      rw [hP2]
      refine cw_go tabOK 99 (by simp only [go_sem]; try exact rfl) (by simp [go_sem]) ?_
      refine cw_ret ⟨_, _, by simp only [go_sem]; try exact rfl, by simp [go_sem], _, .inr (.inl rfl), ?_⟩
      simp [parseA, Eng.nrm, Eng.nrmL, recRow, nrm_bytes, Eng.nrmR]

theorem rline_ok (s : List UInt8) (hs : s.length ≤ 10000000) : FnOK Tryd.prog 19 [.str s] [] (fun r _ => r = parseA (parseR s)) := fn_nrmP (rline_raw s hs)
theorem rline_at {s : List UInt8} {r : Rec} {e : Int} (h : parseR s = (r, e)) (hs : s.length ≤ 10000000) : FnOK Tryd.prog 19 [.str s] [] (fun x _ => x = .tup [.agg (recRow r), .int .i64 e]) := by
  have := rline_ok s hs
  rw [h] at this
  exact this
end La

namespace La
open Go Go.Eng Go.Proofs
set_option maxRecDepth 10000
set_option linter.unusedSimpArgs false
set_option linter.unusedVariables false

/-- how far one came: so many lines, their records -/
def Lining (L : List (List UInt8)) (i : Nat) (done : List Rec) : Prop :=
  i + 1 ≤ L.length ∧ done.length = i ∧ goL L = if (goL (L.drop i)).2 ≠ 0 then ([], (goL (L.drop i)).2) else (done ++ (goL (L.drop i)).1, 0)

theorem lining_start {L : List (List UInt8)} (h : L ≠ []) : Lining L 0 [] := by
  refine ⟨List.length_pos_iff.2 h, rfl, ?_⟩
  rw [List.drop_zero]
  split
  · rename_i h0; rw [← go_err _ h0]
  · rename_i h0; rw [List.nil_append, ← Decidable.of_not_not h0]

theorem lining_step {L : List (List UInt8)} {i : Nat} {done : List Rec} (h : Lining L i done) (hi : i + 1 < L.length) {r : Rec} (hp : parseR (L.getD i []) = (r, 0)) : Lining L (i + 1) (done ++ [r]) := by
  obtain ⟨_, h2, h3⟩ := h
  refine ⟨hi, by simp [h2], ?_⟩
  have hd : L.drop i = L.getD i [] :: L.drop (i + 1) := by
    rw [List.drop_eq_getElem_cons (by omega), List.getD_eq_getElem?_getD, List.getElem?_eq_getElem (by omega)]; rfl
  have hne : L.drop (i + 1) ≠ [] := fun e => by
    have := congrArg List.length e
    rw [List.length_drop] at this
    simp at this
    omega
  rw [h3, hd, goL_cons _ hne, hp]
  by_cases hq : (goL (L.drop (i + 1))).2 = 0 <;> simp [hq]

theorem lining_err {L : List (List UInt8)} {i : Nat} {done : List Rec} (h : Lining L i done) (hi : i + 1 < L.length) {r : Rec} {e : Int} (he : e ≠ 0) (hp : parseR (L.getD i []) = (r, e)) : goL L = ([], e) := by
  obtain ⟨_, h2, h3⟩ := h
  have hd : L.drop i = L.getD i [] :: L.drop (i + 1) := by
    rw [List.drop_eq_getElem_cons (by omega), List.getD_eq_getElem?_getD, List.getElem?_eq_getElem (by omega)]; rfl
  have hne : L.drop (i + 1) ≠ [] := fun e => by
    have := congrArg List.length e
    rw [List.length_drop] at this
    simp at this
    omega
  rw [h3, hd, goL_cons _ hne, hp]
  simp [he]

theorem lining_end {L : List (List UInt8)} {i : Nat} {done : List Rec} (h : Lining L i done) (hi : i + 1 = L.length) : goL L = if L.getD i [] = [] then (done, 0) else ([], 2) := by
  obtain ⟨_, h2, h3⟩ := h
  have hd : L.drop i = [L.getD i []] := by
    rw [List.drop_eq_getElem_cons (by omega), List.getD_eq_getElem?_getD, List.getElem?_eq_getElem (by omega), List.drop_of_length_le (by omega)]; rfl
  rw [h3, hd]
  simp only [goL]
  split <;> simp

theorem rlog_raw (s : List UInt8) (hs : s.length ≤ 100000000) (hps : ∀ p, p ∈ cutL 10 s → p.length ≤ 10000000) : FnOK Tryd.prog 22 [.str s] [] (fun r _ => Eng.nrm r = logA (logR s)) := by
  unfold logR
  have hcl := cutL_le 10 s
  have hne := cutL_ne 10 s
  refine fn_of_cwW tabOK (Go.Proofs.Tryd.func22) rfl (fun C => ?_)
  simp only [Go.Proofs.Tryd.ntmps22, Go.Proofs.Tryd.results22, go_sem]
  refine cw_goR 99 (by simp only [go_sem]; try exact rfl) ?_
  refine cw_runN tabOK 2 (by simp only [go_sem]; exact rfl) (by simp only [go_sem]; exact rfl) (by simp only [go_sem]; try exact rfl) (by simp [go_sem]) ?_
  refine cw_goR 99 (by simp only [go_sem]; try exact rfl) ?_
  refine cw_runN tabOK 1 (by simp only [go_sem]; exact rfl) (by simp only [go_sem]; exact rfl) (by simp only [go_sem]; try exact rfl) (by simp [go_sem]) ?_
  refine cw_call rfl rfl (by simp only [go_sem]; try exact rfl) (by simp [go_sem]) ⟨_, Go.Proofs.Tryd.func25, by kernel_rfl, rfl⟩ (by simp [go_sem]) (cut_ok s 10 (by omega)) (by simp [go_sem]) (by simp only [go_sem]; exact rfl) ?_
  generalize cutL 10 s = L at hcl hps hne
  have hL0 : 0 < L.length := List.length_pos_iff.2 hne
  have hw1 : IntKind.i64.wrap ((L.length : Int) - 1) = ((L.length - 1 : Nat) : Int) := by rw [Eng.wrap_small (by omega) (by omega)]; omega
  have hlen : (List.take (L.length - 1) (L.map strRow)).length = L.length - 1 := by rw [List.length_take, List.length_map]; omega
  refine cw_go tabOK 99 (by simp only [go_sem, hw1]; try exact rfl) ?_ ?_
  · simp
    exact fun _ _ => rfl
  refine cw_le (le_empty 33 36 9 (by simp [go_sem])) ?_
  simp only [go_sem, hw1]
  refine cw_loopS (fun x : Nat × List Rec => Lining L x.1 x.2) (fun x => L.length - x.1) (fun x => [(5, .osl 33 9 0 x.2.length), (7, .any), (8, .any), (9, .any), (18, .int .i64 x.1), (19, .any), (20, .any), (21, .any), (22, .any), (23, .any), (24, .any), (25, .any), (26, .any), (27, .any), (28, .any), (29, .any), (30, .any), (31, .any), (32, .any), (33, .any), (34, .any)]) (fun x => [(33, .cells 36 9 (x.2.map recRow))]) (0, []) (lining_start hne) ?_ fun x hx => ?_
  · simp only [go_sem]
    exact le_sub (by simp [go_sem]) (by simp [go_sem]) (by simp [go_sem])
  obtain ⟨i, done⟩ := x
  have hx2 := hx
  obtain ⟨hi, hd, hgo⟩ := hx2
  simp only at hi hd hgo hx
  simp only [go_sem]
  refine cw_go tabOK 99 (by simp only [go_sem, hlen]; try exact rfl) (by simp [go_sem, hlen]) ?_
  refine cw_cond (by simp only [go_sem]; try exact rfl) trivial (fun h => ?_) (fun h => ?_)
  · have hlt : i + 1 < L.length := by simp at h; omega
    have hw : IntKind.i64.wrap ((i : Int) + 1) = ((i + 1 : Nat) : Int) := by rw [Eng.wrap_small (by omega) (by omega)]; rfl
    have hg : (List.take (L.length - 1) (L.map strRow)).getD i [] = strRow (L.getD i []) := by
      rw [List.getD_eq_getElem?_getD, List.getElem?_take, if_pos (by omega), ← List.getD_eq_getElem?_getD]
      exact Fam.getD (by omega)
    have hpl : (L.getD i []).length ≤ 10000000 := hps _ (by rw [List.getD_eq_getElem?_getD, List.getElem?_eq_getElem (by omega)]; exact List.getElem_mem _)
    obtain ⟨r, e, hp⟩ : ∃ r e, parseR (L.getD i []) = (r, e) := ⟨_, _, rfl⟩
    have hst : e = 0 → Lining L (i + 1) (done ++ [r]) := fun h0 => lining_step hx hlt (by rw [hp, h0])
    have her : e ≠ 0 → goL L = ([], e) := fun h0 => lining_err hx hlt h0 hp
    generalize L.getD i [] = w at hg hpl hp
    refine cw_go tabOK 99 (by simp only [go_sem, hg, strRow]; try exact rfl) ?_ ?_
    · simp [hg, strRow]
      omega
    refine cw_call rfl rfl (by simp only [go_sem]; try exact rfl) (by simp [go_sem]) ⟨_, Go.Proofs.Tryd.func19, by kernel_rfl, rfl⟩ (by simp [go_sem]) (rline_at hp hpl) (by simp [go_sem]) (by simp only [go_sem]; exact rfl) ?_
    simp only [go_sem, recRow]
    refine cw_go tabOK 99 (by simp only [go_sem]; try exact rfl) (by simp [go_sem]) ?_
    refine cw_cond (by simp only [go_sem]; try exact rfl) trivial (fun h => ?_) (fun h => ?_)
    · have he : e ≠ 0 := by simpa using h
      rw [her he]
      refine cw_go tabOK 99 (by simp only [go_sem]; try exact rfl) (by simp [go_sem]) ?_
      refine cw_ret ⟨_, _, by simp only [go_sem]; try exact rfl, by simp [go_sem], _, .inr (.inl rfl), ?_⟩
      rfl
    have he : e = 0 := by simpa using h
    have hst2 := hst he
    subst he
    have htk : List.take done.length (done.map recRow) = done.map recRow := List.take_of_length_le (by simp)
    refine cw_go tabOK 99 (by simp only [go_sem, hw]; try exact rfl) ?_ ?_
    · simp [htk, refs]
      exact ⟨by intro row h; simp at h; subst h; rfl, by omega⟩
    refine cw_back ⟨(i + 1, done ++ [r]), hst2, by simp; omega, le_sub ?_ ?_ ?_⟩
    · simp [go_sem]
    · simp [go_sem, htk, recRow]
    · simp [go_sem]
  · have hend : i + 1 = L.length := by simp at h; omega
    have hgo2 := lining_end hx hend
    have hi2 : L.length - 1 = i := by omega
    have hg : (L.map strRow).getD i [] = strRow (L.getD i []) := Fam.getD (by omega)
    rw [hi2] at hw1
    generalize L.getD i [] = w at hg hgo2
    refine cw_go tabOK 99 (by simp only [go_sem, hw1, hg, strRow]; try exact rfl) ?_ ?_
    · simp [hw1, hg, strRow]
      omega
    refine cw_cond (by simp only [go_sem]; try exact rfl) trivial (fun h => ?_) (fun h => ?_)
    · have hw0 : w ≠ [] := by simpa using h
      rw [hgo2, if_neg hw0]
      refine cw_go tabOK 99 (by simp only [go_sem]; try exact rfl) (by simp [go_sem]) ?_
      refine cw_ret ⟨_, _, by simp only [go_sem]; try exact rfl, by simp [go_sem], _, .inr (.inl rfl), ?_⟩
      rfl
    · have hw0 : w = [] := by simpa using h
      rw [hgo2, if_pos hw0]
      refine cw_go tabOK 99 (by simp only [go_sem]; try exact rfl) (by simp [go_sem]) ?_
      refine cw_freeze 33 rfl (recRow_pure _) ?_
      refine cw_go tabOK 99 (by simp only [go_sem]; try exact rfl) (by simp [go_sem]) ?_
      refine cw_ret ⟨_, _, by simp only [go_sem]; try exact rfl, by simp [go_sem], _, .inr (.inl rfl), ?_⟩
      simp [logA, Eng.nrm, Eng.nrmL, nrm_recs]
theorem rlog_ok (s : List UInt8) (hs : s.length ≤ 100000000) (hps : ∀ p, p ∈ cutL 10 s → p.length ≤ 10000000) : FnOK Tryd.prog 22 [.str s] [] (fun r _ => r = logA (logR s)) := fn_nrmP (rlog_raw s hs hps)
theorem rlog_at {s : List UInt8} {l : List Rec} {e : Int} (h : logR s = (l, e)) (hs : s.length ≤ 100000000) (hps : ∀ p, p ∈ cutL 10 s → p.length ≤ 10000000) : FnOK Tryd.prog 22 [.str s] [] (fun r _ => r = .tup [.sl (l.map recRow), .int .i64 e]) := by
  have := rlog_ok s hs hps
  rw [h] at this
  exact this
end La

namespace La
open Go Go.Eng Go.Proofs
set_option maxRecDepth 10000
set_option linter.unusedSimpArgs false

theorem sameAct_ok (a b : Act) : FnOK Tryd.prog 40 [.agg (actRow a), .agg (actRow b)] [] (fun r _ => r = .bool (decide (a = b))) := by
  unfold actRow
  refine fn_of_cwW tabOK (Go.Proofs.Tryd.func40) rfl (fun C => ?_)
  simp only [Go.Proofs.Tryd.ntmps40, Go.Proofs.Tryd.results40, go_sem]
  refine cw_go tabOK 5 (by simp only [go_sem]; try exact rfl) (by simp [go_sem]) ?_
  refine cw_runN tabOK 6 (by simp only [go_sem]; exact rfl) (by simp only [go_sem]; exact rfl) (by simp only [go_sem]; try exact rfl) (by simp [go_sem]) ?_
  generalize h1 : (a.kind == b.kind) = c1
  refine cw_runN tabOK 1 (by simp only [go_sem]; exact rfl) (by simp only [go_sem]; exact rfl) (by simp only [go_sem]; try exact rfl) (by simp [go_sem]) ?_
  refine cw_runN tabOK 1 (by simp only [go_sem]; exact rfl) (by simp only [go_sem]; exact rfl) (by simp only [go_sem]; try exact rfl) (by simp [go_sem]) ?_
  refine cw_runN tabOK 1 (by simp only [go_sem]; exact rfl) (by simp only [go_sem]; exact rfl) (by simp only [go_sem]; try exact rfl) (by simp [go_sem]) ?_
  refine cw_runN tabOK 1 (by simp only [go_sem]; exact rfl) (by simp only [go_sem]; exact rfl) (by simp only [go_sem]; try exact rfl) (by simp [go_sem]) ?_
  refine cw_runN tabOK 1 (by simp only [go_sem]; exact rfl) (by simp only [go_sem]; exact rfl) (by simp only [go_sem]; try exact rfl) (by simp [go_sem]) ?_
  refine cw_runN tabOK 1 (by simp only [go_sem]; exact rfl) (by simp only [go_sem]; exact rfl) (by simp only [go_sem]; try exact rfl) (by simp [go_sem]) ?_
  refine cw_runN tabOK 1 (by simp only [go_sem]; exact rfl) (by simp only [go_sem]; exact rfl) (by simp only [go_sem]; try exact rfl) (by simp [go_sem]) ?_
  generalize h2 : (bif c1 then a.fid == b.fid else false) = c2
  refine cw_runN tabOK 1 (by simp only [go_sem]; exact rfl) (by simp only [go_sem]; exact rfl) (by simp only [go_sem]; try exact rfl) (by simp [go_sem]) ?_
  refine cw_runN tabOK 1 (by simp only [go_sem]; exact rfl) (by simp only [go_sem]; exact rfl) (by simp only [go_sem]; try exact rfl) (by simp [go_sem]) ?_
  refine cw_runN tabOK 1 (by simp only [go_sem]; exact rfl) (by simp only [go_sem]; exact rfl) (by simp only [go_sem]; try exact rfl) (by simp [go_sem]) ?_
  refine cw_runN tabOK 1 (by simp only [go_sem]; exact rfl) (by simp only [go_sem]; exact rfl) (by simp only [go_sem]; try exact rfl) (by simp [go_sem]) ?_
  refine cw_runN tabOK 1 (by simp only [go_sem]; exact rfl) (by simp only [go_sem]; exact rfl) (by simp only [go_sem]; try exact rfl) (by simp [go_sem]) ?_
  refine cw_runN tabOK 1 (by simp only [go_sem]; exact rfl) (by simp only [go_sem]; exact rfl) (by simp only [go_sem]; try exact rfl) (by simp [go_sem]) ?_
  refine cw_runN tabOK 1 (by simp only [go_sem]; exact rfl) (by simp only [go_sem]; exact rfl) (by simp only [go_sem]; try exact rfl) (by simp [go_sem]) ?_
  generalize h3 : (bif c2 then a.dir == b.dir else false) = c3
  refine cw_runN tabOK 1 (by simp only [go_sem]; exact rfl) (by simp only [go_sem]; exact rfl) (by simp only [go_sem]; try exact rfl) (by simp [go_sem]) ?_
  refine cw_runN tabOK 1 (by simp only [go_sem]; exact rfl) (by simp only [go_sem]; exact rfl) (by simp only [go_sem]; try exact rfl) (by simp [go_sem]) ?_
  refine cw_runN tabOK 1 (by simp only [go_sem]; exact rfl) (by simp only [go_sem]; exact rfl) (by simp only [go_sem]; try exact rfl) (by simp [go_sem]) ?_
  refine cw_runN tabOK 1 (by simp only [go_sem]; exact rfl) (by simp only [go_sem]; exact rfl) (by simp only [go_sem]; try exact rfl) (by simp [go_sem]) ?_
  refine cw_runN tabOK 1 (by simp only [go_sem]; exact rfl) (by simp only [go_sem]; exact rfl) (by simp only [go_sem]; try exact rfl) (by simp [go_sem]) ?_
  refine cw_runN tabOK 1 (by simp only [go_sem]; exact rfl) (by simp only [go_sem]; exact rfl) (by simp only [go_sem]; try exact rfl) (by simp [go_sem]) ?_
  refine cw_runN tabOK 1 (by simp only [go_sem]; exact rfl) (by simp only [go_sem]; exact rfl) (by simp only [go_sem]; try exact rfl) (by simp [go_sem]) ?_
  generalize h4 : (bif c3 then a.name == b.name else false) = c4
  refine cw_runN tabOK 1 (by simp only [go_sem]; exact rfl) (by simp only [go_sem]; exact rfl) (by simp only [go_sem]; try exact rfl) (by simp [go_sem]) ?_
  refine cw_runN tabOK 1 (by simp only [go_sem]; exact rfl) (by simp only [go_sem]; exact rfl) (by simp only [go_sem]; try exact rfl) (by simp [go_sem]) ?_
  refine cw_runN tabOK 1 (by simp only [go_sem]; exact rfl) (by simp only [go_sem]; exact rfl) (by simp only [go_sem]; try exact rfl) (by simp [go_sem]) ?_
  refine cw_runN tabOK 1 (by simp only [go_sem]; exact rfl) (by simp only [go_sem]; exact rfl) (by simp only [go_sem]; try exact rfl) (by simp [go_sem]) ?_
  refine cw_runN tabOK 1 (by simp only [go_sem]; exact rfl) (by simp only [go_sem]; exact rfl) (by simp only [go_sem]; try exact rfl) (by simp [go_sem]) ?_
  refine cw_runN tabOK 1 (by simp only [go_sem]; exact rfl) (by simp only [go_sem]; exact rfl) (by simp only [go_sem]; try exact rfl) (by simp [go_sem]) ?_
  refine cw_runN tabOK 1 (by simp only [go_sem]; exact rfl) (by simp only [go_sem]; exact rfl) (by simp only [go_sem]; try exact rfl) (by simp [go_sem]) ?_
  generalize h5 : (bif c4 then a.to == b.to else false) = c5
  refine cw_runN tabOK 1 (by simp only [go_sem]; exact rfl) (by simp only [go_sem]; exact rfl) (by simp only [go_sem]; try exact rfl) (by simp [go_sem]) ?_
  refine cw_runN tabOK 1 (by simp only [go_sem]; exact rfl) (by simp only [go_sem]; exact rfl) (by simp only [go_sem]; try exact rfl) (by simp [go_sem]) ?_
  refine cw_runN tabOK 1 (by simp only [go_sem]; exact rfl) (by simp only [go_sem]; exact rfl) (by simp only [go_sem]; try exact rfl) (by simp [go_sem]) ?_
  refine cw_runN tabOK 1 (by simp only [go_sem]; exact rfl) (by simp only [go_sem]; exact rfl) (by simp only [go_sem]; try exact rfl) (by simp [go_sem]) ?_
  refine cw_runN tabOK 1 (by simp only [go_sem]; exact rfl) (by simp only [go_sem]; exact rfl) (by simp only [go_sem]; try exact rfl) (by simp [go_sem]) ?_
  refine cw_runN tabOK 1 (by simp only [go_sem]; exact rfl) (by simp only [go_sem]; exact rfl) (by simp only [go_sem]; try exact rfl) (by simp [go_sem]) ?_
  refine cw_runN tabOK 1 (by simp only [go_sem]; exact rfl) (by simp only [go_sem]; exact rfl) (by simp only [go_sem]; try exact rfl) (by simp [go_sem]) ?_
  generalize h6 : (bif c5 then a.toName == b.toName else false) = c6
  refine cw_runN tabOK 1 (by simp only [go_sem]; exact rfl) (by simp only [go_sem]; exact rfl) (by simp only [go_sem]; try exact rfl) (by simp [go_sem]) ?_
  refine cw_runN tabOK 1 (by simp only [go_sem]; exact rfl) (by simp only [go_sem]; exact rfl) (by simp only [go_sem]; try exact rfl) (by simp [go_sem]) ?_
  refine cw_runN tabOK 1 (by simp only [go_sem]; exact rfl) (by simp only [go_sem]; exact rfl) (by simp only [go_sem]; try exact rfl) (by simp [go_sem]) ?_
  refine cw_runN tabOK 1 (by simp only [go_sem]; exact rfl) (by simp only [go_sem]; exact rfl) (by simp only [go_sem]; try exact rfl) (by simp [go_sem]) ?_
  refine cw_runN tabOK 1 (by simp only [go_sem]; exact rfl) (by simp only [go_sem]; exact rfl) (by simp only [go_sem]; try exact rfl) (by simp [go_sem]) ?_
  refine cw_runN tabOK 1 (by simp only [go_sem]; exact rfl) (by simp only [go_sem]; exact rfl) (by simp only [go_sem]; try exact rfl) (by simp [go_sem]) ?_
  refine cw_runN tabOK 1 (by simp only [go_sem]; exact rfl) (by simp only [go_sem]; exact rfl) (by simp only [go_sem]; try exact rfl) (by simp [go_sem]) ?_
  refine cw_runN tabOK 1 (by simp only [go_sem]; exact rfl) (by simp only [go_sem]; exact rfl) (by simp only [go_sem]; try exact rfl) (by simp [go_sem]) ?_
  refine cw_runN tabOK 1 (by simp only [go_sem]; exact rfl) (by simp only [go_sem]; exact rfl) (by simp only [go_sem]; try exact rfl) (by simp [go_sem]) ?_
  refine cw_go tabOK 99 (by simp only [go_sem]; try exact rfl) (by simp [go_sem]) ?_
  refine cw_ret ⟨_, _, (by simp only [go_sem]; try exact rfl), by simp [go_sem], _, .inr (.inl rfl), ?_⟩
  subst h6 h5 h4 h3 h2 h1
  obtain ⟨k1, f1, d1, n1, t1, m1, x1⟩ := a
  obtain ⟨k2, f2, d2, n2, t2, m2, x2⟩ := b
  congr 1
  rw [Bool.eq_iff_iff]
  simp only [Bool.cond_eq_ite]
  simp [and_assoc]
end La

namespace La
open Go Go.Eng Go.Proofs
set_option maxRecDepth 10000
set_option linter.unusedSimpArgs false

theorem sameLog_ok (a b : List Rec) (ha : a.length ≤ 100000000) (hb : b.length ≤ 100000000) : FnOK Tryd.prog 20 [.sl (a.map recRow), .sl (b.map recRow)] [] (fun r _ => r = .bool (decide (a = b))) := by
  refine fn_of_cwW tabOK (Go.Proofs.Tryd.func20) rfl (fun C => ?_)
  simp only [Go.Proofs.Tryd.ntmps20, Go.Proofs.Tryd.results20, go_sem]
  refine cw_go tabOK 99 (by simp only [go_sem]; try exact rfl) (by simp [go_sem]) ?_
  refine cw_cond (by simp only [go_sem]; try exact rfl) trivial (fun h => ?_) (fun h => ?_)
  · refine cw_go tabOK 99 (by simp only [go_sem]; try exact rfl) (by simp [go_sem]) ?_
    refine cw_ret ⟨_, _, (by simp only [go_sem]; try exact rfl), by simp [go_sem], _, .inr (.inl rfl), ?_⟩
    have hne : a ≠ b := by rintro rfl; simp at h
    simp [hne]
  have hl : a.length = b.length := by simp at h; omega
  refine cw_go tabOK 99 (by simp only [go_sem]; try exact rfl) (by simp [go_sem]) ?_
  refine cw_loopS (fun i : Nat => i ≤ a.length ∧ a.take i = b.take i) (fun i => a.length - i) (fun i => [(13, .int .i64 i), (5, .any), (14, .any), (15, .any), (16, .any), (17, .any), (18, .any), (19, .any), (20, .any), (21, .any), (22, .any), (23, .any), (24, .any), (25, .any), (26, .any), (27, .any), (28, .any), (29, .any), (30, .any), (31, .any), (32, .any), (33, .any), (34, .any), (35, .any), (36, .any), (37, .any), (38, .any), (39, .any), (40, .any), (41, .any), (42, .any), (43, .any), (44, .any), (45, .any), (46, .any), (47, .any), (48, .any), (49, .any), (50, .any), (51, .any), (52, .any), (53, .any), (54, .any)]) (fun _ => []) 0 ⟨by omega, rfl⟩ ?_ fun i hi => ?_
  · simp only [go_sem]
    exact le_sub (by simp [go_sem]) (by simp [go_sem]) (by simp only [go_sem])
  obtain ⟨hi, ht⟩ := hi
  simp only [go_sem]
  refine cw_go tabOK 99 (by simp only [go_sem]; try exact rfl) (by simp [go_sem]) ?_
  refine cw_cond (by simp only [go_sem]; try exact rfl) trivial (fun h => ?_) (fun h => ?_)
  · have hlt : i < a.length := by simp at h; omega
    have hltb : i < b.length := by omega
    have hg : (a.map recRow).getD i [] = recRow (a.getD i default) := Fam.getD hlt
    have hgb : (b.map recRow).getD i [] = recRow (b.getD i default) := Fam.getD hltb
    refine cw_go tabOK 99 (by simp only [go_sem]; try exact rfl) (by simp [go_sem]) ?_
    refine cw_draw mixed ?_
    refine seg_start rfl ?_
    have ga := take_succ_getD hlt
    have gb := take_succ_getD hltb
    generalize a.getD i default = x at hg ga
    generalize b.getD i default = y at hgb gb
    refine seg_runN tabOK 1 (by simp only [go_sem]; exact rfl) (by simp only [go_sem]; exact rfl) (by simp only [go_sem, hlt, hltb, hg, hgb, recRow]; try exact rfl) (by simp [go_sem, hlt, hltb, hg, hgb, recRow]) (by simp only [go_sem]; exact rfl) ?_
    refine seg_runN tabOK 1 (by simp only [go_sem]; exact rfl) (by simp only [go_sem]; exact rfl) (by simp only [go_sem, hlt, hltb, hg, hgb, recRow]; try exact rfl) (by simp [go_sem, hlt, hltb, hg, hgb, recRow]) (by simp only [go_sem]; exact rfl) ?_
    refine seg_runN tabOK 1 (by simp only [go_sem]; exact rfl) (by simp only [go_sem]; exact rfl) (by simp only [go_sem, hlt, hltb, hg, hgb, recRow]; try exact rfl) (by simp [go_sem, hlt, hltb, hg, hgb, recRow]) (by simp only [go_sem]; exact rfl) ?_
    refine seg_runN tabOK 1 (by simp only [go_sem]; exact rfl) (by simp only [go_sem]; exact rfl) (by simp only [go_sem, hlt, hltb, hg, hgb, recRow]; try exact rfl) (by simp [go_sem, hlt, hltb, hg, hgb, recRow]) (by simp only [go_sem]; exact rfl) ?_
    refine seg_runN tabOK 1 (by simp only [go_sem]; exact rfl) (by simp only [go_sem]; exact rfl) (by simp only [go_sem, hlt, hltb, hg, hgb, recRow]; try exact rfl) (by simp [go_sem, hlt, hltb, hg, hgb, recRow]) (by simp only [go_sem]; exact rfl) ?_
    refine seg_runN tabOK 1 (by simp only [go_sem]; exact rfl) (by simp only [go_sem]; exact rfl) (by simp only [go_sem, hlt, hltb, hg, hgb, recRow]; try exact rfl) (by simp [go_sem, hlt, hltb, hg, hgb, recRow]) (by simp only [go_sem]; exact rfl) ?_
    refine seg_runN tabOK 1 (by simp only [go_sem]; exact rfl) (by simp only [go_sem]; exact rfl) (by simp only [go_sem, hlt, hltb, hg, hgb, recRow]; try exact rfl) (by simp [go_sem, hlt, hltb, hg, hgb, recRow]) (by simp only [go_sem]; exact rfl) ?_
    refine seg_runN tabOK 1 (by simp only [go_sem]; exact rfl) (by simp only [go_sem]; exact rfl) (by simp only [go_sem, hlt, hltb, hg, hgb, recRow]; try exact rfl) (by simp [go_sem, hlt, hltb, hg, hgb, recRow]) (by simp only [go_sem]; exact rfl) ?_
    refine seg_runN tabOK 1 (by simp only [go_sem]; exact rfl) (by simp only [go_sem]; exact rfl) (by simp only [go_sem, hlt, hltb, hg, hgb, recRow]; try exact rfl) (by simp [go_sem, hlt, hltb, hg, hgb, recRow]) (by simp only [go_sem]; exact rfl) ?_
    refine seg_runN tabOK 1 (by simp only [go_sem]; exact rfl) (by simp only [go_sem]; exact rfl) (by simp only [go_sem, hlt, hltb, hg, hgb, recRow]; try exact rfl) (by simp [go_sem, hlt, hltb, hg, hgb, recRow]) (by simp only [go_sem]; exact rfl) ?_
    refine seg_runN tabOK 1 (by simp only [go_sem]; exact rfl) (by simp only [go_sem]; exact rfl) (by simp only [go_sem, hlt, hltb, hg, hgb, recRow]; try exact rfl) (by simp [go_sem, hlt, hltb, hg, hgb, recRow]) (by simp only [go_sem]; exact rfl) ?_
    refine seg_runN tabOK 1 (by simp only [go_sem]; exact rfl) (by simp only [go_sem]; exact rfl) (by simp only [go_sem, hlt, hltb, hg, hgb, recRow]; try exact rfl) (by simp [go_sem, hlt, hltb, hg, hgb, recRow]) (by simp only [go_sem]; exact rfl) ?_
    generalize h1 : (x.version != y.version) = c1
    refine seg_runN tabOK 1 (by simp only [go_sem]; exact rfl) (by simp only [go_sem]; exact rfl) (by simp only [go_sem, hlt, hltb, hg, hgb, recRow]; try exact rfl) (by simp [go_sem, hlt, hltb, hg, hgb, recRow]) (by simp only [go_sem]; exact rfl) ?_
    refine seg_runN tabOK 1 (by simp only [go_sem]; exact rfl) (by simp only [go_sem]; exact rfl) (by simp only [go_sem, hlt, hltb, hg, hgb, recRow]; try exact rfl) (by simp [go_sem, hlt, hltb, hg, hgb, recRow]) (by simp only [go_sem]; exact rfl) ?_
    refine seg_runN tabOK 1 (by simp only [go_sem]; exact rfl) (by simp only [go_sem]; exact rfl) (by simp only [go_sem, hlt, hltb, hg, hgb, recRow]; try exact rfl) (by simp [go_sem, hlt, hltb, hg, hgb, recRow]) (by simp only [go_sem]; exact rfl) ?_
    refine seg_runN tabOK 1 (by simp only [go_sem]; exact rfl) (by simp only [go_sem]; exact rfl) (by simp only [go_sem, hlt, hltb, hg, hgb, recRow]; try exact rfl) (by simp [go_sem, hlt, hltb, hg, hgb, recRow]) (by simp only [go_sem]; exact rfl) ?_
    refine seg_runN tabOK 1 (by simp only [go_sem]; exact rfl) (by simp only [go_sem]; exact rfl) (by simp only [go_sem, hlt, hltb, hg, hgb, recRow]; try exact rfl) (by simp [go_sem, hlt, hltb, hg, hgb, recRow]) (by simp only [go_sem]; exact rfl) ?_
    refine seg_runN tabOK 1 (by simp only [go_sem]; exact rfl) (by simp only [go_sem]; exact rfl) (by simp only [go_sem, hlt, hltb, hg, hgb, recRow]; try exact rfl) (by simp [go_sem, hlt, hltb, hg, hgb, recRow]) (by simp only [go_sem]; exact rfl) ?_
    refine seg_runN tabOK 1 (by simp only [go_sem]; exact rfl) (by simp only [go_sem]; exact rfl) (by simp only [go_sem, hlt, hltb, hg, hgb, recRow]; try exact rfl) (by simp [go_sem, hlt, hltb, hg, hgb, recRow]) (by simp only [go_sem]; exact rfl) ?_
    refine seg_runN tabOK 1 (by simp only [go_sem]; exact rfl) (by simp only [go_sem]; exact rfl) (by simp only [go_sem, hlt, hltb, hg, hgb, recRow]; try exact rfl) (by simp [go_sem, hlt, hltb, hg, hgb, recRow]) (by simp only [go_sem]; exact rfl) ?_
    refine seg_runN tabOK 1 (by simp only [go_sem]; exact rfl) (by simp only [go_sem]; exact rfl) (by simp only [go_sem, hlt, hltb, hg, hgb, recRow]; try exact rfl) (by simp [go_sem, hlt, hltb, hg, hgb, recRow]) (by simp only [go_sem]; exact rfl) ?_
    refine seg_runN tabOK 1 (by simp only [go_sem]; exact rfl) (by simp only [go_sem]; exact rfl) (by simp only [go_sem, hlt, hltb, hg, hgb, recRow]; try exact rfl) (by simp [go_sem, hlt, hltb, hg, hgb, recRow]) (by simp only [go_sem]; exact rfl) ?_
    refine seg_runN tabOK 1 (by simp only [go_sem]; exact rfl) (by simp only [go_sem]; exact rfl) (by simp only [go_sem, hlt, hltb, hg, hgb, recRow]; try exact rfl) (by simp [go_sem, hlt, hltb, hg, hgb, recRow]) (by simp only [go_sem]; exact rfl) ?_
    refine seg_runN tabOK 1 (by simp only [go_sem]; exact rfl) (by simp only [go_sem]; exact rfl) (by simp only [go_sem, hlt, hltb, hg, hgb, recRow]; try exact rfl) (by simp [go_sem, hlt, hltb, hg, hgb, recRow]) (by simp only [go_sem]; exact rfl) ?_
    refine seg_runN tabOK 1 (by simp only [go_sem]; exact rfl) (by simp only [go_sem]; exact rfl) (by simp only [go_sem, hlt, hltb, hg, hgb, recRow]; try exact rfl) (by simp [go_sem, hlt, hltb, hg, hgb, recRow]) (by simp only [go_sem]; exact rfl) ?_
    generalize h2 : (bif c1 then true else x.id != y.id) = c2
    refine seg_runN tabOK 1 (by simp only [go_sem]; exact rfl) (by simp only [go_sem]; exact rfl) (by simp only [go_sem, hlt, hltb, hg, hgb, recRow]; try exact rfl) (by simp [go_sem, hlt, hltb, hg, hgb, recRow]) (by simp only [go_sem]; exact rfl) ?_
    refine seg_runN tabOK 1 (by simp only [go_sem]; exact rfl) (by simp only [go_sem]; exact rfl) (by simp only [go_sem, hlt, hltb, hg, hgb, recRow]; try exact rfl) (by simp [go_sem, hlt, hltb, hg, hgb, recRow]) (by simp only [go_sem]; exact rfl) ?_
    refine seg_runN tabOK 1 (by simp only [go_sem]; exact rfl) (by simp only [go_sem]; exact rfl) (by simp only [go_sem, hlt, hltb, hg, hgb, recRow]; try exact rfl) (by simp [go_sem, hlt, hltb, hg, hgb, recRow]) (by simp only [go_sem]; exact rfl) ?_
    refine seg_runN tabOK 1 (by simp only [go_sem]; exact rfl) (by simp only [go_sem]; exact rfl) (by simp only [go_sem, hlt, hltb, hg, hgb, recRow]; try exact rfl) (by simp [go_sem, hlt, hltb, hg, hgb, recRow]) (by simp only [go_sem]; exact rfl) ?_
    refine seg_runN tabOK 1 (by simp only [go_sem]; exact rfl) (by simp only [go_sem]; exact rfl) (by simp only [go_sem, hlt, hltb, hg, hgb, recRow]; try exact rfl) (by simp [go_sem, hlt, hltb, hg, hgb, recRow]) (by simp only [go_sem]; exact rfl) ?_
    refine seg_runN tabOK 1 (by simp only [go_sem]; exact rfl) (by simp only [go_sem]; exact rfl) (by simp only [go_sem, hlt, hltb, hg, hgb, recRow]; try exact rfl) (by simp [go_sem, hlt, hltb, hg, hgb, recRow]) (by simp only [go_sem]; exact rfl) ?_
    refine seg_runN tabOK 1 (by simp only [go_sem]; exact rfl) (by simp only [go_sem]; exact rfl) (by simp only [go_sem, hlt, hltb, hg, hgb, recRow]; try exact rfl) (by simp [go_sem, hlt, hltb, hg, hgb, recRow]) (by simp only [go_sem]; exact rfl) ?_
    refine seg_runN tabOK 1 (by simp only [go_sem]; exact rfl) (by simp only [go_sem]; exact rfl) (by simp only [go_sem, hlt, hltb, hg, hgb, recRow]; try exact rfl) (by simp [go_sem, hlt, hltb, hg, hgb, recRow]) (by simp only [go_sem]; exact rfl) ?_
    refine seg_runN tabOK 1 (by simp only [go_sem]; exact rfl) (by simp only [go_sem]; exact rfl) (by simp only [go_sem, hlt, hltb, hg, hgb, recRow]; try exact rfl) (by simp [go_sem, hlt, hltb, hg, hgb, recRow]) (by simp only [go_sem]; exact rfl) ?_
    refine seg_runN tabOK 1 (by simp only [go_sem]; exact rfl) (by simp only [go_sem]; exact rfl) (by simp only [go_sem, hlt, hltb, hg, hgb, recRow]; try exact rfl) (by simp [go_sem, hlt, hltb, hg, hgb, recRow]) (by simp only [go_sem]; exact rfl) ?_
    refine seg_callC rfl (by simp only [go_sem]; try exact rfl) (by simp only [go_sem]; try exact rfl) (by simp [go_sem]) ⟨_, Go.Proofs.Tryd.func40, by kernel_rfl, rfl⟩ (by simp [go_sem]) (fun hb => (sameAct_ok x.act y.act)) (by simp [go_sem]) (by simp only [go_sem]; exact rfl) (by simp only [go_sem]; exact rfl) ?_
    refine seg_runN tabOK 1 (by simp only [go_sem]; exact rfl) (by simp only [go_sem]; exact rfl) (by simp only [go_sem]; try exact rfl) (by simp [go_sem]) (by simp only [go_sem]; exact rfl) ?_
    refine seg_runN tabOK 1 (by simp only [go_sem]; exact rfl) (by simp only [go_sem]; exact rfl) (by simp only [go_sem]; try exact rfl) (by simp [go_sem]) (by simp only [go_sem]; exact rfl) ?_
    refine seg_end (by kernel_rfl) (by simp only [go_sem]; exact rfl) ?_
    refine draw_close (by kernel_rfl) ?_
    have hx : (x = y) ↔ ((bif c2 then true else !decide (x.act = y.act)) = false) := by
      subst h2 h1
      obtain ⟨xa, xv, xi⟩ := x
      obtain ⟨ya, yv, yi⟩ := y
      simp only [Rec.mk.injEq, Bool.cond_eq_ite]
      by_cases e1 : xv = yv <;> by_cases e2 : xi = yi <;> simp [e1, e2]
    refine cw_cond (by simp only [go_sem]; try exact rfl) trivial (fun h => ?_) (fun h => ?_)
    · refine cw_go tabOK 99 (by simp only [go_sem]; try exact rfl) (by simp [go_sem]) ?_
      refine cw_ret ⟨_, _, (by simp only [go_sem]; try exact rfl), by simp [go_sem], _, .inr (.inl rfl), ?_⟩
      have hne : a ≠ b := by
        intro he
        rw [← he, ga] at gb
        have e := List.append_cancel_left gb
        injection e with e
        rw [hx.1 e] at h
        cases h
      simp [hne]
    · refine cw_go tabOK 99 (by simp only [go_sem]; try exact rfl) (by simp [go_sem]) ?_
      have hw : IntKind.i64.wrap ((i : Int) + 1) = (i : Int) + 1 := wrap_small (by omega) (by omega)
      refine cw_back ⟨i + 1, ⟨by omega, by rw [ga, gb, ht, hx.2 h]⟩, by omega, le_sub ?_ ?_ ?_⟩
      · simp [go_sem, hw]
      · simp [go_sem]
      · simp only [go_sem]
  · have e : i = a.length := by simp at h; omega
    refine cw_go tabOK 99 (by simp only [go_sem]; try exact rfl) (by simp [go_sem]) ?_
    refine cw_ret ⟨_, _, (by simp only [go_sem]; try exact rfl), by simp [go_sem], _, .inr (.inl rfl), ?_⟩
    have : a = b := by
      rw [e, List.take_length, hl, List.take_length] at ht
      exact ht
    simp [this]
end La

namespace La
open Go Go.Eng Go.Proofs
set_option maxRecDepth 10000
set_option linter.unusedSimpArgs false
set_option linter.unusedVariables false

theorem wire_joined (s t : List UInt8) (hs : s.length ≤ 4000000) (ht : t.length ≤ 4000000) :
    FnOK Tryd.prog 7 [.str s, .str t] [] (fun r _ => r = .bool true) := by
  have hsp : ∀ p, p ∈ cutL 10 s → p.length ≤ 10000000 := fun p hp => by have := cutL_part 10 s p hp; omega
  have htp : ∀ p, p ∈ cutL 10 t → p.length ≤ 10000000 := fun p hp => by have := cutL_part 10 t p hp; omega
  have hxp : ∀ p, p ∈ cutL 10 (s ++ t) → p.length ≤ 10000000 := fun p hp => by have := cutL_part 10 (s ++ t) p hp; rw [List.length_append] at this; omega
  refine fn_of_cwW tabOK (Go.Proofs.Tryd.func7) rfl (fun C => ?_)
  simp only [Go.Proofs.Tryd.ntmps7, Go.Proofs.Tryd.results7, go_sem]
  refine cw_go tabOK 99 (by simp only [go_sem]; try exact rfl) (by simp [go_sem]) ?_
  refine cw_call rfl rfl (by simp only [go_sem]; try exact rfl) (by simp [go_sem]) ⟨_, Go.Proofs.Tryd.func23, by kernel_rfl, rfl⟩ (by simp [go_sem]) (alive5_ok) (by simp [go_sem]) (by simp only [go_sem]; exact rfl) ?_
  refine cw_go tabOK 99 (by simp only [go_sem]; try exact rfl) (by simp [go_sem]) ?_
  refine cw_cond (by simp only [go_sem]; try exact rfl) trivial (fun h => ?_) (fun h => ?_)
  · cases h
  obtain ⟨a, e, ha⟩ : ∃ a e, logR s = (a, e) := ⟨_, _, rfl⟩
  obtain ⟨b, w, hb⟩ : ∃ b w, logR t = (b, w) := ⟨_, _, rfl⟩
  obtain ⟨c, v, hc⟩ : ∃ c v, logR (s ++ t) = (c, v) := ⟨_, _, rfl⟩
  refine cw_go tabOK 99 (by simp only [go_sem]; try exact rfl) (by simp [go_sem]) ?_
  refine cw_call rfl rfl (by simp only [go_sem]; try exact rfl) (by simp [go_sem]) ⟨_, Go.Proofs.Tryd.func21, by kernel_rfl, rfl⟩ (by simp [go_sem]) (log_at ha (by omega) hsp) (by simp [go_sem]) (by simp only [go_sem]; exact rfl) ?_
  refine cw_go tabOK 99 (by simp only [go_sem]; try exact rfl) (by simp [go_sem]) ?_
  refine cw_call rfl rfl (by simp only [go_sem]; try exact rfl) (by simp [go_sem]) ⟨_, Go.Proofs.Tryd.func21, by kernel_rfl, rfl⟩ (by simp [go_sem]) (log_at hb (by omega) htp) (by simp [go_sem]) (by simp only [go_sem]; exact rfl) ?_
  refine cw_go tabOK 99 (by simp only [go_sem]; try exact rfl) ?_ ?_
  · simp; omega
  refine cw_call rfl rfl (by simp only [go_sem]; try exact rfl) (by simp [go_sem]) ⟨_, Go.Proofs.Tryd.func21, by kernel_rfl, rfl⟩ (by simp [go_sem]) (log_at hc (by simp; omega) hxp) (by simp [go_sem]) (by simp only [go_sem]; exact rfl) ?_
  refine cw_go tabOK 99 (by simp only [go_sem]; try exact rfl) (by simp [go_sem]) ?_
  refine cw_cond (by simp only [go_sem]; try exact rfl) trivial (fun h => ?_) (fun h => ?_)
  · refine cw_go tabOK 99 (by simp only [go_sem]; try exact rfl) (by simp [go_sem]) ?_
    refine cw_ret ⟨_, _, (by simp only [go_sem]; try exact rfl), by simp [go_sem], _, .inr (.inl rfl), ?_⟩
    rfl
  have he : e = 0 := by simpa using h
  subst he
  have hj := log_joined (t := t) ha
  rw [hb, hc] at hj
  simp only at hj
  refine cw_go tabOK 99 (by simp only [go_sem]; try exact rfl) (by simp [go_sem]) ?_
  refine cw_cond (by simp only [go_sem]; try exact rfl) trivial (fun h => ?_) (fun h => ?_)
  · have hw : w ≠ 0 := by simpa using h
    rw [if_pos hw] at hj
    obtain ⟨_, hv⟩ := Prod.mk.inj hj
    subst hv
    refine cw_go tabOK 99 (by simp only [go_sem, beq_self_eq_true]; try exact rfl) (by simp [go_sem, beq_self_eq_true]) ?_
    refine cw_ret ⟨_, _, (by simp only [go_sem]; try exact rfl), by simp [go_sem], _, .inr (.inl rfl), ?_⟩
    rfl
  have hw : w = 0 := by simpa using h
  subst hw
  simp only [ne_eq, not_true_eq_false, if_false] at hj
  obtain ⟨hcab, hv⟩ := Prod.mk.inj hj
  subst hv hcab
  obtain ⟨_, la⟩ := log_fit hs ha
  obtain ⟨_, lb⟩ := log_fit ht hb
  have hta : List.take a.length (a.map recRow) = a.map recRow := List.take_of_length_le (by simp)
  have hm : a.map recRow ++ b.map recRow = (a ++ b).map recRow := List.map_append.symm
  have hlen : a.length + b.length = (a ++ b).length := by simp
  refine cw_go tabOK 99 (by simp only [go_sem]; try exact rfl) ?_ ?_
  · simp; omega
  have hdl : (a ++ b).length ≤ 10000000 := by simp; omega
  try simp only [hta]
  rw [hm, hlen]
  clear hm hlen hc hj
  generalize a ++ b = d at hdl ⊢
  have htd : List.take d.length (d.map recRow) = d.map recRow := List.take_of_length_le (by simp)
  refine cw_viewC rfl (by simp only [go_sem]; try exact rfl) (by simp only [go_sem]; try exact rfl) (by simp [go_sem]) (by simp only [go_sem]; try exact rfl) (by simp [go_sem]) ⟨_, Go.Proofs.Tryd.func20, by kernel_rfl, rfl⟩ (fun hb => (sameLog_ok d d (by omega) (by omega))) (by simp [go_sem]) (by simp only [go_sem]; exact rfl) ?_
  refine cw_go tabOK 99 (by simp only [go_sem, decide_true, beq_self_eq_true, cond_true]; try exact rfl) (by simp [go_sem, decide_true, beq_self_eq_true, cond_true]) ?_
  refine cw_ret ⟨_, _, (by simp only [go_sem]; try exact rfl), by simp [go_sem], _, .inr (.inl rfl), ?_⟩
  simp
end La

namespace La
open Go Go.Eng Go.Proofs
set_option maxRecDepth 10000
set_option linter.unusedSimpArgs false
set_option linter.unusedVariables false

/-- what is wanted of a log's lines so far, and the first error -/
def wantS (q : List UInt8 × Int) (r : Rec) : List UInt8 × Int := (q.1 ++ (printR r).1 ++ [10], if (printR r).2 ≠ 0 ∧ q.2 = 0 then (printR r).2 else q.2)
def wantL (l : List Rec) : List UInt8 × Int := l.foldl wantS ([], 0)
theorem wantL_snoc (l : List Rec) (r : Rec) : wantL (l ++ [r]) = wantS (wantL l) r := by unfold wantL; rw [List.foldl_append]; rfl

theorem want_text : ∀ (l : List Rec) (q : List UInt8 × Int), (q.2 ≠ 0 → (l.foldl wantS q).2 = q.2) ∧ (q.2 = 0 → (l.foldl wantS q).2 = (textR l).2 ∧ ((textR l).2 = 0 → (l.foldl wantS q).1 = q.1 ++ (textR l).1))
  | [], q => ⟨fun _ => rfl, fun h => ⟨h, fun _ => by simp [textR]⟩⟩
  | r :: l, q => by
    have ih := want_text l (wantS q r)
    rw [List.foldl_cons]
    refine ⟨fun h => ?_, fun h => ?_⟩
    · have h2 : (wantS q r).2 = q.2 := by unfold wantS; simp [h]
      rw [ih.1 (by rw [h2]; exact h), h2]
    · by_cases hp : (printR r).2 = 0
      · have h2 : (wantS q r).2 = 0 := by unfold wantS; simp [hp, h]
        obtain ⟨k1, k2⟩ := ih.2 h2
        simp only [textR, hp, ne_eq, not_true_eq_false, if_false]
        refine ⟨?_, fun h3 => ?_⟩
        · rw [k1]
          by_cases h4 : (textR l).2 = 0 <;> simp [h4]
        · by_cases h4 : (textR l).2 = 0
          · rw [k2 h4]
            simp [h4, wantS]
          · simp [h4] at h3
      · have h2 : (wantS q r).2 = (printR r).2 := by unfold wantS; simp [hp, h]
        simp only [textR, hp, ne_eq, not_false_eq_true, if_true]
        exact ⟨by rw [ih.1 (by rw [h2]; exact hp), h2], fun h3 => h3.elim⟩

theorem textR_err {l : List Rec} (h : (textR l).2 ≠ 0) : (textR l).1 = [] := by
  cases l with
  | nil => exact absurd rfl h
  | cons r l =>
    simp only [textR] at h ⊢
    split
    · rfl
    · rename_i h1
      rw [if_neg h1] at h
      split
      · rfl
      · rename_i h2
        rw [if_neg h2] at h
        exact absurd rfl h

theorem rprint_at {r : Rec} {s : List UInt8} {e : Int} (h : printR r = (s, e)) (hr : RecFit r) : FnOK Tryd.prog 16 [.agg (recRow r)] [] (fun x _ => x = .tup [.str s, .int .i64 e]) := by
  have := rprint_ok r hr.ok hr.data hr.name hr.toName
  rw [h] at this
  exact this


set_option maxHeartbeats 2000000 in
theorem wire_tells (l : List Rec) (s t : List UInt8) (hl : l.length ≤ 5000000) (hf : ∀ r, r ∈ l → RecFit r) (hb : ∀ i, i ≤ l.length → (wantL (l.take i)).1.length ≤ 1000000000) (hs : s.length ≤ 4000000) (ht : t.length ≤ 4000000) :
    FnOK Tryd.prog 5 [.sl (l.map recRow), .str s, .str t] [] (fun r _ => r = .bool true) := by
  have htp : ∀ p, p ∈ cutL 10 t → p.length ≤ 10000000 := fun p hp => by have := cutL_part 10 t p hp; omega
  refine fn_of_cwW tabOK (Go.Proofs.Tryd.func5) rfl (fun C => ?_)
  simp only [Go.Proofs.Tryd.ntmps5, Go.Proofs.Tryd.results5, go_sem]
  refine cw_go tabOK 99 (by simp only [go_sem]; try exact rfl) (by simp [go_sem]) ?_
  refine cw_loopS (fun i : Nat => i ≤ l.length) (fun i => l.length - i) (fun i => [(7, .str (wantL (l.take i)).1), (8, .int .i64 (wantL (l.take i)).2), (10, .any), (11, .any), (12, .any), (13, .any), (14, .any), (24, .int .i64 i), (25, .any), (26, .any), (27, .any), (28, .any), (29, .any), (30, .any), (31, .any), (32, .any), (33, .any), (34, .any), (35, .any), (36, .any), (37, .any), (38, .any), (39, .any), (40, .any), (41, .any), (42, .any), (43, .any), (44, .any), (45, .any), (46, .any), (47, .any), (48, .any), (49, .any), (50, .any), (51, .any), (52, .any), (53, .any), (54, .any), (55, .any), (56, .any), (57, .any)]) (fun _ => []) 0 (by omega) ?_ fun i hi => ?_
  · simp only [go_sem]
    exact le_sub (by simp [go_sem, wantL]) (by simp [go_sem]) (by simp [go_sem])
  simp only [go_sem]
  refine cw_go tabOK 99 (by simp only [go_sem]; try exact rfl) (by simp [go_sem]) ?_
  refine cw_cond (by simp only [go_sem]; try exact rfl) trivial (fun h => ?_) (fun h => ?_)
  · have hlt : i < l.length := by simp at h; omega
    have hw : IntKind.i64.wrap ((i : Int) + 1) = ((i + 1 : Nat) : Int) := by rw [Eng.wrap_small (by omega) (by omega)]; rfl
    have hg : (l.map recRow).getD i [] = recRow (l.getD i default) := Fam.getD hlt
    have htk := take_succ_getD hlt
    have hmem := getD_mem hlt
    have hbi := hb i hi
    have hbj := hb (i + 1) hlt
    generalize l.getD i default = r at hg htk hmem
    have hfr := hf r hmem
    rw [htk, wantL_snoc] at hbj
    obtain ⟨a, e, hp⟩ : ∃ a e, printR r = (a, e) := ⟨_, _, rfl⟩
    have hpl := print_len r hfr.ok hfr.data hfr.name hfr.toName
    rw [hp] at hpl
    have hws : wantL (l.take (i + 1)) = ((wantL (l.take i)).1 ++ a ++ [10], if e ≠ 0 ∧ (wantL (l.take i)).2 = 0 then e else (wantL (l.take i)).2) := by rw [htk, wantL_snoc]; unfold wantS; rw [hp]
    simp only at hpl
    generalize wantL (l.take i) = q at hbi hws
    refine cw_go tabOK 99 (by simp only [go_sem, hg, recRow]; try exact rfl) ?_ ?_
    · simp [hg, recRow, hlt]
    refine cw_call rfl rfl (by simp only [go_sem]; try exact rfl) (by simp [go_sem]) ⟨_, Go.Proofs.Tryd.func15, by kernel_rfl, rfl⟩ (by simp [go_sem]) (print_at hp hfr) (by simp [go_sem]) (by simp only [go_sem]; exact rfl) ?_
    refine cw_go tabOK 99 (by simp only [go_sem]; try exact rfl) (by simp [go_sem]) ?_
    refine cw_call rfl rfl (by simp only [go_sem]; try exact rfl) (by simp [go_sem]) ⟨_, Go.Proofs.Tryd.func16, by kernel_rfl, rfl⟩ (by simp [go_sem]) (rprint_at hp hfr) (by simp [go_sem]) (by simp only [go_sem]; exact rfl) ?_
    refine cw_go tabOK 99 (by simp only [go_sem]; try exact rfl) (by simp [go_sem]) ?_
    refine cw_cond (by simp only [go_sem]; try exact rfl) trivial (fun h => ?_) (fun h => ?_)
    · exfalso; simp at h
    refine cw_go tabOK 99 (by simp only [go_sem]; try exact rfl) (by simp [go_sem]) ?_
    refine cw_cond (by simp only [go_sem]; try exact rfl) trivial (fun h => ?_) (fun h => ?_)
    · have hc : e ≠ 0 ∧ q.2 = 0 := by
        by_cases h1 : e = 0
        · simp [h1] at h
        · simp [h1] at h; exact ⟨h1, h⟩
      rw [if_pos hc] at hws
      refine cw_go tabOK 99 (by simp only [go_sem, hw]; try exact rfl) ?_ ?_
      · simp
        omega
      refine cw_back ⟨i + 1, by omega, by omega, le_sub ?_ ?_ ?_⟩
      · simp [go_sem, hws]
      · simp [go_sem]
      · simp [go_sem]
    · have hc : ¬ (e ≠ 0 ∧ q.2 = 0) := by
        rintro ⟨h1, h2⟩
        simp [h1, h2] at h
      rw [if_neg hc] at hws
      refine cw_go tabOK 99 (by simp only [go_sem, hw]; try exact rfl) ?_ ?_
      · simp
        omega
      refine cw_back ⟨i + 1, by omega, by omega, le_sub ?_ ?_ ?_⟩
      · simp [go_sem, hws]
      · simp [go_sem]
      · simp [go_sem]
  have e : i = l.length := by simp at h; omega
  subst e
  rw [List.take_length]
  obtain ⟨_, hwt⟩ := want_text l ([], 0)
  obtain ⟨w1, w2⟩ := hwt rfl
  have h3 := @textR_err l
  obtain ⟨x, e, hx⟩ : ∃ x e, textR l = (x, e) := ⟨_, _, rfl⟩
  have hbl := hb l.length (Nat.le_refl _)
  rw [List.take_length] at hbl
  have hW : wantL l = l.foldl wantS ([], 0) := rfl
  rw [← hW] at w1 w2
  rw [hx] at w1 w2 h3
  simp only [List.nil_append] at w1 w2 h3
  generalize wantL l = q at w1 w2 hbl
  obtain ⟨q1, q2⟩ := q
  simp only at w1 w2 hbl
  subst w1
  clear hW hwt hb
  refine cw_go tabOK 99 (by simp only [go_sem]; try exact rfl) (by simp [go_sem]) ?_
  refine cw_call rfl rfl (by simp only [go_sem]; try exact rfl) (by simp [go_sem]) ⟨_, Go.Proofs.Tryd.func17, by kernel_rfl, rfl⟩ (by simp [go_sem]) (text_at hx hl hf) (by simp [go_sem]) (by simp only [go_sem]; exact rfl) ?_
  obtain ⟨r, er, hp⟩ : ∃ r e, parseR s = (r, e) := ⟨_, _, rfl⟩
  obtain ⟨m, em, hm⟩ : ∃ m e, logR t = (m, e) := ⟨_, _, rfl⟩
  have hml : m.length ≤ 10000000 := by
    by_cases h0 : em = 0
    · subst h0
      have := (log_fit ht hm).2
      omega
    · have := log_err (s := t) (by rw [hm]; exact h0)
      rw [hm] at this
      simp only at this
      rw [this]; simp
  by_cases h0 : q2 = 0
  · subst h0
    have hq1 : q1 = x := w2 rfl
    subst hq1
    refine cw_go tabOK 99 (by simp only [go_sem]; try exact rfl) (by simp [go_sem]) ?_
    refine cw_cond (by simp only [go_sem]; try exact rfl) trivial (fun h => ?_) (fun h => ?_)
    · exfalso; simp at h
    refine cw_go tabOK 99 (by simp only [go_sem]; try exact rfl) (by simp [go_sem]) ?_
    refine cw_call rfl rfl (by simp only [go_sem]; try exact rfl) (by simp [go_sem]) ⟨_, Go.Proofs.Tryd.func18, by kernel_rfl, rfl⟩ (by simp [go_sem]) (parse_at hp (by omega)) (by simp [go_sem]) (by simp only [go_sem]; exact rfl) ?_
    simp only [go_sem, recRow]
    refine cw_go tabOK 99 (by simp only [go_sem]; try exact rfl) (by simp [go_sem]) ?_
    refine cw_call rfl rfl (by simp only [go_sem]; try exact rfl) (by simp [go_sem]) ⟨_, Go.Proofs.Tryd.func19, by kernel_rfl, rfl⟩ (by simp [go_sem]) (rline_at hp (by omega)) (by simp [go_sem]) (by simp only [go_sem]; exact rfl) ?_
    simp only [go_sem, recRow]
    refine cw_runN tabOK 6 (by simp only [go_sem]; exact rfl) (by simp only [go_sem]; exact rfl) (by simp only [go_sem]; try exact rfl) (by simp [go_sem]) ?_
    refine cw_goR 99 (by simp only [go_sem]; try exact rfl) ?_
    refine cw_runN tabOK 3 (by simp only [go_sem]; exact rfl) (by simp only [go_sem]; exact rfl) (by simp only [go_sem]; try exact rfl) (by simp [go_sem]) ?_
    simp only [bne_self_eq_false]
    refine cw_go tabOK 99 (by simp only [go_sem]; try exact rfl) (by simp [go_sem]) ?_
    refine cw_freeze 98 rfl (by rfl) ?_
    refine cw_freeze 100 rfl (by rfl) ?_
    simp only [go_sem]
    refine cw_callC rfl (by simp only [go_sem]; try exact rfl) (by simp only [go_sem]; try exact rfl) (by simp [go_sem]) ⟨_, Go.Proofs.Tryd.func20, by kernel_rfl, rfl⟩ (by simp [go_sem]) (fun hb => (sameLog_ok [r] [r] (by simp) (by simp))) (by simp [go_sem]) (by simp only [go_sem]; exact rfl) ?_
    refine cw_go tabOK 99 (by simp only [go_sem]; try exact rfl) (by simp [go_sem]) ?_
    refine cw_cond (by simp only [go_sem]; try exact rfl) trivial (fun h => ?_) (fun h => ?_)
    · exfalso; simp at h
    refine cw_go tabOK 99 (by simp only [go_sem]; try exact rfl) (by simp [go_sem]) ?_
    refine cw_call rfl rfl (by simp only [go_sem]; try exact rfl) (by simp [go_sem]) ⟨_, Go.Proofs.Tryd.func21, by kernel_rfl, rfl⟩ (by simp [go_sem]) (log_at hm (by omega) htp) (by simp [go_sem]) (by simp only [go_sem]; exact rfl) ?_
    refine cw_go tabOK 99 (by simp only [go_sem]; try exact rfl) (by simp [go_sem]) ?_
    refine cw_call rfl rfl (by simp only [go_sem]; try exact rfl) (by simp [go_sem]) ⟨_, Go.Proofs.Tryd.func22, by kernel_rfl, rfl⟩ (by simp [go_sem]) (rlog_at hm (by omega) htp) (by simp [go_sem]) (by simp only [go_sem]; exact rfl) ?_
    refine cw_go tabOK 99 (by simp only [go_sem, beq_self_eq_true]; try exact rfl) (by simp [go_sem, beq_self_eq_true]) ?_
    refine cw_callC rfl (by simp only [go_sem]; try exact rfl) (by simp only [go_sem]; try exact rfl) (by simp [go_sem]) ⟨_, Go.Proofs.Tryd.func20, by kernel_rfl, rfl⟩ (by simp [go_sem]) (fun hb => (sameLog_ok m m (by omega) (by omega))) (by simp [go_sem]) (by simp only [go_sem]; exact rfl) ?_
    refine cw_go tabOK 99 (by simp only [go_sem]; try exact rfl) (by simp [go_sem]) ?_
    refine cw_ret ⟨_, _, (by simp only [go_sem]; try exact rfl), by simp [go_sem], _, .inr (.inl rfl), ?_⟩
    simp
  · have hx0 := h3 h0
    subst hx0
    have hq : (q2 == 0) = false := beq_eq_false_iff_ne.2 h0
    refine cw_go tabOK 99 (by simp only [go_sem, hq]; try exact rfl) (by simp [go_sem, hq]) ?_
    refine cw_cond (by simp only [go_sem]; try exact rfl) trivial (fun h => ?_) (fun h => ?_)
    · exfalso; simp [hq] at h
    refine cw_go tabOK 99 (by simp only [go_sem]; try exact rfl) (by simp [go_sem]) ?_
    refine cw_call rfl rfl (by simp only [go_sem]; try exact rfl) (by simp [go_sem]) ⟨_, Go.Proofs.Tryd.func18, by kernel_rfl, rfl⟩ (by simp [go_sem]) (parse_at hp (by omega)) (by simp [go_sem]) (by simp only [go_sem]; exact rfl) ?_
    simp only [go_sem, recRow]
    refine cw_go tabOK 99 (by simp only [go_sem]; try exact rfl) (by simp [go_sem]) ?_
    refine cw_call rfl rfl (by simp only [go_sem]; try exact rfl) (by simp [go_sem]) ⟨_, Go.Proofs.Tryd.func19, by kernel_rfl, rfl⟩ (by simp [go_sem]) (rline_at hp (by omega)) (by simp [go_sem]) (by simp only [go_sem]; exact rfl) ?_
    simp only [go_sem, recRow]
    refine cw_runN tabOK 6 (by simp only [go_sem]; exact rfl) (by simp only [go_sem]; exact rfl) (by simp only [go_sem]; try exact rfl) (by simp [go_sem]) ?_
    refine cw_goR 99 (by simp only [go_sem]; try exact rfl) ?_
    refine cw_runN tabOK 3 (by simp only [go_sem]; exact rfl) (by simp only [go_sem]; exact rfl) (by simp only [go_sem]; try exact rfl) (by simp [go_sem]) ?_
    simp only [bne_self_eq_false]
    refine cw_go tabOK 99 (by simp only [go_sem]; try exact rfl) (by simp [go_sem]) ?_
    refine cw_freeze 98 rfl (by rfl) ?_
    refine cw_freeze 100 rfl (by rfl) ?_
    simp only [go_sem]
    refine cw_callC rfl (by simp only [go_sem]; try exact rfl) (by simp only [go_sem]; try exact rfl) (by simp [go_sem]) ⟨_, Go.Proofs.Tryd.func20, by kernel_rfl, rfl⟩ (by simp [go_sem]) (fun hb => (sameLog_ok [r] [r] (by simp) (by simp))) (by simp [go_sem]) (by simp only [go_sem]; exact rfl) ?_
    refine cw_go tabOK 99 (by simp only [go_sem]; try exact rfl) (by simp [go_sem]) ?_
    refine cw_cond (by simp only [go_sem]; try exact rfl) trivial (fun h => ?_) (fun h => ?_)
    · exfalso; simp at h
    refine cw_go tabOK 99 (by simp only [go_sem]; try exact rfl) (by simp [go_sem]) ?_
    refine cw_call rfl rfl (by simp only [go_sem]; try exact rfl) (by simp [go_sem]) ⟨_, Go.Proofs.Tryd.func21, by kernel_rfl, rfl⟩ (by simp [go_sem]) (log_at hm (by omega) htp) (by simp [go_sem]) (by simp only [go_sem]; exact rfl) ?_
    refine cw_go tabOK 99 (by simp only [go_sem]; try exact rfl) (by simp [go_sem]) ?_
    refine cw_call rfl rfl (by simp only [go_sem]; try exact rfl) (by simp [go_sem]) ⟨_, Go.Proofs.Tryd.func22, by kernel_rfl, rfl⟩ (by simp [go_sem]) (rlog_at hm (by omega) htp) (by simp [go_sem]) (by simp only [go_sem]; exact rfl) ?_
    refine cw_go tabOK 99 (by simp only [go_sem, beq_self_eq_true]; try exact rfl) (by simp [go_sem, beq_self_eq_true]) ?_
    refine cw_callC rfl (by simp only [go_sem]; try exact rfl) (by simp only [go_sem]; try exact rfl) (by simp [go_sem]) ⟨_, Go.Proofs.Tryd.func20, by kernel_rfl, rfl⟩ (by simp [go_sem]) (fun hb => (sameLog_ok m m (by omega) (by omega))) (by simp [go_sem]) (by simp only [go_sem]; exact rfl) ?_
    refine cw_go tabOK 99 (by simp only [go_sem]; try exact rfl) (by simp [go_sem]) ?_
    refine cw_ret ⟨_, _, (by simp only [go_sem]; try exact rfl), by simp [go_sem], _, .inr (.inl rfl), ?_⟩
    simp
end La

namespace La
open Go Go.Eng

theorem want_len : ∀ (l : List Rec) (i : Nat) (q : List UInt8 × Int), (∀ r, r ∈ l → r.Ok) → ((l.take i).foldl wantS q).1.length ≤ q.1.length + 2 * szL Rec.sz l + 151 * l.length
  | [], i, q, _ => by simp
  | r :: l, 0, q, _ => by simp only [List.take_zero, List.foldl_nil]; omega
  | r :: l, i + 1, q, h => by
    have h1 := print_short r (h r (by simp))
    have ih := want_len l i (wantS q r) (fun x hx => h x (List.mem_cons_of_mem _ hx))
    have h2 : (wantS q r).1.length = q.1.length + (printR r).1.length + 1 := by simp [wantS]; omega
    simp only [List.take_succ_cons, List.foldl_cons, szL, List.length_cons]
    omega
theorem want_short {l : List Rec} (h : ∀ r, r ∈ l → r.Ok) (hs : szL Rec.sz l ≤ 1048576) : ∀ i, i ≤ l.length → (wantL (l.take i)).1.length ≤ 1000000000 := fun i _ => by
  have h1 := want_len l i ([], 0) h
  have h2 := recs_len hs
  unfold wantL
  simp only [List.length_nil] at h1
  omega
end La

namespace Go.Proofs.YtenlcncffplamaaDoor.wireTells
set_option maxRecDepth 100000
set_option linter.unusedSimpArgs false
set_option linter.unusedVariables false
open Go Go.ChangeShapes Go.WideShapes Go.ChangeAt Go.RowKit Go.Eng

theorem contract (H : Type) (enc : TypeId × Value → H) (W : World) (base : Nat) (args : Array Value) (ds gs : List (DataW H)) (before : List MemPlace)
    (hval : ∀ (j : Nat) t v, Tryd.f5.params[j]? = some t → args[j]? = some v → Value.okWide Tryd.prog W .any base t v)
    (hW : DataW.Whole enc Tryd.prog Tryd.f5.params.toList Rows.wireTellsSpec.vars false W args.toList ds gs before) (hk : Rows.uptoSmall H (ds ++ gs) = true)
    (hL : laidMetH Tryd.prog Rows.wireTellsUptoRow.laid W) (hshp : W.ShapedOpen Tryd.prog) :
    Calls Tryd.prog 5 args W fun e W' => ∃ v, e = .returned v ∧ Rows.wireTellsSpec.post enc Tryd.prog Tryd.f5 false true false false W args v W' := by
  have hW' := hW
  obtain ⟨p, q, hA0, hV, rfl, hfz, hnd⟩ := hW
  have hA : DataW.TrodAll enc Tryd.prog W 0 (fun _ => true) true Tryd.f5.params.toList args.toList ds p := hA0
  rw [Tryd.params5] at hA hval
  obtain ⟨v0, vs0, d0, ds0, p0, q0, hargs, rfl, rfl, h0, r0⟩ := trodAll_cons hA
  obtain ⟨v1, vs1, d1, ds1, p1, q1, rfl, rfl, rfl, h1, r1⟩ := trodAll_cons r0
  obtain ⟨v2, vs2, d2, ds2, p2, q2, rfl, rfl, rfl, h2, r2⟩ := trodAll_cons r1
  obtain ⟨rfl, rfl, rfl⟩ := trodAll_nil r2
  obtain rfl : args = #[v0, v1, v2] := by cases args; simp_all
  obtain ⟨rfl, rfl⟩ := trodVars_none hV
  have hk2 : Rows.uptoBulkAll [d0, d1, d2] ≤ 1048576 := of_decide_eq_true hk
  simp only [Rows.uptoBulkAll] at hk2
  obtain ⟨x0, o0, s0, c0⟩ := La.open_arg (La.rep_recs) h0
  obtain ⟨a0, len0, cap0, rfl⟩ := okWide_slice Tryd.underlying31 (hval 0 31 v0 rfl rfl)
  have R0 := La.rdc_one c0 (fun _ h => nomatch h)
  obtain ⟨x1, o1, s1, c1⟩ := La.open_arg (La.rep_str Tryd.underlying9 (La.cells_tab (t := 9) (n := 1) rfl (by decide))) h1
  obtain ⟨b1, rfl⟩ := okWide_string Tryd.underlying9 (hval 1 9 v1 rfl rfl)
  have R1 := La.rdc_one c1 (fun _ h => nomatch h)
  obtain ⟨x2, o2, s2, c2⟩ := La.open_arg (La.rep_str Tryd.underlying9 (La.cells_tab (t := 9) (n := 1) rfl (by decide))) h2
  obtain ⟨b2, rfl⟩ := okWide_string Tryd.underlying9 (hval 2 9 v2 rfl rfl)
  have R2 := La.rdc_one c2 (fun _ h => nomatch h)
  refine (calls_of_fn (La.wire_tells x0 x1 x2 (by have := La.recs_len (l := x0) (by omega); omega) (La.recs_fit o0 (by omega)) (La.want_short o0 (by omega)) (by omega) (by omega)) (w := W) (vs := [.slice a0 len0 cap0, .string b1, .string b2]) rfl (S := fun b => b < W.heap.size) (fun j x h => ?_) (fun _ h => h) (La.gok_laid hL)).mono fun e W' ⟨v, μ, S', he, hv, hf⟩ => ?_
  · rcases j with _ | _ | _ | j
    · simp only [List.getElem?_cons_zero, List.getElem?_cons_succ, Option.some.injEq] at h; subst h; exact R0
    · simp only [List.getElem?_cons_zero, List.getElem?_cons_succ, Option.some.injEq] at h; subst h; exact R1
    · simp only [List.getElem?_cons_zero, List.getElem?_cons_succ, Option.some.injEq] at h; subst h; exact R2
    · simp at h
  subst he
  obtain rfl := hv.inv_bool
  exact ⟨_, rfl, post_true La.laid La.rowed La.full (by rw [Tryd.params5]; decide) rfl Tryd.underlying4 rfl hW' hf rfl rfl rfl⟩

theorem laid_met (os : Os) : laidMet Tryd.prog Rows.wireTellsUptoRow.laid ((La.laidWorld os).forCall (fun _ _ => 0) ⟨#[], #[.slice none 0 0, .string ⟨#[]⟩, .string ⟨#[]⟩], []⟩).memory :=
  laidMet_of_run' 8 (by kernel_rfl) (by kernel_rfl)
theorem reads (os : Os) {H : Type} (enc : TypeId × Value → H) : ∃ places, DataW.whole enc Tryd.prog ((La.laidWorld os).forCall (fun _ _ => 0) ⟨#[], #[.slice none 0 0, .string ⟨#[]⟩, .string ⟨#[]⟩], []⟩).memory Tryd.f5.params.toList Rows.wireTellsSpec.vars false (#[.slice none 0 0, .string ⟨#[]⟩, .string ⟨#[]⟩] : Array Value).toList 8 = some ([.nil, .lit (.string []), .lit (.string [])], [], places) :=
  ⟨[], by kernel_rfl⟩

theorem lifted (os : Os) (started : os.Started) (H : Type) (enc : TypeId × Value → H) (F : Stop.Interp) :
    ReturnsInHanded {} Tryd.checked os 5 .any ((Rows.OpenSpec.upto Rows.wireTellsSpec).preRow enc Tryd.prog Tryd.f5 Rows.wireTellsUptoRow.domain false Rows.wireTellsUptoRow.laid) (((Rows.OpenSpec.upto Rows.wireTellsSpec).at F).post enc Tryd.prog Tryd.f5 false true false false) := by
  obtain ⟨places, hx⟩ := reads os enc
  refine returnsInHanded_of_row (C := Tryd.checked) (s := Rows.OpenSpec.upto Rows.wireTellsSpec) La.own started (by kernel_rfl) Tryd.func5
    (witness_row_atRef (enc := enc) (C := Tryd.checked) false (La.laidWorld os) #[.slice none 0 0, .string ⟨#[]⟩, .string ⟨#[]⟩] rfl (by kernel_rfl) (by kernel_rfl) (by kernel_rfl)
      (OpenSpec.preRow_of_cond 8 hx (by kernel_rfl) (fun k hk => by cases hk; kernel_rfl) (by kernel_rfl) (laid_met os))) ?_
  intro W base args ds gs before hval hW _ hk _ hL hsh _
  exact contract H enc W base args ds gs before hval hW (hk _ rfl) hL hsh

theorem over : Rows.wireTellsUptoRow.holds Tryd.pinned (Rows.OpenSpec.upto Rows.wireTellsSpec) :=
  OpenClaim.holds_of_cond 5 Tryd.f5 rfl rfl rfl rfl rfl rfl rfl ⟨rfl, rfl, rfl, rfl, rfl⟩ rfl rfl rfl rfl rfl (by kernel_rfl) Tryd.func5 (by kernel_rfl)
    (of_decide_eq_true (by kernel_rfl)) (by unfold Func.isWrapper; first | (rw [if_pos (by decide +kernel)]; kernel_rfl) | (rw [if_neg (by decide +kernel)]; exact ⟨rfl, rfl⟩))
    (fun os started H enc _ F => by rw [OpenClaim.pre_eq_preRow]; exact lifted os started H enc F)

theorem plain (f : FuncId) (fn : Func) (hf : Tryd.pinned.checked.prog.funcNamed "longabsence/lalaw5.WireTells" = some f) (hfn : Tryd.pinned.checked.prog.funcs[f]? = some fn) :
    true = Tryd.pinned.checked.prog.looks [] ∧ ∀ (j : Nat) t, fn.params[j]? = some t → Tryd.pinned.checked.prog.wantsStandIn t = false := by
  obtain rfl : f = 5 := Option.some.inj ((show Tryd.prog.funcNamed "longabsence/lalaw5.WireTells" = some 5 by kernel_rfl).symm.trans hf) |>.symm
  obtain rfl : fn = Tryd.f5 := (Option.some.inj (Tryd.func5.symm.trans hfn)).symm
  refine ⟨by kernel_rfl, fun j t ht => ?_⟩
  rw [Tryd.params5] at ht
  rcases j with _ | _ | _ | j
  · obtain rfl : t = 31 := by simpa using ht.symm
    exact (show Tryd.prog.wantsStandIn 31 = false by kernel_rfl)
  · obtain rfl : t = 9 := by simpa using ht.symm
    exact (show Tryd.prog.wantsStandIn 9 = false by kernel_rfl)
  · obtain rfl : t = 9 := by simpa using ht.symm
    exact (show Tryd.prog.wantsStandIn 9 = false by kernel_rfl)
  · simp at ht

theorem proved : Rows.WireTellsUptoCardSaid :=
  Claim7.holds_tied_plain_at .later [] _ _ _ _ over (fun _ h => by cases h) (by kernel_rfl) (fun _ h => by cases h) wireTellsUpto_row_tie rfl ⟨rfl, rfl⟩ (by kernel_rfl) rfl plain (by kernel_rfl)
end Go.Proofs.YtenlcncffplamaaDoor.wireTells
