/- Texts of this claim, part 4: Cut, PWire2, Hex, Print, Parse, PWire3, LogW, TextW, Ali5, WTurns, LaidW, EngAN, RNum, RPrint. No condition. -/
import Derived.Lib.ItoaLen
import Derived.Shelf.Strings.MapGrows
import Derived.Test.YtenlcncffplamaaDoorCards
import Derived.Test.YtenlcncffplamaaDoorTie
import Derived.Deep.DeepHandedRow
import Derived.Deep.DeepWitnessRowRef
import Derived.Lib.LaidTab
import Derived.Stop.LaidErr
import Derived.WideLaws
import Derived.Test.YtenlcncffplamaaDoorWA3
namespace La
open Go Go.Eng Go.Proofs
set_option maxRecDepth 10000
set_option linter.unusedSimpArgs false
set_option linter.unusedVariables false

/-- how far one came: what is done, and the piece at hand -/
def Cutting (c : UInt8) (s : List UInt8) (i : Nat) (done : List (List UInt8)) (cur : List UInt8) : Prop :=
  i ≤ s.length ∧ cutA c done cur (s.drop i) = cutL c s ∧ done.length ≤ i ∧ cur.length ≤ i

theorem cut_ok (s : List UInt8) (c : UInt8) (hs : s.length ≤ 100000000) : FnOK Tryd.prog 25 [.str s, .int .u8 (c.toNat : Int)] [] (fun r _ => r = .sl ((cutL c s).map strRow)) := by
  refine fn_of_cwW tabOK (Go.Proofs.Tryd.func25) rfl (fun C => ?_)
  simp only [Go.Proofs.Tryd.ntmps25, Go.Proofs.Tryd.results25, go_sem]
  refine cw_go tabOK 99 (by simp only [go_sem]; try exact rfl) (by simp [go_sem]) ?_
  refine cw_le (le_mv 7 20 (by simp only [go_sem]; exact rfl) (by simp only [go_sem]; try exact rfl) (by simp only [go_sem]; try exact rfl) (by simp only [go_sem, hdel]; exact rfl) (by simp only [go_sem]; try exact rfl) (by simp only [go_sem, mv1, kill]; exact rfl)) ?_
  refine cw_loopS (fun x : Nat × List (List UInt8) × List UInt8 => Cutting c s x.1 x.2.1 x.2.2) (fun x => s.length - x.1) (fun x => [(5, .osl 20 1 0 (x.2.1.length + 1)), (6, .any), (7, .any), (10, .int .i64 x.1), (11, .any), (12, .any), (13, .any), (14, .any), (15, .any), (16, .any), (17, .any), (18, .any), (19, .any), (20, .any), (21, .any), (22, .any), (23, .any), (24, .any), (25, .any), (26, .any), (27, .any), (28, .any), (29, .any), (30, .any), (31, .any), (32, .any), (33, .any), (34, .any), (35, .any), (36, .any), (37, .any), (38, .any)]) (fun x => [(20, .cells 9 1 (x.2.1.map strRow ++ [[.str x.2.2]]))]) (0, [], []) ⟨by omega, by rw [List.drop_zero, cutA_cut], by simp, by simp⟩ ?_ fun x hx => ?_
  · simp only [go_sem]
    exact le_sub (by simp [go_sem]) (by simp [go_sem]) (by simp [go_sem])
  obtain ⟨i, done, cur⟩ := x
  obtain ⟨hi, hc, hd, hcl⟩ := hx
  simp only at hi hc hd hcl
  simp only [go_sem]
  refine cw_go tabOK 99 (by simp only [go_sem]; try exact rfl) (by simp [go_sem]) ?_
  refine cw_cond (by simp only [go_sem]; try exact rfl) trivial (fun h => ?_) (fun h => ?_)
  · have hlt : i < s.length := by simp at h; omega
    have hw : IntKind.i64.wrap ((i : Int) + 1) = ((i + 1 : Nat) : Int) := by rw [Eng.wrap_small (by omega) (by omega)]; rfl
    have hdr : s.drop i = s.getD i 0 :: s.drop (i + 1) := by
      rw [List.getD_eq_getElem?_getD, List.getElem?_eq_getElem hlt]; simp
    have hdt : (s.take (i + 1)).drop i = [s.getD i 0] := by
      rw [take_succ_getD hlt, List.drop_left' (by rw [List.length_take]; omega)]; rfl
    rw [hdr, cutA] at hc
    refine cw_go tabOK 99 (by simp only [go_sem]; try exact rfl) ?_ ?_
    · simp; omega
    generalize s.getD i 0 = x at hc hdt
    refine cw_cond (by simp only [go_sem]; try exact rfl) trivial (fun h => ?_) (fun h => ?_)
    · have hx : x = c := UInt8.toNat_inj.1 (by have : ((x.toNat : Nat) : Int) = c.toNat := by simpa using h
                                               omega)
      rw [if_pos hx] at hc
      have htk : List.take (done.length + 1) (done.map strRow ++ [[AV.str cur]]) = done.map strRow ++ [[AV.str cur]] := List.take_of_length_le (by simp)
      refine cw_go tabOK 99 (by simp only [go_sem, hw]; try exact rfl) ?_ ?_
      · simp [htk, refs]
        exact ⟨by intro row h; simp at h; subst h; rfl, by omega, fun x _ y hy => by simp [strRow] at hy; subst hy; simp [refs]⟩
      refine cw_back ⟨(i + 1, done ++ [cur], []), ⟨by omega, hc, by simp; omega, by simp⟩, by simp only; omega, le_sub ?_ ?_ ?_⟩
      · simp [go_sem]
      · simp [go_sem, htk, strRow]
      · simp [go_sem]
    · have hx : ¬ x = c := fun e => by subst e; simp at h
      rw [if_neg hx] at hc
      have hgr : (done.map strRow ++ [[AV.str cur]]).getD done.length [] = [AV.str cur] := by simp [List.getD_eq_getElem?_getD]
      have hsub : IntKind.i64.wrap (((done.length + 1 : Nat) : Int) - 1) = (done.length : Int) := by rw [Eng.wrap_small (by omega) (by omega)]; omega
      refine cw_draw mixed ?_
      refine seg_start rfl ?_
      refine seg_runN tabOK 17 (by simp only [go_sem]; exact rfl) (by simp only [go_sem]; exact rfl) (by simp only [go_sem, hgr, hsub, hw]; try exact rfl) ?_ (by simp only [go_sem]; exact rfl) ?_
      · simp [hgr, hsub, hw]; omega
      refine seg_store tabOK rfl rfl (by simp only [go_sem]; try exact rfl) (by simp only [go_sem]; try exact rfl) (by simp only [go_sem]; try exact rfl) (by first | trivial | simp [go_sem]) (by simp only [go_sem]; exact rfl) (by simp [go_sem]) (by simp only [go_sem]; exact rfl) (by simp only [go_sem]; exact rfl) (by simp only [go_sem]; exact rfl) ?_
      refine seg_end (by kernel_rfl) (by simp only [go_sem]; exact rfl) ?_
      refine draw_close (by kernel_rfl) ?_
      simp only [go_sem, hdt]
      refine cw_go tabOK 99 (by simp only [go_sem, hw]; try exact rfl) (by simp [go_sem, hw]) ?_
      refine cw_back ⟨(i + 1, done, cur ++ [x]), ⟨by omega, hc, by simp only; omega, by simp; omega⟩, by simp only; omega, le_sub ?_ ?_ ?_⟩
      · simp [go_sem]
      · simp [go_sem]
      · simp [go_sem]
  · have e : i = s.length := by simp at h; omega
    subst e
    rw [List.drop_length, cutA] at hc
    have hrows : done.map strRow ++ [[AV.str cur]] = (cutL c s).map strRow := by rw [← hc]; simp [strRow]
    have hlen : done.length + 1 = (cutL c s).length := by rw [← hc]; simp
    rw [hrows, hlen]
    refine cw_go tabOK 99 (by simp only [go_sem]; try exact rfl) (by simp [go_sem]) ?_
    refine cw_freeze 20 rfl (strRow_pure _) ?_
    refine cw_ret ⟨_, _, (by simp only [go_sem]; try exact rfl), by simp [go_sem], _, .inr (.inl rfl), ?_⟩
    simp
end La

namespace La
open Go Go.Lib

def words : List (List UInt8) := [[109, 97, 107, 101], [100, 105, 114], [115, 116, 111, 114, 101], [114, 101, 109, 111, 118, 101], [114, 101, 110, 97, 109, 101]]
def kindW (w : List UInt8) : Int := if w = [109, 97, 107, 101] then 1 else if w = [100, 105, 114] then 2 else if w = [115, 116, 111, 114, 101] then 3 else if w = [114, 101, 109, 111, 118, 101] then 4 else if w = [114, 101, 110, 97, 109, 101] then 5 else 0
def wordK (k : Int) : List UInt8 := words.getD (k - 1).toNat []

def zeroRec : Rec := ⟨⟨0, 0, 0, [], 0, [], []⟩, 0, 0⟩

def fieldsL (r : Rec) : List (List UInt8) :=
  wordK r.act.kind :: itoa r.id :: itoa r.version :: itoa r.act.fid ::
    (if r.act.kind = 3 then [hexR r.act.data] else itoa r.act.dir :: r.act.name :: (if r.act.kind = 5 then [itoa r.act.to, r.act.toName] else []))

def printR (r : Rec) : List UInt8 × Int :=
  if r.act.kind < 1 ∨ 5 < r.act.kind then ([], 1) else
    if r.act.kind = 3 ∨ nameB r.act.name = true ∧ (r.act.kind = 5 → nameB r.act.toName = true) then (join (fieldsL r) [32], 0) else ([], 7)

def recOf (k : Int) (l : List (List UInt8)) : Rec :=
  if k = 3 then ⟨⟨3, numV (l.getD 3 []), 0, [], 0, [], (unhexR (l.getD 4 [])).1⟩, numV (l.getD 2 []), numV (l.getD 1 [])⟩
  else if k = 5 then ⟨⟨5, numV (l.getD 3 []), numV (l.getD 4 []), l.getD 5 [], numV (l.getD 6 []), l.getD 7 [], []⟩, numV (l.getD 2 []), numV (l.getD 1 [])⟩
  else ⟨⟨k, numV (l.getD 3 []), numV (l.getD 4 []), l.getD 5 [], 0, [], []⟩, numV (l.getD 2 []), numV (l.getD 1 [])⟩
def nums3 (l : List (List UInt8)) : Bool := numB (l.getD 1 []) && numB (l.getD 2 []) && numB (l.getD 3 [])
def parseL (l : List (List UInt8)) : Rec × Int :=
  let k := kindW (l.getD 0 [])
  if k = 0 then (zeroRec, 1) else if l.length ≠ (if k = 3 then 5 else if k = 5 then 8 else 6) then (zeroRec, 2) else
    if k = 3 then if nums3 l && (unhexR (l.getD 4 [])).2 then (recOf k l, 0) else (zeroRec, 2)
    else if !(nums3 l && numB (l.getD 4 []) && (k != 5 || numB (l.getD 6 []))) then (zeroRec, 2)
      else if !nameB (l.getD 5 []) || (k == 5 && !nameB (l.getD 7 [])) then (zeroRec, 7) else (recOf k l, 0)
def parseR (s : List UInt8) : Rec × Int := parseL (cutL 32 s)

/-- what of a record its line tells -/
def canon (r : Rec) : Rec :=
  ⟨⟨r.act.kind, r.act.fid, if r.act.kind = 3 then 0 else r.act.dir, if r.act.kind = 3 then [] else r.act.name, if r.act.kind = 5 then r.act.to else 0, if r.act.kind = 5 then r.act.toName else [], if r.act.kind = 3 then r.act.data else []⟩, r.version, r.id⟩

theorem nameB_chars {x : List UInt8} (h : nameB x = true) : ∀ c, c ∈ x → okC c = true := by
  unfold nameB at h
  rw [Bool.and_eq_true] at h
  exact List.all_eq_true.1 h.2

theorem okC_range {c : UInt8} (h : okC c = true) : 48 ≤ c.toNat := by
  unfold okC at h
  simp only [Bool.or_eq_true, Bool.and_eq_true, decide_eq_true_eq] at h
  omega

theorem itoa_low {n : Int} {c : UInt8} (h : c ∈ itoa n) : 33 ≤ c.toNat := by have := itoa_char n c h; omega
theorem hex_low {d : List UInt8} {c : UInt8} (h : c ∈ hexR d) : 33 ≤ c.toNat := by have := hex_char d c h; omega
theorem name_low {x : List UInt8} (hx : nameB x = true) {c : UInt8} (h : c ∈ x) : 33 ≤ c.toNat := by have := okC_range (nameB_chars hx c h); omega
theorem word_low : ∀ w, w ∈ words → ∀ c, c ∈ w → 33 ≤ c.toNat := by decide

theorem kind_cases {k : Int} (h1 : ¬ (k < 1 ∨ 5 < k)) : k = 1 ∨ k = 2 ∨ k = 3 ∨ k = 4 ∨ k = 5 := by omega

theorem wordK_mem {k : Int} (h1 : ¬ (k < 1 ∨ 5 < k)) : wordK k ∈ words ∧ kindW (wordK k) = k := by
  rcases kind_cases h1 with rfl | rfl | rfl | rfl | rfl <;> decide

theorem kindW_word {w : List UInt8} (h : kindW w ≠ 0) : ¬ (kindW w < 1 ∨ 5 < kindW w) ∧ wordK (kindW w) = w := by
  unfold kindW at h ⊢
  by_cases h1 : w = [109, 97, 107, 101]
  · subst h1; decide
  · by_cases h2 : w = [100, 105, 114]
    · subst h2; decide
    · by_cases h3 : w = [115, 116, 111, 114, 101]
      · subst h3; decide
      · by_cases h4 : w = [114, 101, 109, 111, 118, 101]
        · subst h4; decide
        · by_cases h5 : w = [114, 101, 110, 97, 109, 101]
          · subst h5; decide
          · simp [h1, h2, h3, h4, h5] at h

/-- no field of a record that is printed has a blank, or a line feed -/
theorem fields_low {r : Rec} {s : List UInt8} (h : printR r = (s, 0)) : ∀ x, x ∈ fieldsL r → ∀ c, c ∈ x → 33 ≤ c.toNat := by
  unfold printR at h
  split at h
  · cases h
  · rename_i hk
    split at h
    · rename_i hn
      intro x hx c hc
      unfold fieldsL at hx
      simp only [List.mem_cons] at hx
      rcases hx with rfl | rfl | rfl | rfl | hx
      · exact word_low _ (wordK_mem hk).1 c hc
      · exact itoa_low hc
      · exact itoa_low hc
      · exact itoa_low hc
      · split at hx
        · rw [List.mem_singleton] at hx; subst hx; exact hex_low hc
        · rename_i h3
          obtain ⟨n1, n2⟩ := hn.resolve_left h3
          simp only [List.mem_cons] at hx
          rcases hx with rfl | rfl | hx
          · exact itoa_low hc
          · exact name_low n1 hc
          · split at hx
            · rename_i h5
              simp only [List.mem_cons, List.not_mem_nil, or_false] at hx
              rcases hx with rfl | rfl
              · exact itoa_low hc
              · exact name_low (n2 h5) hc
            · cases hx
    · cases h

theorem printR_ok {r : Rec} {s : List UInt8} (h : printR r = (s, 0)) : ¬ (r.act.kind < 1 ∨ 5 < r.act.kind) ∧ (r.act.kind = 3 ∨ nameB r.act.name = true ∧ (r.act.kind = 5 → nameB r.act.toName = true)) ∧ join (fieldsL r) [32] = s := by
  unfold printR at h
  split at h
  · cases h
  · rename_i hk
    split at h
    · rename_i hn
      exact ⟨hk, hn, (Prod.mk.inj h).1⟩
    · cases h

theorem cut_fields {r : Rec} {s : List UInt8} (h : printR r = (s, 0)) : cutL 32 s = fieldsL r := by
  obtain ⟨_, _, rfl⟩ := printR_ok h
  unfold fieldsL
  refine cut_join 32 _ _ fun x hx hc => ?_
  have := fields_low h x hx 32 hc
  revert this; decide

theorem fields_canon (r : Rec) : fieldsL (canon r) = fieldsL r := by
  unfold fieldsL canon
  by_cases h3 : r.act.kind = 3
  · simp [h3]
  · by_cases h5 : r.act.kind = 5
    · simp [h5]
    · simp [h3, h5]

theorem print_canon {r : Rec} {s : List UInt8} (h : printR r = (s, 0)) : printR (canon r) = (s, 0) := by
  obtain ⟨h1, h2, h3⟩ := printR_ok h
  have hk : (canon r).act.kind = r.act.kind := rfl
  unfold printR
  rw [hk, if_neg h1, fields_canon, h3, if_pos]
  by_cases h3 : r.act.kind = 3
  · exact .inl h3
  · obtain ⟨n1, n2⟩ := h2.resolve_left h3
    refine .inr ⟨by simp [canon, h3, n1], fun h5 => by simp [canon, h5, n2 h5]⟩

/-- WHAT IS PRINTED IS READ. -/
theorem print_parse {r : Rec} {s : List UInt8} (hr : r.Ok) (h : printR r = (s, 0)) : parseR s = (canon r, 0) := by
  unfold parseR
  rw [cut_fields h]
  obtain ⟨hk, hn, _⟩ := printR_ok h
  obtain ⟨⟨k, f, d, nm, tt, tn, dt⟩, v, id⟩ := r
  obtain ⟨⟨_, ⟨f1, f2⟩, ⟨d1, d2⟩, ⟨t1, t2⟩⟩, ⟨v1, v2⟩, ⟨i1, i2⟩⟩ := hr
  have hw := (wordK_mem hk).2
  simp only at hk hn hw f1 f2 d1 d2 t1 t2 v1 v2 i1 i2
  have hk0 : ¬ k = 0 := by omega
  unfold parseL
  simp only [fieldsL, List.getD_cons_zero, List.getD_cons_succ, hw, if_neg hk0, nums3, numB_itoa f1 f2, numB_itoa v1 v2, numB_itoa i1 i2, Bool.and_true, Bool.true_and]
  by_cases h3 : k = 3
  · subst h3
    simp [unhex_hex, recOf, canon, numV_itoa, f1, f2, v1, v2, i1, i2]
  · obtain ⟨n1, n2⟩ := hn.resolve_left h3
    by_cases h5 : k = 5
    · subst h5
      have n2 := n2 rfl
      simp [recOf, canon, numV_itoa, numB_itoa, f1, f2, v1, v2, i1, i2, d1, d2, t1, t2, n1, n2]
    · simp [h3, h5, recOf, canon, numV_itoa, numB_itoa, f1, f2, v1, v2, i1, i2, d1, d2, n1]

/-- WHAT IS READ IS PRINTED. -/
theorem parse_print {s : List UInt8} {r : Rec} (h : parseR s = (r, 0)) : printR r = (s, 0) := by
  have hj := join_cut 32 s
  unfold parseR at h
  generalize cutL 32 s = l at h hj
  subst hj
  unfold parseL at h
  simp only at h
  by_cases hk0 : kindW (l.getD 0 []) = 0
  · rw [if_pos hk0] at h; cases h
  rw [if_neg hk0] at h
  obtain ⟨hk, hw⟩ := kindW_word hk0
  generalize hkk : kindW (l.getD 0 []) = k at h hk hw hk0
  by_cases hl0 : l.length ≠ (if k = 3 then 5 else if k = 5 then 8 else 6)
  · rw [if_pos hl0] at h; cases h
  rw [if_neg hl0] at h
  have hlen := Decidable.of_not_not hl0
  clear hl0
  by_cases h3 : k = 3
  · subst h3
    rw [if_pos rfl] at h hlen
    split at h
    · rename_i hc
      rw [Bool.and_eq_true] at hc
      obtain ⟨c1, c2⟩ := hc
      obtain ⟨rfl, _⟩ := Prod.mk.inj h
      match l, hlen with
      | [a0, a1, a2, a3, a4], _ =>
        simp only [nums3, List.getD_cons_zero, List.getD_cons_succ, Bool.and_eq_true] at c1 c2 hw
        obtain ⟨⟨m1, m2⟩, m3⟩ := c1
        have hx : unhexR a4 = ((unhexR a4).1, true) := by rw [← c2]
        unfold printR
        rw [if_neg (by simp [recOf]), if_pos (.inl (by simp [recOf]))]
        simp [fieldsL, recOf, hw, numB_canon m1, numB_canon m2, numB_canon m3, hex_unhex hx]
    · cases h
  · rw [if_neg h3] at h hlen
    split at h
    · cases h
    rename_i hc
    split at h
    · cases h
    rename_i hn
    obtain ⟨rfl, _⟩ := Prod.mk.inj h
    simp only [Bool.not_eq_true, Bool.not_eq_false', Bool.and_eq_true, Bool.or_eq_true, bne_iff_ne, ne_eq] at hc hn
    obtain ⟨⟨c1, c2⟩, c3⟩ := hc
    by_cases h5 : k = 5
    · subst h5
      rw [if_pos rfl] at hlen
      match l, hlen with
      | [a0, a1, a2, a3, a4, a5, a6, a7], _ =>
        simp only [nums3, List.getD_cons_zero, List.getD_cons_succ, Bool.and_eq_true] at c1 c2 c3 hn hw
        obtain ⟨⟨m1, m2⟩, m3⟩ := c1
        have m6 := c3.resolve_left (by simp)
        have n1 : nameB a5 = true := by
          cases e : nameB a5 with
          | true => rfl
          | false => exact absurd (.inl (by rw [e]; rfl)) hn
        have n2 : nameB a7 = true := by
          cases e : nameB a7 with
          | true => rfl
          | false => exact absurd (.inr ⟨by rfl, by rw [e]; rfl⟩) hn
        unfold printR
        rw [if_neg (by simp [recOf]), if_pos (.inr ⟨by simp [recOf, n1], fun _ => by simp [recOf, n2]⟩)]
        simp [fieldsL, recOf, hw, numB_canon m1, numB_canon m2, numB_canon m3, numB_canon c2, numB_canon m6]
    · rw [if_neg h5] at hlen
      match l, hlen with
      | [a0, a1, a2, a3, a4, a5], _ =>
        simp only [nums3, List.getD_cons_zero, List.getD_cons_succ, Bool.and_eq_true] at c1 c2 hn hw
        obtain ⟨⟨m1, m2⟩, m3⟩ := c1
        have n1 : nameB a5 = true := by
          cases e : nameB a5 with
          | true => rfl
          | false => exact absurd (.inl (by rw [e]; rfl)) hn
        unfold printR
        have hkr : (recOf k [a0, a1, a2, a3, a4, a5]).act.kind = k := by simp [recOf, h3, h5]
        rw [hkr, if_neg hk, if_pos (.inr ⟨by simp [recOf, h3, h5, n1], fun e => absurd e h5⟩)]
        simp [fieldsL, hkr, h3, h5, hw]
        simp [recOf, h3, h5, numB_canon m1, numB_canon m2, numB_canon m3, numB_canon c2]
end La

namespace La
open Go Go.Eng Go.Proofs
set_option maxRecDepth 10000
set_option linter.unusedSimpArgs false
set_option linter.unusedVariables false

theorem wrap8 {n : Int} (h0 : 0 ≤ n) (h1 : n < 256) : IntKind.u8.wrap n = n := by
  simp [IntKind.wrap, IntKind.signed, IntKind.bits]; omega

theorem byte_all {P : Int → Prop} (h : ∀ n : Fin 256, P (n.val : Int)) (c : UInt8) : P (c.toNat : Int) := h ⟨c.toNat, c.toNat_lt⟩

theorem byte_shr (c : UInt8) : ((c.toNat : Int)).fdiv (2 ^ (min 4 8 : Nat)) = ((c.toNat / 16 : Nat) : Int) := by
  have : ∀ n : Fin 256, ((n.val : Int)).fdiv (2 ^ (min 4 8 : Nat)) = ((n.val / 16 : Nat) : Int) := by decide +kernel
  exact this ⟨c.toNat, c.toNat_lt⟩
theorem byte_and (c : UInt8) : IntKind.u8.wrap (((@BitVec.toNat 8 (@HAnd.hAnd (BitVec 8) (BitVec 8) (BitVec 8) (@instHAndOfAndOp (BitVec IntKind.u8.bits) _) (BitVec.ofInt 8 (c.toNat : Int)) (BitVec.ofInt 8 15))) : Nat) : Int) = ((c.toNat % 16 : Nat) : Int) := by
  have : ∀ n : Fin 256, IntKind.u8.wrap (((BitVec.ofInt 8 (n.val : Int) &&& BitVec.ofInt 8 15).toNat : Nat) : Int) = ((n.val % 16 : Nat) : Int) := by decide +kernel
  exact this ⟨c.toNat, c.toNat_lt⟩

theorem words_ok : FnOK Tryd.prog 27 [] [] (fun r _ => r = .sl (La.words.map strRow)) := by
  refine fn_of_cwW tabOK (Go.Proofs.Tryd.func27) rfl (fun C => ?_)
  simp only [Go.Proofs.Tryd.ntmps27, Go.Proofs.Tryd.results27, go_sem]
  refine cw_go tabOK 99 (by simp only [go_sem]; try exact rfl) (by simp [go_sem]) ?_
  refine cw_freeze 1 rfl (by rfl) ?_
  refine cw_ret ⟨_, _, (by simp only [go_sem]; try exact rfl), by simp [go_sem], _, .inr (.inl rfl), ?_⟩
  rfl

theorem nibble_ok (c : UInt8) : FnOK Tryd.prog 46 [.int .u8 (c.toNat : Int)] [] (fun r _ => r = .int .i64 (nib c)) := by
  refine fn_of_cwW tabOK (Go.Proofs.Tryd.func46) rfl (fun C => ?_)
  simp only [Go.Proofs.Tryd.ntmps46, Go.Proofs.Tryd.results46, go_sem]
  refine cw_go tabOK 99 (by simp only [go_sem]; try exact rfl) (by simp [go_sem]) ?_
  refine cw_cond (by simp only [go_sem]; try exact rfl) trivial (fun h => ?_) (fun h => ?_)
  · have h1 : 48 ≤ c.toNat ∧ c.toNat ≤ 57 := by
      rw [cond_and, Bool.and_eq_true] at h
      simp at h; omega
    have hw : IntKind.u8.wrap ((c.toNat : Int) - 48) = (c.toNat : Int) - 48 := wrap8 (by omega) (by omega)
    have hw2 : IntKind.i64.wrap ((c.toNat : Int) - 48) = (c.toNat : Int) - 48 := Eng.wrap_small (by omega) (by omega)
    refine cw_go tabOK 99 (by simp only [go_sem, hw, hw2]; try exact rfl) (by simp [go_sem, hw, hw2]) ?_
    refine cw_ret ⟨_, _, (by simp only [go_sem]; try exact rfl), by simp [go_sem], _, .inr (.inl rfl), ?_⟩
    rw [nib, if_pos h1]
  have h1 : ¬ (48 ≤ c.toNat ∧ c.toNat ≤ 57) := by
    rw [cond_and] at h
    intro h2
    rw [Bool.and_eq_false_iff] at h
    simp at h; omega
  refine cw_go tabOK 99 (by simp only [go_sem]; try exact rfl) (by simp [go_sem]) ?_
  refine cw_cond (by simp only [go_sem]; try exact rfl) trivial (fun h => ?_) (fun h => ?_)
  · have h2 : 97 ≤ c.toNat ∧ c.toNat ≤ 102 := by
      rw [cond_and, Bool.and_eq_true] at h
      simp at h; omega
    have hw : IntKind.u8.wrap ((c.toNat : Int) - 97) = (c.toNat : Int) - 97 := wrap8 (by omega) (by omega)
    have hw2 : IntKind.i64.wrap ((c.toNat : Int) - 97) = (c.toNat : Int) - 97 := Eng.wrap_small (by omega) (by omega)
    have hw3 : IntKind.i64.wrap ((c.toNat : Int) - 97 + 10) = (c.toNat : Int) - 97 + 10 := Eng.wrap_small (by omega) (by omega)
    refine cw_go tabOK 99 (by simp only [go_sem, hw, hw2, hw3]; try exact rfl) (by simp [go_sem, hw, hw2, hw3]) ?_
    refine cw_ret ⟨_, _, (by simp only [go_sem]; try exact rfl), by simp [go_sem], _, .inr (.inl rfl), ?_⟩
    rw [nib, if_neg h1, if_pos h2]
  have h2 : ¬ (97 ≤ c.toNat ∧ c.toNat ≤ 102) := by
    rw [cond_and] at h
    intro h2
    rw [Bool.and_eq_false_iff] at h
    simp at h; omega
  refine cw_go tabOK 99 (by simp only [go_sem]; try exact rfl) (by simp [go_sem]) ?_
  refine cw_ret ⟨_, _, (by simp only [go_sem]; try exact rfl), by simp [go_sem], _, .inr (.inl rfl), ?_⟩
  rw [nib, if_neg h1, if_neg h2]

theorem hex_ok (d : List UInt8) (hd : d.length ≤ 10000000) : FnOK Tryd.prog 29 [.sl (d.map byteRow)] [] (fun r _ => r = .str (hexR d)) := by
  refine fn_of_cwW tabOK (Go.Proofs.Tryd.func29) rfl (fun C => ?_)
  simp only [Go.Proofs.Tryd.ntmps29, Go.Proofs.Tryd.results29, go_sem]
  refine cw_go tabOK 99 (by simp only [go_sem]; try exact rfl) (by simp [go_sem]) ?_
  refine cw_cond (by simp only [go_sem]; try exact rfl) trivial (fun h => ?_) (fun h => ?_)
  · have h0 : d = [] := by simpa using h
    subst h0
    refine cw_go tabOK 99 (by simp only [go_sem]; try exact rfl) (by simp [go_sem]) ?_
    refine cw_ret ⟨_, _, (by simp only [go_sem]; try exact rfl), by simp [go_sem], _, .inr (.inl rfl), ?_⟩
    rfl
  have h0 : d ≠ [] := by simpa using h
  refine cw_go tabOK 99 (by simp only [go_sem]; try exact rfl) (by simp [go_sem]) ?_
  refine cw_le (le_empty 23 5 1 (by simp [go_sem])) ?_
  simp only [go_sem]
  refine cw_loopS (fun i : Nat => i ≤ d.length) (fun i => d.length - i) (fun i => [(3, .osl 23 1 0 (2 * i)), (5, .any), (11, .int .i64 i), (12, .any), (13, .any), (14, .any), (15, .any), (16, .any), (17, .any), (18, .any), (19, .any), (20, .any), (21, .any), (22, .any), (23, .any), (24, .any)]) (fun i => [(23, .cells 5 1 (((d.take i).flatMap hexB).map byteRow))]) 0 (by omega) ?_ fun i hi => ?_
  · simp only [go_sem]
    exact le_sub (by simp [go_sem]) (by simp [go_sem]) (by simp [go_sem])
  simp only [go_sem]
  refine cw_go tabOK 99 (by simp only [go_sem]; try exact rfl) (by simp [go_sem]) ?_
  refine cw_cond (by simp only [go_sem]; try exact rfl) trivial (fun h => ?_) (fun h => ?_)
  · have hlt : i < d.length := by simp at h; omega
    have hw : IntKind.i64.wrap ((i : Int) + 1) = ((i + 1 : Nat) : Int) := by rw [Eng.wrap_small (by omega) (by omega)]; rfl
    have hg : (d.map byteRow).getD i [] = byteRow (d.getD i default) := Fam.getD hlt
    have htk := take_succ_getD hlt
    have hfl := flat_len (d.take i)
    rw [List.length_take, Nat.min_eq_left hi] at hfl
    generalize d.getD i default = c at hg htk
    refine cw_go tabOK 99 (by simp only [go_sem, hg, byteRow]; try exact rfl) ?_ ?_
    · simp [hg, byteRow, hlt]
    refine cw_draw mixed ?_
    refine seg_start rfl ?_
    refine seg_runN tabOK 7 (by simp only [go_sem]; exact rfl) (by simp only [go_sem]; exact rfl) (by simp only [go_sem, byte_shr, byte_and]; try exact rfl) ?_ (by simp only [go_sem]; exact rfl) ?_
    · have hc := c.toNat_lt
      simp
      omega
    refine seg_new tabOK rfl (by simp only [go_sem]; try exact rfl) (by simp only [go_sem]; try exact rfl) (by simp [go_sem]) (by simp only [go_sem]; try exact rfl) (by simp only [go_sem]; exact rfl) (by simp only [go_sem]; exact rfl) ?_
    refine seg_end (by kernel_rfl) (by simp only [go_sem]; exact rfl) ?_
    have hlp := c.toNat_lt
    have hda : ((digits.getD (c.toNat / 16) 0).toNat : Int) = ((dig (c.toNat / 16)).toNat : Int) := rfl
    have ht2 : List.take (2 * i) (((d.take i).flatMap hexB).map byteRow) = ((d.take i).flatMap hexB).map byteRow := List.take_of_length_le (by simp [hfl])
    refine draw_step tabOK rfl (by kernel_rfl) rfl (by simp only [go_sem]; try exact rfl) ?_ rfl ?_
    · simp [go_sem, ht2, hfl]
      exact ⟨by intro row h; simp at h; rcases h with rfl | rfl <;> rfl, by omega, fun x _ y _ z hz => by simp [byteRow] at hz; subst hz; simp [refs]⟩
    refine draw_step tabOK rfl (by kernel_rfl) rfl (by simp only [go_sem]; try exact rfl) (by simp [go_sem]) rfl ?_
    refine draw_close (by kernel_rfl) ?_
    refine cw_go tabOK 99 (by simp only [go_sem, hw]; try exact rfl) (by simp [go_sem, hw]) ?_
    refine cw_back ⟨i + 1, by omega, by omega, le_sub ?_ ?_ ?_⟩
    · simp [go_sem]
      omega
    · simp [go_sem, ht2, htk]
      simp [hexB, dig, digits, byteRow]
    · simp [go_sem]
  · have e : i = d.length := by simp at h; omega
    subst e
    rw [List.take_length]
    have hfl := flat_len d
    have htk : List.take (2 * d.length) ((d.flatMap hexB).map byteRow) = (d.flatMap hexB).map byteRow := List.take_of_length_le (by simp [hfl])
    refine cw_go tabOK 99 (by simp only [go_sem]; try exact rfl) (by simp [go_sem]) ?_
    refine cw_freeze 23 rfl (byteRow_pure _) ?_
    simp only [go_sem, htk, hfl, Nat.le_refl, if_true]
    refine cw_go tabOK 99 (by simp only [go_sem]; try exact rfl) ?_ ?_
    · simp
      rintro row x y _ _ rfl
      exact ⟨_, rfl⟩
    refine cw_ret ⟨_, _, (by simp only [go_sem]; try exact rfl), by simp [go_sem], _, .inr (.inl rfl), ?_⟩
    rw [hexR, if_neg h0]

/-- how far one came with a word's bytes -/
def Unhexing (s : List UInt8) (i : Nat) (d : List UInt8) : Prop := 2 * i ≤ s.length ∧ d.length = i ∧ unhexL s = (unhexL (s.drop (2 * i))).map (d ++ ·)

theorem unhexL_step {s : List UInt8} {i : Nat} (h : 2 * i + 1 < s.length) : unhexL (s.drop (2 * i)) = if nib (s.getD (2 * i) 0) < 0 ∨ nib (s.getD (2 * i + 1) 0) < 0 then none else (unhexL (s.drop (2 * (i + 1)))).map (UInt8.ofNat (nib (s.getD (2 * i) 0) * 16 + nib (s.getD (2 * i + 1) 0)).toNat :: ·) := by
  have e : s.drop (2 * i) = s.getD (2 * i) 0 :: s.getD (2 * i + 1) 0 :: s.drop (2 * (i + 1)) := by
    rw [List.drop_eq_getElem_cons (by omega), List.drop_eq_getElem_cons (by omega)]
    simp only [List.getD_eq_getElem?_getD, List.getElem?_eq_getElem (show 2 * i < s.length by omega), List.getElem?_eq_getElem (show 2 * i + 1 < s.length by omega), Option.getD_some]
    rfl
  rw [e, unhexL]

theorem nib_range (c : UInt8) : -1 ≤ nib c ∧ nib c < 16 := by unfold nib; split <;> (try split) <;> omega

theorem byte_or (a b : Nat) (ha : a < 16) (hb : b < 16) : IntKind.u8.wrap (IntKind.i64.wrap (((@BitVec.toNat 64 (@HOr.hOr (BitVec 64) (BitVec 64) (BitVec 64) (@instHOrOfOrOp (BitVec IntKind.i64.bits) _) (BitVec.ofInt 64 (IntKind.i64.wrap ((a : Int) * 2 ^ (min 4 64 : Nat)))) (BitVec.ofInt 64 (b : Int)))) : Nat) : Int)) = ((a * 16 + b : Nat) : Int) := by
  have : ∀ x y : Fin 16, IntKind.u8.wrap (IntKind.i64.wrap (((BitVec.ofInt 64 (IntKind.i64.wrap ((x.val : Int) * 2 ^ (min 4 64 : Nat))) ||| BitVec.ofInt 64 (y.val : Int)).toNat : Nat) : Int)) = ((x.val * 16 + y.val : Nat) : Int) := by decide +kernel
  exact this ⟨a, ha⟩ ⟨b, hb⟩

def unhexA (p : List UInt8 × Bool) : AV := .tup [.sl (p.1.map byteRow), .bool p.2]

theorem nrm_bytes (l : List UInt8) : Eng.nrmR (l.map byteRow) = l.map byteRow := by
  rw [nrmR_map, List.map_map]
  exact List.map_congr_left fun x _ => rfl

theorem unhex_raw (s : List UInt8) (hs : s.length ≤ 10000000) : FnOK Tryd.prog 37 [.str s] [] (fun r _ => Eng.nrm r = unhexA (unhexR s)) := by
  refine fn_of_cwW tabOK (Go.Proofs.Tryd.func37) rfl (fun C => ?_)
  simp only [Go.Proofs.Tryd.ntmps37, Go.Proofs.Tryd.results37, go_sem]
  refine cw_go tabOK 99 (by simp only [go_sem]; try exact rfl) (by simp [go_sem]) ?_
  refine cw_cond (by simp only [go_sem]; try exact rfl) trivial (fun h => ?_) (fun h => ?_)
  · have h0 : s = [45] := by simpa using h
    refine cw_go tabOK 99 (by simp only [go_sem]; try exact rfl) (by simp [go_sem]) ?_
    refine cw_ret ⟨_, _, by simp only [go_sem]; try exact rfl, by simp [go_sem], _, .inr (.inl rfl), ?_⟩
    simp [unhexR, h0, unhexA, Eng.nrm, Eng.nrmL]
  have h0 : s ≠ [45] := by simpa using h
  have hrem : ((s.length : Int)).tmod 2 = ((s.length % 2 : Nat) : Int) := rfl
  refine cw_go tabOK 99 (by simp only [go_sem]; try exact rfl) (by simp [go_sem]) ?_
  refine cw_cond (by simp only [go_sem]; try exact rfl) trivial (fun h => ?_) (fun h => ?_)
  · have h1 : s = [] ∨ s.length % 2 ≠ 0 := by
      by_cases he : s = []
      · exact .inl he
      · simp [he, hrem] at h
        exact .inr (by omega)
    refine cw_go tabOK 99 (by simp only [go_sem]; try exact rfl) (by simp [go_sem]) ?_
    refine cw_ret ⟨_, _, by simp only [go_sem]; try exact rfl, by simp [go_sem], _, .inr (.inl rfl), ?_⟩
    rw [show unhexR s = ([], false) from by unfold unhexR; rw [if_neg h0, if_pos h1]]
    rfl
  have h1 : ¬ (s = [] ∨ s.length % 2 ≠ 0) := by
    rintro (rfl | h1)
    · simp at h
    · have he : s ≠ [] := fun e => by subst e; simp at h1
      simp [he, hrem] at h
      omega
  have hU : unhexR s = match unhexL s with | none => ([], false) | some d => (d, true) := by unfold unhexR; rw [if_neg h0, if_neg h1]; rfl
  have hev : s.length % 2 = 0 := by
    by_cases e : s.length % 2 = 0
    · exact e
    · exact absurd (.inr e) h1
  rw [hU]
  clear hU h1 h0 h hrem
  refine cw_go tabOK 99 (by simp only [go_sem]; try exact rfl) (by simp [go_sem]) ?_
  refine cw_le (le_empty 46 5 1 (by simp [go_sem])) ?_
  simp only [go_sem]
  refine cw_loopS (fun x : Nat × List UInt8 => Unhexing s x.1 x.2) (fun x => s.length - 2 * x.1) (fun x => [(4, .osl 46 1 0 x.2.length), (5, .int .i64 ((2 * x.1 : Nat) : Int)), (6, .any), (7, .any), (18, .any), (19, .any), (20, .any), (21, .any), (22, .any), (23, .any), (24, .any), (25, .any), (26, .any), (27, .any), (28, .any), (29, .any), (30, .any), (31, .any), (32, .any), (33, .any), (34, .any), (35, .any), (36, .any), (37, .any), (38, .any), (39, .any), (40, .any), (41, .any), (42, .any), (43, .any), (44, .any), (45, .any), (46, .any)]) (fun x => [(46, .cells 5 1 (x.2.map byteRow))]) (0, []) ⟨by omega, rfl, by simp⟩ ?_ fun x hx => ?_
  · simp only [go_sem]
    exact le_sub (by simp [go_sem]) (by simp [go_sem]) (by simp [go_sem])
  obtain ⟨i, d⟩ := x
  obtain ⟨hi, hd, hu⟩ := hx
  simp only at hi hd hu
  simp only [go_sem]
  refine cw_go tabOK 99 (by simp only [go_sem]; try exact rfl) (by simp [go_sem]) ?_
  refine cw_cond (by simp only [go_sem]; try exact rfl) trivial (fun h => ?_) (fun h => ?_)
  · have hlt : 2 * i + 1 < s.length := by simp at h; omega
    have hw : IntKind.i64.wrap (((2 * i : Nat) : Int) + 1) = ((2 * i + 1 : Nat) : Int) := by rw [Eng.wrap_small (by omega) (by omega)]; omega
    have hw2 : IntKind.i64.wrap (((2 * i : Nat) : Int) + 2) = ((2 * (i + 1) : Nat) : Int) := by rw [Eng.wrap_small (by omega) (by omega)]; omega
    rw [unhexL_step hlt] at hu
    refine cw_goR 99 (by simp only [go_sem]; try exact rfl) ?_
    generalize ha : s.getD (2 * i) 0 = a at hu
    generalize hb : s.getD (2 * i + 1) 0 = b at hu
    have na := nib_range a
    have nb := nib_range b
    refine cw_draw mixed ?_
    refine seg_start rfl ?_
    refine seg_runN tabOK 3 (by simp only [go_sem]; exact rfl) (by simp only [go_sem]; exact rfl) (by simp only [go_sem, ha]; try exact rfl) ?_ (by simp only [go_sem]; exact rfl) ?_
    · simp; omega
    refine seg_call rfl rfl (by simp only [go_sem]; try exact rfl) (by simp [go_sem]) ⟨_, Go.Proofs.Tryd.func46, by kernel_rfl, rfl⟩ (by simp [go_sem]) (nibble_ok a) (by simp [go_sem]) (by simp only [go_sem]; exact rfl) (by simp only [go_sem]; exact rfl) ?_
    refine seg_runN tabOK 4 (by simp only [go_sem]; exact rfl) (by simp only [go_sem]; exact rfl) (by simp only [go_sem, hb, hw]; try exact rfl) ?_ (by simp only [go_sem]; exact rfl) ?_
    · simp [hw]; omega
    refine seg_call rfl rfl (by simp only [go_sem]; try exact rfl) (by simp [go_sem]) ⟨_, Go.Proofs.Tryd.func46, by kernel_rfl, rfl⟩ (by simp [go_sem]) (nibble_ok b) (by simp [go_sem]) (by simp only [go_sem]; exact rfl) (by simp only [go_sem]; exact rfl) ?_
    refine seg_runN tabOK 2 (by simp only [go_sem]; exact rfl) (by simp only [go_sem]; exact rfl) (by simp only [go_sem]; try exact rfl) (by simp [go_sem]) (by simp only [go_sem]; exact rfl) ?_
    refine seg_end (by kernel_rfl) (by simp only [go_sem]; exact rfl) ?_
    refine draw_close (by kernel_rfl) ?_
    refine cw_go tabOK 99 (by simp only [go_sem]; try exact rfl) (by simp [go_sem]) ?_
    refine cw_cond (by simp only [go_sem]; try exact rfl) trivial (fun h => ?_) (fun h => ?_)
    · have hneg : nib a < 0 ∨ nib b < 0 := by
        by_cases e : nib a < 0
        · exact .inl e
        · simp [e] at h; exact .inr h
      rw [if_pos hneg, Option.map_none] at hu
      rw [hu]
      refine cw_go tabOK 99 (by simp only [go_sem]; try exact rfl) (by simp [go_sem]) ?_
      refine cw_ret ⟨_, _, by simp only [go_sem]; try exact rfl, by simp [go_sem], _, .inr (.inl rfl), ?_⟩
      rfl
    · have hneg : ¬ (nib a < 0 ∨ nib b < 0) := by
        rintro (e | e)
        · simp [e] at h
        · by_cases e2 : nib a < 0 <;> simp [e, e2] at h
      rw [if_neg hneg, Option.map_map] at hu
      obtain ⟨x, hx⟩ : ∃ x : Nat, nib a = x := ⟨(nib a).toNat, by omega⟩
      obtain ⟨y, hy⟩ : ∃ y : Nat, nib b = y := ⟨(nib b).toNat, by omega⟩
      rw [hx] at hu na ⊢
      rw [hy] at hu nb ⊢
      have hor := byte_or x y (by omega) (by omega)
      have htk : List.take d.length (d.map byteRow) = d.map byteRow := List.take_of_length_le (by simp)
      refine cw_goR 99 (by simp only [go_sem]; try exact rfl) ?_
      refine cw_runN tabOK 6 (by simp only [go_sem]; exact rfl) (by simp only [go_sem]; exact rfl) (by simp only [go_sem]; try exact rfl) (by simp [go_sem]) ?_
      simp only [go_sem]
      simp only [hor]
      have hby : ((UInt8.ofNat (x * 16 + y)).toNat : Int) = ((x * 16 + y : Nat) : Int) := by rw [UInt8.toNat_ofNat']; omega
      simp only [← hby]
      refine cw_runN tabOK 1 (by simp only [go_sem]; exact rfl) (by simp only [go_sem]; exact rfl) (by simp only [go_sem]; try exact rfl) (by simp [go_sem]) ?_
      refine cw_runN tabOK 1 (by simp only [go_sem]; exact rfl) (by simp only [go_sem]; exact rfl) (by simp only [go_sem]; try exact rfl) ?_ ?_
      · simp [htk, refs]
        exact ⟨by intro row h; simp at h; subst h; rfl, by omega⟩
      refine cw_go tabOK 99 (by simp only [go_sem, hw2]; try exact rfl) (by simp [go_sem, hw2]) ?_
      have hxy : ((x : Int) * 16 + (y : Int)).toNat = x * 16 + y := by omega
      refine cw_back ⟨(i + 1, d ++ [UInt8.ofNat (x * 16 + y)]), ⟨by omega, by simp [hd], by rw [hu]; congr 1; funext z; simp [hxy]⟩, by simp only; omega, le_sub ?_ ?_ ?_⟩
      · simp [go_sem]
      · simp [go_sem, htk, byteRow]
      · simp [go_sem]
  · have e : 2 * i = s.length := by simp at h; omega
    rw [e, List.drop_length] at hu
    simp only [unhexL, Option.map_some, List.append_nil] at hu
    rw [hu]
    refine cw_go tabOK 99 (by simp only [go_sem]; try exact rfl) (by simp [go_sem]) ?_
    refine cw_freeze 46 rfl (byteRow_pure _) ?_
    refine cw_ret ⟨_, _, by simp only [go_sem]; try exact rfl, by simp [go_sem], _, .inr (.inl rfl), ?_⟩
    simp [unhexA, Eng.nrm, Eng.nrmL, nrm_bytes]
theorem unhex_ok (s : List UInt8) (hs : s.length ≤ 10000000) : FnOK Tryd.prog 37 [.str s] [] (fun r _ => r = unhexA (unhexR s)) := fn_nrmP (unhex_raw s hs)
end La

namespace La
open Go Go.Eng Go.Proofs
set_option maxRecDepth 10000
set_option linter.unusedSimpArgs false
set_option linter.unusedVariables false

def printA (p : List UInt8 × Int) : AV := .tup [.str p.1, .int .i64 p.2]

set_option maxHeartbeats 1000000 in
theorem print_ok (r : Rec) (hr : r.Ok) (hd : r.act.data.length ≤ 5000000) (hn : r.act.name.length ≤ 5000000) (ht : r.act.toName.length ≤ 5000000) :
    FnOK Tryd.prog 15 [.agg (recRow r)] [] (fun x _ => x = printA (printR r)) := by
  obtain ⟨⟨k, f, d, nm, tt, tn, dt⟩, v, id⟩ := r
  obtain ⟨⟨⟨_, _⟩, ⟨f1, f2⟩, ⟨d1, d2⟩, ⟨t1, t2⟩⟩, ⟨v1, v2⟩, ⟨i1, i2⟩⟩ := hr
  simp only at hd hn ht f1 f2 d1 d2 t1 t2 v1 v2 i1 i2
  show FnOK Tryd.prog 15 [.agg [.int .i64 k, .int .i64 f, .int .i64 d, .str nm, .int .i64 tt, .str tn, .sl (dt.map byteRow), .int .i64 v, .int .i64 id]] [] _
  refine fn_of_cwW tabOK (Go.Proofs.Tryd.func15) rfl (fun C => ?_)
  simp only [Go.Proofs.Tryd.ntmps15, Go.Proofs.Tryd.results15, go_sem]
  refine cw_goR 99 (by simp only [go_sem]; try exact rfl) ?_
  refine cw_runN tabOK 3 (by simp only [go_sem]; exact rfl) (by simp only [go_sem]; exact rfl) (by simp only [go_sem]; try exact rfl) (by simp [go_sem]) ?_
  refine cw_goR 99 (by simp only [go_sem]; try exact rfl) ?_
  refine cw_runN tabOK 2 (by simp only [go_sem]; exact rfl) (by simp only [go_sem]; exact rfl) (by simp only [go_sem]; try exact rfl) (by simp [go_sem]) ?_
  have hR : printR ⟨⟨k, f, d, nm, tt, tn, dt⟩, v, id⟩ = if k < 1 ∨ 5 < k then ([], 1) else if k = 3 ∨ nameB nm = true ∧ (k = 5 → nameB tn = true) then (Lib.join (fieldsL ⟨⟨k, f, d, nm, tt, tn, dt⟩, v, id⟩) [32], 0) else ([], 7) := rfl
  rw [hR]
  by_cases hk : k < 1 ∨ 5 < k
  · rw [if_pos hk]
    refine cw_go tabOK 99 (by simp only [go_sem]; try exact rfl) (by simp [go_sem]) ?_
    refine cw_cond (by simp only [go_sem]; try exact rfl) trivial (fun h => ?_) (fun h => ?_)
    · refine cw_go tabOK 99 (by simp only [go_sem]; try exact rfl) (by simp [go_sem]) ?_
      refine cw_ret ⟨_, _, by simp only [go_sem]; try exact rfl, by simp [go_sem], _, .inr (.inl rfl), ?_⟩
      rfl
    · exfalso
      rcases hk with hk | hk
      · simp [hk] at h
      · by_cases h0 : k < 1 <;> simp [h0, hk] at h
  rw [if_neg hk]
  refine cw_go tabOK 99 (by simp only [go_sem]; try exact rfl) (by simp [go_sem]) ?_
  refine cw_cond (by simp only [go_sem]; try exact rfl) trivial (fun h => ?_) (fun h => ?_)
  · exfalso
    by_cases h0 : k < 1
    · exact hk (.inl h0)
    · simp [h0] at h; exact hk (.inr (by omega))
  have hwk : (La.words.map strRow).getD (k - 1).toNat [] = strRow (wordK k) := by
    rcases kind_cases hk with rfl | rfl | rfl | rfl | rfl <;> rfl
  have hks : IntKind.i64.wrap (k - 1) = k - 1 := Eng.wrap_small (by omega) (by omega)
  refine cw_go tabOK 99 (by simp only [go_sem]; try exact rfl) (by simp [go_sem]) ?_
  refine cw_draw mixed ?_
  refine seg_start rfl ?_
  refine seg_call rfl rfl (by simp only [go_sem]; try exact rfl) (by simp [go_sem]) ⟨_, Go.Proofs.Tryd.func27, by kernel_rfl, rfl⟩ (by simp [go_sem]) (words_ok) (by simp [go_sem]) (by simp only [go_sem]; exact rfl) (by simp only [go_sem]; exact rfl) ?_
  refine seg_runN tabOK 5 (by simp only [go_sem]; exact rfl) (by simp only [go_sem]; exact rfl) (by simp only [go_sem, hks]; try exact rfl) (by simp [go_sem, hks]) (by simp only [go_sem]; exact rfl) ?_
  refine seg_runN tabOK 2 (by simp only [go_sem]; exact rfl) (by simp only [go_sem]; exact rfl) (by simp only [go_sem, hwk, strRow]; try exact rfl) ?_ (by simp only [go_sem]; exact rfl) ?_
  · simp [hwk, strRow, La.words]; omega
  refine seg_runN tabOK 2 (by simp only [go_sem]; exact rfl) (by simp only [go_sem]; exact rfl) (by simp only [go_sem]; try exact rfl) (by simp [go_sem]) (by simp only [go_sem]; exact rfl) ?_
  refine seg_call rfl rfl (by simp only [go_sem]; try exact rfl) (by simp [go_sem]) ⟨_, Go.Proofs.Tryd.func28, by kernel_rfl, rfl⟩ (by simp [go_sem]) (itoa_ok id i1 i2) (by simp [go_sem]) (by simp only [go_sem]; exact rfl) (by simp only [go_sem]; exact rfl) ?_
  refine seg_runN tabOK 2 (by simp only [go_sem]; exact rfl) (by simp only [go_sem]; exact rfl) (by simp only [go_sem]; try exact rfl) (by simp [go_sem]) (by simp only [go_sem]; exact rfl) ?_
  refine seg_call rfl rfl (by simp only [go_sem]; try exact rfl) (by simp [go_sem]) ⟨_, Go.Proofs.Tryd.func28, by kernel_rfl, rfl⟩ (by simp [go_sem]) (itoa_ok v v1 v2) (by simp [go_sem]) (by simp only [go_sem]; exact rfl) (by simp only [go_sem]; exact rfl) ?_
  refine seg_runN tabOK 4 (by simp only [go_sem]; exact rfl) (by simp only [go_sem]; exact rfl) (by simp only [go_sem]; try exact rfl) (by simp [go_sem]) (by simp only [go_sem]; exact rfl) ?_
  refine seg_call rfl rfl (by simp only [go_sem]; try exact rfl) (by simp [go_sem]) ⟨_, Go.Proofs.Tryd.func28, by kernel_rfl, rfl⟩ (by simp [go_sem]) (itoa_ok f f1 f2) (by simp [go_sem]) (by simp only [go_sem]; exact rfl) (by simp only [go_sem]; exact rfl) ?_
  refine seg_new tabOK rfl (by simp only [go_sem]; try exact rfl) (by simp only [go_sem]; try exact rfl) (by simp [go_sem]) (by simp only [go_sem]; try exact rfl) (by simp only [go_sem]; exact rfl) (by simp only [go_sem]; exact rfl) ?_
  refine seg_runN tabOK 1 (by simp only [go_sem]; exact rfl) (by simp only [go_sem]; exact rfl) (by simp only [go_sem]; try exact rfl) (by simp [go_sem]) (by simp only [go_sem]; exact rfl) ?_
  refine seg_end (by kernel_rfl) (by simp only [go_sem]; exact rfl) ?_
  refine draw_close (by kernel_rfl) ?_
  have hwl : (wordK k).length ≤ 6 := by rcases kind_cases hk with rfl | rfl | rfl | rfl | rfl <;> decide
  have li := Lib.itoa_length_le id i1 i2
  have lv := Lib.itoa_length_le v v1 v2
  have lf := Lib.itoa_length_le f f1 f2
  have ld := Lib.itoa_length_le d d1 d2
  have lt := Lib.itoa_length_le tt t1 t2
  have hk1 : ¬ k < 1 := fun e => hk (.inl e)
  by_cases h3 : k = 3
  · subst h3
    have hf : fieldsL ⟨⟨3, f, d, nm, tt, tn, dt⟩, v, id⟩ = [wordK 3, Lib.itoa id, Lib.itoa v, Lib.itoa f, hexR dt] := rfl
    have hjl := join_len 32 [wordK 3, Lib.itoa id, Lib.itoa v, Lib.itoa f, hexR dt]
    have hhl := hexR_len dt
    rw [if_pos (.inl rfl), hf]
    refine cw_go tabOK 99 (by simp only [go_sem]; try exact rfl) (by simp [go_sem]) ?_
    refine cw_cond (by simp only [go_sem]; try exact rfl) trivial (fun h => ?_) (fun h => ?_)
    · refine cw_go tabOK 99 (by simp only [go_sem]; try exact rfl) (by simp [go_sem]) ?_
      refine cw_call rfl rfl (by simp only [go_sem]; try exact rfl) (by simp [go_sem]) ⟨_, Go.Proofs.Tryd.func29, by kernel_rfl, rfl⟩ (by simp [go_sem]) (hex_ok dt (by omega)) (by simp [go_sem]) (by simp only [go_sem]; exact rfl) ?_
      refine cw_go tabOK 99 (by simp only [go_sem]; try exact rfl) ?_ ?_
      · simp
        intro row h; simp at h; subst h; rfl
      refine cw_view rfl rfl (by simp only [go_sem]; try exact rfl) (by simp [go_sem]) (by simp only [go_sem]; try exact rfl) (by simp [go_sem]) ⟨_, Go.Proofs.Tryd.func26, by kernel_rfl, rfl⟩ (strJoin_ok [wordK 3, Lib.itoa id, Lib.itoa v, Lib.itoa f, hexR dt] 32 (by simp) (by simp [Lib.lens] at hjl; omega)) (by simp [go_sem]) (by simp only [go_sem]; exact rfl) ?_
      refine cw_go tabOK 99 (by simp only [go_sem]; try exact rfl) (by simp [go_sem]) ?_
      refine cw_ret ⟨_, _, by simp only [go_sem]; try exact rfl, by simp [go_sem], _, .inr (.inl rfl), ?_⟩
      rfl
    · cases h
  have hk5 : k ≤ 5 := by omega
  refine cw_go tabOK 99 (by simp only [go_sem]; try exact rfl) (by simp [go_sem]) ?_
  refine cw_cond (by simp only [go_sem]; try exact rfl) trivial (fun h => ?_) (fun h => ?_)
  · exfalso; simp [h3] at h
  refine cw_go tabOK 99 (by simp only [go_sem]; try exact rfl) (by simp [go_sem]) ?_
  refine cw_call rfl rfl (by simp only [go_sem]; try exact rfl) (by simp [go_sem]) ⟨_, Go.Proofs.Tryd.func11, by kernel_rfl, rfl⟩ (by simp [go_sem]) (name_ok nm (by omega)) (by simp [go_sem]) (by simp only [go_sem]; exact rfl) ?_
  cases e1 : nameB nm with
  | false =>
    have hbad : ¬ (k = 3 ∨ false = true ∧ (k = 5 → nameB tn = true)) := by
      rintro (e | ⟨e, _⟩)
      · exact h3 e
      · cases e
    rw [if_neg hbad]
    refine cw_go tabOK 99 (by simp only [go_sem]; try exact rfl) (by simp [go_sem]) ?_
    refine cw_callC rfl (by simp only [go_sem]; try exact rfl) (by simp only [go_sem]; try exact rfl) (by simp [go_sem]) ⟨_, Go.Proofs.Tryd.func11, by kernel_rfl, rfl⟩ (by simp [go_sem]) (fun hb => (name_ok tn (by omega))) (by simp [go_sem]) (by simp only [go_sem]; exact rfl) ?_
    refine cw_go tabOK 99 (by simp only [go_sem]; try exact rfl) (by simp [go_sem]) ?_
    refine cw_cond (by simp only [go_sem]; try exact rfl) trivial (fun h => ?_) (fun h => ?_)
    · refine cw_go tabOK 99 (by simp only [go_sem]; try exact rfl) (by simp [go_sem]) ?_
      refine cw_ret ⟨_, _, by simp only [go_sem]; try exact rfl, by simp [go_sem], _, .inr (.inl rfl), ?_⟩
      rfl
    · cases h
  | true =>
  refine cw_go tabOK 99 (by simp only [go_sem]; try exact rfl) (by simp [go_sem]) ?_
  refine cw_callC rfl (by simp only [go_sem]; try exact rfl) (by simp only [go_sem]; try exact rfl) (by simp [go_sem]) ⟨_, Go.Proofs.Tryd.func11, by kernel_rfl, rfl⟩ (by simp [go_sem]) (fun hb => (name_ok tn (by omega))) (by simp [go_sem]) (by simp only [go_sem]; exact rfl) ?_
  refine cw_go tabOK 99 (by simp only [go_sem]; try exact rfl) (by simp [go_sem]) ?_
  refine cw_cond (by simp only [go_sem]; try exact rfl) trivial (fun h => ?_) (fun h => ?_)
  · have hbad : ¬ (k = 3 ∨ true = true ∧ (k = 5 → nameB tn = true)) := by
      rintro (e | ⟨e, e2⟩)
      · exact h3 e
      · by_cases h5 : k = 5
        · simp [h5, e2 h5] at h
        · simp [h5] at h
    rw [if_neg hbad]
    refine cw_go tabOK 99 (by simp only [go_sem]; try exact rfl) (by simp [go_sem]) ?_
    refine cw_ret ⟨_, _, by simp only [go_sem]; try exact rfl, by simp [go_sem], _, .inr (.inl rfl), ?_⟩
    rfl
  have hn2 : k = 5 → nameB tn = true := fun h5 => by
    cases e2 : nameB tn with
    | false => simp [e2, h5] at h
    | true => rfl
  rw [if_pos (.inr ⟨rfl, hn2⟩)]
  clear h hn2
  refine cw_go tabOK 99 (by simp only [go_sem]; try exact rfl) (by simp [go_sem]) ?_
  refine cw_draw mixed ?_
  refine seg_start rfl ?_
  refine seg_runN tabOK 5 (by simp only [go_sem]; exact rfl) (by simp only [go_sem]; exact rfl) (by simp only [go_sem]; try exact rfl) (by simp [go_sem]) (by simp only [go_sem]; exact rfl) ?_
  refine seg_call rfl rfl (by simp only [go_sem]; try exact rfl) (by simp [go_sem]) ⟨_, Go.Proofs.Tryd.func28, by kernel_rfl, rfl⟩ (by simp [go_sem]) (itoa_ok d d1 d2) (by simp [go_sem]) (by simp only [go_sem]; exact rfl) (by simp only [go_sem]; exact rfl) ?_
  refine seg_runN tabOK 4 (by simp only [go_sem]; exact rfl) (by simp only [go_sem]; exact rfl) (by simp only [go_sem]; try exact rfl) (by simp [go_sem]) (by simp only [go_sem]; exact rfl) ?_
  refine seg_new tabOK rfl (by simp only [go_sem]; try exact rfl) (by simp only [go_sem]; try exact rfl) (by simp [go_sem]) (by simp only [go_sem]; try exact rfl) (by simp only [go_sem]; exact rfl) (by simp only [go_sem]; exact rfl) ?_
  refine seg_end (by kernel_rfl) (by simp only [go_sem]; exact rfl) ?_
  refine draw_step tabOK rfl (by kernel_rfl) rfl (by simp only [go_sem]; try exact rfl) ?_ rfl ?_
  · simp [go_sem, refs]
    intro row h; simp at h; rcases h with rfl | rfl <;> rfl
  refine draw_step tabOK rfl (by kernel_rfl) rfl (by simp only [go_sem]; try exact rfl) (by simp [go_sem]) rfl ?_
  refine draw_close (by kernel_rfl) ?_
  try simp only [go_sem, List.getElem_toArray, List.getElem_cons_succ, List.getElem_cons_zero]
  refine cw_go tabOK 99 (by simp only [go_sem]; try exact rfl) (by simp [go_sem]) ?_
  by_cases h5 : k = 5
  · have hf : fieldsL ⟨⟨k, f, d, nm, tt, tn, dt⟩, v, id⟩ = [wordK k, Lib.itoa id, Lib.itoa v, Lib.itoa f, Lib.itoa d, nm, Lib.itoa tt, tn] := by simp [fieldsL, h5]
    have hjl := join_len 32 [wordK k, Lib.itoa id, Lib.itoa v, Lib.itoa f, Lib.itoa d, nm, Lib.itoa tt, tn]
    rw [hf]
    refine cw_cond (by simp only [go_sem]; try exact rfl) trivial (fun h => ?_) (fun h => ?_)
    · refine cw_go tabOK 99 (by simp only [go_sem]; try exact rfl) (by simp [go_sem]) ?_
      refine cw_draw mixed ?_
      refine seg_start rfl ?_
      refine seg_runN tabOK 5 (by simp only [go_sem]; exact rfl) (by simp only [go_sem]; exact rfl) (by simp only [go_sem]; try exact rfl) (by simp [go_sem]) (by simp only [go_sem]; exact rfl) ?_
      refine seg_call rfl rfl (by simp only [go_sem]; try exact rfl) (by simp [go_sem]) ⟨_, Go.Proofs.Tryd.func28, by kernel_rfl, rfl⟩ (by simp [go_sem]) (itoa_ok tt t1 t2) (by simp [go_sem]) (by simp only [go_sem]; exact rfl) (by simp only [go_sem]; exact rfl) ?_
      refine seg_runN tabOK 4 (by simp only [go_sem]; exact rfl) (by simp only [go_sem]; exact rfl) (by simp only [go_sem]; try exact rfl) (by simp [go_sem]) (by simp only [go_sem]; exact rfl) ?_
      refine seg_new tabOK rfl (by simp only [go_sem]; try exact rfl) (by simp only [go_sem]; try exact rfl) (by simp [go_sem]) (by simp only [go_sem]; try exact rfl) (by simp only [go_sem]; exact rfl) (by simp only [go_sem]; exact rfl) ?_
      refine seg_end (by kernel_rfl) (by simp only [go_sem]; exact rfl) ?_
      refine draw_step tabOK rfl (by kernel_rfl) rfl (by simp only [go_sem]; try exact rfl) ?_ rfl ?_
      · simp [go_sem, refs]
        intro row h; simp at h; rcases h with rfl | rfl <;> rfl
      refine draw_step tabOK rfl (by kernel_rfl) rfl (by simp only [go_sem]; try exact rfl) (by simp [go_sem]) rfl ?_
      refine draw_close (by kernel_rfl) ?_
      try simp only [go_sem, List.getElem_toArray, List.getElem_cons_succ, List.getElem_cons_zero]
      refine cw_go tabOK 99 (by simp only [go_sem]; try exact rfl) (by simp [go_sem]) ?_
      refine cw_view rfl rfl (by simp only [go_sem]; try exact rfl) (by simp [go_sem]) (by simp only [go_sem]; try exact rfl) (by simp [go_sem]) ⟨_, Go.Proofs.Tryd.func26, by kernel_rfl, rfl⟩ (strJoin_ok [wordK k, Lib.itoa id, Lib.itoa v, Lib.itoa f, Lib.itoa d, nm, Lib.itoa tt, tn] 32 (by simp) (by simp [Lib.lens] at hjl; omega)) (by simp [go_sem]) (by simp only [go_sem]; exact rfl) ?_
      refine cw_go tabOK 99 (by simp only [go_sem]; try exact rfl) (by simp [go_sem]) ?_
      refine cw_ret ⟨_, _, by simp only [go_sem]; try exact rfl, by simp [go_sem], _, .inr (.inl rfl), ?_⟩
      rfl
    · exfalso; simp [h5] at h
  · have hf : fieldsL ⟨⟨k, f, d, nm, tt, tn, dt⟩, v, id⟩ = [wordK k, Lib.itoa id, Lib.itoa v, Lib.itoa f, Lib.itoa d, nm] := by simp [fieldsL, h3, h5]
    have hjl := join_len 32 [wordK k, Lib.itoa id, Lib.itoa v, Lib.itoa f, Lib.itoa d, nm]
    rw [hf]
    refine cw_cond (by simp only [go_sem]; try exact rfl) trivial (fun h => ?_) (fun h => ?_)
    · exfalso; simp [h5] at h
    · refine cw_go tabOK 99 (by simp only [go_sem]; try exact rfl) (by simp [go_sem]) ?_
      refine cw_view rfl rfl (by simp only [go_sem]; try exact rfl) (by simp [go_sem]) (by simp only [go_sem]; try exact rfl) (by simp [go_sem]) ⟨_, Go.Proofs.Tryd.func26, by kernel_rfl, rfl⟩ (strJoin_ok [wordK k, Lib.itoa id, Lib.itoa v, Lib.itoa f, Lib.itoa d, nm] 32 (by simp) (by simp [Lib.lens] at hjl; omega)) (by simp [go_sem]) (by simp only [go_sem]; exact rfl) ?_
      refine cw_go tabOK 99 (by simp only [go_sem]; try exact rfl) (by simp [go_sem]) ?_
      refine cw_ret ⟨_, _, by simp only [go_sem]; try exact rfl, by simp [go_sem], _, .inr (.inl rfl), ?_⟩
      rfl
end La

namespace La
open Go Go.Eng Go.Proofs
set_option maxRecDepth 10000
set_option linter.unusedSimpArgs false
set_option linter.unusedVariables false

def Holds (L H : List (Nat × Blk)) : Prop := ∀ i b, hget L i = some b → hget H i = some b
theorem holds_nil (H : List (Nat × Blk)) : Holds [] H := fun _ _ h => nomatch h
theorem holds_cons {L H : List (Nat × Blk)} {k : Nat} {B : Blk} (h : hget H k = some B) (hL : Holds L H) : Holds ((k, B) :: L) H := fun i b hb => by
  simp only [hget] at hb
  split at hb
  · rename_i e; subst e; rw [h]; exact hb
  · exact hL i b hb

def okH (b : Bool) (G Y N : Nat → Nat) : List (Nat × Blk) := [(10, .cells 4 1 [[.bool b]])] ++ pins [10] G Y N

theorem read_ok (w : List UInt8) (ok : Bool) (hw : w.length ≤ 50000000) (G Y N : Nat → Nat) : FnOK Tryd.prog 35 [.str w, .ptr 10 1 0 0] (okH ok G Y N) (fun r H => r = .int .i64 (numV w) ∧ Holds (okH (ok && numB w) G Y N) H) := by
  unfold okH
  refine fn_of_cwW tabOK (Go.Proofs.Tryd.func35) rfl (fun C => ?_)
  simp only [Go.Proofs.Tryd.ntmps35, Go.Proofs.Tryd.results35, go_sem]
  refine cw_go tabOK 99 (by simp only [go_sem]; try exact rfl) (by simp [go_sem]) ?_
  refine cw_call rfl rfl (by simp only [go_sem]; try exact rfl) (by simp [go_sem]) ⟨_, Go.Proofs.Tryd.func36, by kernel_rfl, rfl⟩ (by simp [go_sem]) (num_ok w (by omega)) (by simp [go_sem]) (by simp only [go_sem]; exact rfl) ?_
  refine cw_go tabOK 99 (by simp only [go_sem, cond_and]; try exact rfl) (by simp [go_sem, cond_and]) ?_
  refine cw_ret ⟨_, _, by simp only [go_sem]; try exact rfl, by simp [go_sem], _, .inr (.inl rfl), ?_, ?_⟩
  · rfl
  simp only [pins, List.cons_append, List.nil_append, List.map_cons, List.map_nil]
  repeat' refine holds_cons ?_ ?_
  all_goals first | exact holds_nil _ | rfl | simp [go_sem]

def parseA (p : Rec × Int) : AV := .tup [.agg (recRow p.1), .int .i64 p.2]

theorem kind_step (w : List UInt8) : ∀ i, i < 5 → ((La.words.getD i [] == w) = decide (kindW w = (i : Int) + 1)) := by
  by_cases h1 : w = [109, 97, 107, 101]
  · subst h1; decide
  · by_cases h2 : w = [100, 105, 114]
    · subst h2; decide
    · by_cases h3 : w = [115, 116, 111, 114, 101]
      · subst h3; decide
      · by_cases h4 : w = [114, 101, 109, 111, 118, 101]
        · subst h4; decide
        · by_cases h5 : w = [114, 101, 110, 97, 109, 101]
          · subst h5; decide
          · have h0 : kindW w = 0 := by simp [kindW, h1, h2, h3, h4, h5]
            intro i hi
            rw [h0, decide_eq_false (by omega)]
            match i, hi with
            | 0, _ => exact beq_eq_false_iff_ne.2 (fun e => h1 e.symm)
            | 1, _ => exact beq_eq_false_iff_ne.2 (fun e => h2 e.symm)
            | 2, _ => exact beq_eq_false_iff_ne.2 (fun e => h3 e.symm)
            | 3, _ => exact beq_eq_false_iff_ne.2 (fun e => h4 e.symm)
            | 4, _ => exact beq_eq_false_iff_ne.2 (fun e => h5 e.symm)

theorem kindW_le (w : List UInt8) : 0 ≤ kindW w ∧ kindW w ≤ 5 := by
  unfold kindW
  split <;> (try split) <;> (try split) <;> (try split) <;> (try split) <;> omega

def kindI (w : List UInt8) (i : Nat) : Int := if kindW w ≤ i then kindW w else 0

theorem words_len : La.words.length = 5 := rfl

theorem unhex_at {s : List UInt8} {a : List UInt8} {b : Bool} (h : unhexR s = (a, b)) (hs : s.length ≤ 10000000) : FnOK Tryd.prog 37 [.str s] [] (fun r _ => r = .tup [.sl (a.map byteRow), .bool b]) := by
  have := unhex_ok s hs
  rw [h] at this
  exact this

set_option maxHeartbeats 2000000 in
theorem parse_raw (s : List UInt8) (hs : s.length ≤ 10000000) : FnOK Tryd.prog 18 [.str s] [] (fun r _ => Eng.nrm r = parseA (parseR s)) := by
  unfold parseR
  have hcl := cutL_le 32 s
  have hcp := cutL_part 32 s
  have hne := cutL_ne 32 s
  refine fn_of_cwW tabOK (Go.Proofs.Tryd.func18) rfl (fun C => ?_)
  simp only [Go.Proofs.Tryd.ntmps18, Go.Proofs.Tryd.results18, go_sem]
  refine cw_go tabOK 99 (by simp only [go_sem]; try exact rfl) (by simp [go_sem]) ?_
  refine cw_call rfl rfl (by simp only [go_sem]; try exact rfl) (by simp [go_sem]) ⟨_, Go.Proofs.Tryd.func24, by kernel_rfl, rfl⟩ (by simp [go_sem]) (strSplit_ok s 32 (by omega)) (by simp [go_sem]) (by simp only [go_sem]; exact rfl) ?_
  generalize cutL 32 s = L at hcl hcp hne
  refine cw_go tabOK 99 (by simp only [go_sem]; try exact rfl) (by simp [go_sem]) ?_
  refine cw_call rfl rfl (by simp only [go_sem]; try exact rfl) (by simp [go_sem]) ⟨_, Go.Proofs.Tryd.func27, by kernel_rfl, rfl⟩ (by simp [go_sem]) (words_ok) (by simp [go_sem]) (by simp only [go_sem]; exact rfl) ?_
  refine cw_go tabOK 99 (by simp only [go_sem]; try exact rfl) (by simp [go_sem]) ?_
  have hL0 : 0 < L.length := List.length_pos_iff.2 hne
  have hg0 : (L.map strRow).getD 0 [] = strRow (L.getD 0 []) := Fam.getD hL0
  have hk0 : kindI (L.getD 0 []) 0 = 0 := by
    have := kindW_le (L.getD 0 [])
    unfold kindI; split <;> omega
  have hkr := kindW_le (L.getD 0 [])
  rw [words_len]
  generalize hw0 : L.getD 0 [] = w0 at hg0 hk0 hkr
  refine cw_loopS (fun i : Nat => i ≤ 5) (fun i => 5 - i) (fun i => [(5, .int .i64 (kindI w0 i)), (6, .any), (7, .any), (18, .int .i64 i), (19, .any), (20, .any), (21, .any), (22, .any), (23, .any), (24, .any), (25, .any), (26, .any), (27, .any), (28, .any), (29, .any), (30, .any)]) (fun _ => []) 0 (by omega) ?_ fun i hi => ?_
  · simp only [go_sem]
    exact le_sub (by simp [go_sem, hk0]) (by simp [go_sem]) (by simp [go_sem])
  simp only [go_sem]
  refine cw_go tabOK 99 (by simp only [go_sem]; try exact rfl) (by simp [go_sem]) ?_
  refine cw_cond (by simp only [go_sem]; try exact rfl) trivial (fun h => ?_) (fun h => ?_)
  · have hlt : i < 5 := by simp at h; omega
    have hw : IntKind.i64.wrap ((i : Int) + 1) = ((i + 1 : Nat) : Int) := by rw [Eng.wrap_small (by omega) (by omega)]; rfl
    have hgi : (La.words.map strRow).getD i [] = strRow (La.words.getD i []) := Fam.getD hlt
    have hst := kind_step w0 i hlt
    have hnx : kindI w0 (i + 1) = if kindW w0 = (i : Int) + 1 then (i : Int) + 1 else kindI w0 i := by
      unfold kindI
      split <;> split <;> (try split) <;> omega
    generalize La.words.getD i [] = x at hgi hst
    refine cw_go tabOK 99 (by simp only [go_sem, hgi, hg0, strRow]; try exact rfl) ?_ ?_
    · simp [hgi, hg0, strRow, hlt, hL0, words_len]
    refine cw_cond (by simp only [go_sem]; try exact rfl) trivial (fun h => ?_) (fun h => ?_)
    · have hx : kindW w0 = (i : Int) + 1 := by rw [hst] at h; exact of_decide_eq_true h
      rw [if_pos hx] at hnx
      refine cw_go tabOK 99 (by simp only [go_sem, hw]; try exact rfl) (by simp [go_sem, hw]) ?_
      refine cw_back ⟨i + 1, by omega, by omega, le_sub ?_ ?_ ?_⟩
      · simp [go_sem, hnx]
      · simp [go_sem]
      · simp [go_sem]
    · have hx : ¬ kindW w0 = (i : Int) + 1 := by rw [hst] at h; exact of_decide_eq_false h
      rw [if_neg hx] at hnx
      refine cw_go tabOK 99 (by simp only [go_sem, hw]; try exact rfl) (by simp [go_sem, hw]) ?_
      refine cw_back ⟨i + 1, by omega, by omega, le_sub ?_ ?_ ?_⟩
      · simp [go_sem, hnx]
      · simp [go_sem]
      · simp [go_sem]
  have e : i = 5 := by simp at h; omega
  subst e
  have hk5 : kindI w0 5 = kindW w0 := by unfold kindI; rw [if_pos (by omega)]
  rw [hk5]
  clear hk0 hk5
  unfold parseL
  rw [hw0]
  simp only
  generalize kindW w0 = k at hkr
  refine cw_go tabOK 99 (by simp only [go_sem]; try exact rfl) (by simp [go_sem]) ?_
  refine cw_cond (by simp only [go_sem]; try exact rfl) trivial (fun h => ?_) (fun h => ?_)
  · have h0 : k = 0 := by simpa using h
    rw [if_pos h0]
    refine cw_go tabOK 99 (by simp only [go_sem]; try exact rfl) (by simp [go_sem]) ?_
    refine cw_ret ⟨_, _, by simp only [go_sem]; try exact rfl, by simp [go_sem], _, .inr (.inl rfl), ?_⟩
    rfl
  have h0 : ¬ k = 0 := by simpa using h
  rw [if_neg h0]
  have hmap : (mget (mput (mput [] 3 (AV.int IntKind.i64 5)) 5 (AV.int IntKind.i64 8)) k).getD (AV.int IntKind.i64 0) = .int .i64 (if k = 3 then 5 else if k = 5 then 8 else 0) := by
    by_cases h3 : k = 3
    · subst h3; rfl
    · by_cases h5 : k = 5
      · subst h5; rfl
      · rw [if_neg h3, if_neg h5]
        simp [mput, mget, h3, h5, Ne.symm h3, Ne.symm h5]
  have hlen : (bif (if k = 3 then (5 : Int) else if k = 5 then 8 else 0) != (L.length : Int) then (bif decide ((if k = 3 then (5 : Int) else if k = 5 then 8 else 0) > 0) then true else (L.length : Int) != 6) else false) = decide (L.length ≠ (if k = 3 then 5 else if k = 5 then 8 else 6)) := by
    by_cases h3 : k = 3
    · by_cases hl : L.length = 5 <;> simp [h3, hl]
      omega
    · by_cases h5 : k = 5
      · by_cases hl : L.length = 8 <;> simp [h5, hl]
        omega
      · by_cases hl : L.length = 6 <;> simp [h3, h5, hl]
        omega
  generalize (if k = 3 then (5 : Int) else if k = 5 then 8 else 0) = wk at hmap hlen
  refine cw_go tabOK 99 (by simp only [go_sem, hmap, cond_false]; try exact rfl) ?_ ?_
  · simp
    intro a
    exact ⟨a, fun b => ⟨a, b⟩⟩
  refine cw_cond (by simp only [go_sem]; try exact rfl) trivial (fun h => ?_) (fun h => ?_)
  · have hl : L.length ≠ (if k = 3 then 5 else if k = 5 then 8 else 6) := by rw [hlen] at h; exact of_decide_eq_true h
    rw [if_pos hl]
    refine cw_go tabOK 99 (by simp only [go_sem]; try exact rfl) (by simp [go_sem]) ?_
    refine cw_ret ⟨_, _, by simp only [go_sem]; try exact rfl, by simp [go_sem], _, .inr (.inl rfl), ?_⟩
    rfl
  have hl : ¬ L.length ≠ (if k = 3 then 5 else if k = 5 then 8 else 6) := by rw [hlen] at h; exact of_decide_eq_false h
  rw [if_neg hl]
  have hl := Decidable.of_not_not hl
  have hl5 : 5 ≤ L.length := by rw [hl]; split <;> (try split) <;> omega
  clear hlen hmap
  have hg1 : (L.map strRow).getD 1 [] = strRow (L.getD 1 []) := Fam.getD (by omega)
  have hg2 : (L.map strRow).getD 2 [] = strRow (L.getD 2 []) := Fam.getD (by omega)
  have hg3 : (L.map strRow).getD 3 [] = strRow (L.getD 3 []) := Fam.getD (by omega)
  have hg4 : (L.map strRow).getD 4 [] = strRow (L.getD 4 []) := Fam.getD (by omega)
  have hm : ∀ i, i < L.length → (L.getD i []).length ≤ 10000000 := fun i hi => by
    have : L.getD i [] ∈ L := by rw [List.getD_eq_getElem?_getD, List.getElem?_eq_getElem hi]; exact List.getElem_mem hi
    have := hcp _ this; omega
  have m1 := hm 1 (by omega)
  have m2 := hm 2 (by omega)
  have m3 := hm 3 (by omega)
  have m4 := hm 4 (by omega)
  have hn3 : nums3 L = (numB (L.getD 1 []) && numB (L.getD 2 []) && numB (L.getD 3 [])) := rfl
  rw [hn3]
  have hrec : recOf k L = if k = 3 then ⟨⟨3, numV (L.getD 3 []), 0, [], 0, [], (unhexR (L.getD 4 [])).1⟩, numV (L.getD 2 []), numV (L.getD 1 [])⟩
      else if k = 5 then ⟨⟨5, numV (L.getD 3 []), numV (L.getD 4 []), L.getD 5 [], numV (L.getD 6 []), L.getD 7 [], []⟩, numV (L.getD 2 []), numV (L.getD 1 [])⟩
      else ⟨⟨k, numV (L.getD 3 []), numV (L.getD 4 []), L.getD 5 [], 0, [], []⟩, numV (L.getD 2 []), numV (L.getD 1 [])⟩ := rfl
  rw [hrec]
  generalize L.getD 1 [] = w1 at hg1 m1
  generalize L.getD 2 [] = w2 at hg2 m2
  generalize L.getD 3 [] = w3 at hg3 m3
  generalize hw4 : L.getD 4 [] = w4 at hg4 m4
  refine cw_go tabOK 99 (by simp only [go_sem]; try exact rfl) (by simp [go_sem]) ?_
  refine cw_draw mixed ?_
  refine draw_earlyM 5 [0, 1, 2, 3, 4, 6, 7, 8, 9, 10, 11, 12, 13, 14, 15, 16, 17, 18, 19, 20, 21] [0, 1, 2, 3, 4, 0, 5, 6, 7, 8, 9, 10, 11, 12, 13, 14, 15, 16, 17, 18, 19, 20] rfl rfl rfl (fun _ _ _ h => h) (by kernel_rfl) (by kernel_rfl) (by simp [remOps, remOp, renE]; exact rfl) (by simp only [go_sem]; try exact rfl) ?_
  simp only [go_sem, List.getElem_toArray, List.getElem_cons_succ, List.getElem_cons_zero]
  refine draw_earlyM 9 [0, 1, 2, 3, 4, 5, 6, 7, 8, 10, 11, 12, 13, 14, 15, 16, 17, 18, 19, 20] [0, 1, 2, 3, 4, 5, 6, 7, 8, 0, 9, 10, 11, 12, 13, 14, 15, 16, 17, 18, 19] rfl rfl rfl (fun _ _ _ h => h) (by kernel_rfl) (by kernel_rfl) (by simp [remOps, remOp, renE]; exact rfl) (by simp only [go_sem]; try exact rfl) ?_
  simp only [go_sem, List.getElem_toArray, List.getElem_cons_succ, List.getElem_cons_zero]
  refine seg_start rfl ?_
  refine seg_runN tabOK 4 (by simp only [go_sem]; exact rfl) (by simp only [go_sem]; exact rfl) (by simp only [go_sem, hg1, strRow]; try exact rfl) ?_ (by simp only [go_sem]; exact rfl) ?_
  · simp [hg1, strRow]
    omega
  refine seg_callP rfl rfl (by simp only [go_sem]; try exact rfl) (by simp [go_sem]) ⟨_, Go.Proofs.Tryd.func35, by kernel_rfl, rfl⟩ [10] (by simp only [go_sem, Bool.false_or, Bool.or_true, Bool.true_or, Bool.or_false, ↓reduceIte]; try exact rfl) (by simp [go_sem]) (by simp) (by simp [go_sem]) (by simp [go_sem]) (by simp [go_sem]) (read_ok w1 true (by omega)) (by simp only [go_sem]; exact rfl) (by simp only [go_sem, Bool.false_or, Bool.or_true, Bool.true_or, Bool.or_false, ↓reduceIte]; exact rfl) ?_
  refine seg_runN tabOK 3 (by simp only [go_sem]; exact rfl) (by simp only [go_sem]; exact rfl) (by simp only [go_sem, hg2, strRow]; try exact rfl) ?_ (by simp only [go_sem]; exact rfl) ?_
  · simp [hg2, strRow]
    omega
  refine seg_callP rfl rfl (by simp only [go_sem]; try exact rfl) (by simp [go_sem]) ⟨_, Go.Proofs.Tryd.func35, by kernel_rfl, rfl⟩ [10] (by simp only [go_sem, Bool.false_or, Bool.or_true, Bool.true_or, Bool.or_false, ↓reduceIte]; try exact rfl) (by simp [go_sem]) (by simp) (by simp [go_sem]) (by simp [go_sem]) (by simp [go_sem]) (read_ok w2 (true && numB w1) (by omega)) (by simp only [go_sem]; exact rfl) (by simp only [go_sem, Bool.false_or, Bool.or_true, Bool.true_or, Bool.or_false, ↓reduceIte]; exact rfl) ?_
  refine seg_runN tabOK 3 (by simp only [go_sem]; exact rfl) (by simp only [go_sem]; exact rfl) (by simp only [go_sem, hg3, strRow]; try exact rfl) ?_ (by simp only [go_sem]; exact rfl) ?_
  · simp [hg3, strRow]
    omega
  refine seg_callP rfl rfl (by simp only [go_sem]; try exact rfl) (by simp [go_sem]) ⟨_, Go.Proofs.Tryd.func35, by kernel_rfl, rfl⟩ [10] (by simp only [go_sem, Bool.false_or, Bool.or_true, Bool.true_or, Bool.or_false, ↓reduceIte]; try exact rfl) (by simp [go_sem]) (by simp) (by simp [go_sem]) (by simp [go_sem]) (by simp [go_sem]) (read_ok w3 (true && numB w1 && numB w2) (by omega)) (by simp only [go_sem]; exact rfl) (by simp only [go_sem, Bool.false_or, Bool.or_true, Bool.true_or, Bool.or_false, ↓reduceIte]; exact rfl) ?_
  refine seg_runN tabOK 1 (by simp only [go_sem]; exact rfl) (by simp only [go_sem]; exact rfl) (by simp only [go_sem]; try exact rfl) (by simp [go_sem]) (by simp only [go_sem]; exact rfl) ?_
  refine seg_store tabOK rfl rfl (by simp only [go_sem]; try exact rfl) (by simp only [go_sem]; try exact rfl) (by simp only [go_sem]; try exact rfl) (by first | trivial | simp [go_sem]) (by simp only [go_sem]; exact rfl) (by simp [go_sem]) (by simp only [go_sem]; exact rfl) (by simp only [go_sem]; exact rfl) (by simp only [go_sem]; exact rfl) ?_
  refine seg_runN tabOK 1 (by simp only [go_sem]; exact rfl) (by simp only [go_sem]; exact rfl) (by simp only [go_sem]; try exact rfl) (by simp [go_sem]) (by simp only [go_sem]; exact rfl) ?_
  refine seg_store tabOK rfl rfl (by simp only [go_sem]; try exact rfl) (by simp only [go_sem]; try exact rfl) (by simp only [go_sem]; try exact rfl) (by first | trivial | simp [go_sem]) (by simp only [go_sem]; exact rfl) (by simp [go_sem]) (by simp only [go_sem]; exact rfl) (by simp only [go_sem]; exact rfl) (by simp only [go_sem]; exact rfl) ?_
  refine seg_runN tabOK 2 (by simp only [go_sem]; exact rfl) (by simp only [go_sem]; exact rfl) (by simp only [go_sem]; try exact rfl) (by simp [go_sem]) (by simp only [go_sem]; exact rfl) ?_
  refine seg_store tabOK rfl rfl (by simp only [go_sem]; try exact rfl) (by simp only [go_sem]; try exact rfl) (by simp only [go_sem]; try exact rfl) (by first | trivial | simp [go_sem]) (by simp only [go_sem]; exact rfl) (by simp [go_sem]) (by simp only [go_sem]; exact rfl) (by simp only [go_sem]; exact rfl) (by simp only [go_sem]; exact rfl) ?_
  refine seg_end (by kernel_rfl) (by simp only [go_sem]; exact rfl) ?_
  refine draw_close (by kernel_rfl) ?_
  try simp only [go_sem, List.getElem_toArray, List.getElem_cons_succ, List.getElem_cons_zero]
  try rw [Bool.true_and]
  generalize hok : (numB w1 && numB w2 && numB w3) = ok
  by_cases h3 : k = 3
  · rw [if_pos h3, if_pos h3]
    obtain ⟨ud, ub, hu⟩ : ∃ a b, unhexR w4 = (a, b) := ⟨_, _, rfl⟩
    rw [hu]
    refine cw_go tabOK 99 (by simp only [go_sem]; try exact rfl) (by simp [go_sem]) ?_
    refine cw_cond (by simp only [go_sem]; try exact rfl) trivial (fun h => ?_) (fun h => ?_)
    · refine cw_go tabOK 99 (by simp only [go_sem, hg4, strRow]; try exact rfl) ?_ ?_
      · simp [hg4, strRow]
        omega
      refine cw_call rfl rfl (by simp only [go_sem]; try exact rfl) (by simp [go_sem]) ⟨_, Go.Proofs.Tryd.func37, by kernel_rfl, rfl⟩ (by simp [go_sem]) (unhex_at hu (by omega)) (by simp [go_sem]) (by simp only [go_sem]; exact rfl) ?_
      refine cw_go tabOK 99 (by simp only [go_sem]; try exact rfl) (by simp [go_sem]) ?_
      cases ok <;> cases ub
      · refine cw_go tabOK 99 (by simp only [go_sem]; try exact rfl) (by simp [go_sem]) ?_
        refine cw_cond (by simp only [go_sem]; try exact rfl) trivial (fun h => ?_) (fun h => ?_)
        · refine cw_go tabOK 99 (by simp only [go_sem]; try exact rfl) (by simp [go_sem]) ?_
          refine cw_ret ⟨_, _, by simp only [go_sem]; try exact rfl, by simp [go_sem], _, .inr (.inl rfl), ?_⟩
          rfl
        · cases h
      · refine cw_go tabOK 99 (by simp only [go_sem]; try exact rfl) (by simp [go_sem]) ?_
        refine cw_cond (by simp only [go_sem]; try exact rfl) trivial (fun h => ?_) (fun h => ?_)
        · refine cw_go tabOK 99 (by simp only [go_sem]; try exact rfl) (by simp [go_sem]) ?_
          refine cw_ret ⟨_, _, by simp only [go_sem]; try exact rfl, by simp [go_sem], _, .inr (.inl rfl), ?_⟩
          rfl
        · cases h
      · refine cw_go tabOK 99 (by simp only [go_sem]; try exact rfl) (by simp [go_sem]) ?_
        refine cw_cond (by simp only [go_sem]; try exact rfl) trivial (fun h => ?_) (fun h => ?_)
        · refine cw_go tabOK 99 (by simp only [go_sem]; try exact rfl) (by simp [go_sem]) ?_
          refine cw_ret ⟨_, _, by simp only [go_sem]; try exact rfl, by simp [go_sem], _, .inr (.inl rfl), ?_⟩
          rfl
        · cases h
      · refine cw_go tabOK 99 (by simp only [go_sem]; try exact rfl) (by simp [go_sem]) ?_
        refine cw_cond (by simp only [go_sem]; try exact rfl) trivial (fun h => ?_) (fun h => ?_)
        · cases h
        · refine cw_go tabOK 99 (by simp only [go_sem]; try exact rfl) (by simp [go_sem]) ?_
          refine cw_ret ⟨_, _, by simp only [go_sem]; try exact rfl, by simp [go_sem], _, .inr (.inl rfl), ?_⟩
          simp [parseA, Eng.nrm, Eng.nrmL, recRow, nrm_bytes, h3]
    · exfalso; simp [h3] at h
  rw [if_neg h3, if_neg h3]
  have hl6 : 6 ≤ L.length := by rw [hl, if_neg h3]; split <;> omega
  have hg5 : (L.map strRow).getD 5 [] = strRow (L.getD 5 []) := Fam.getD (by omega)
  have m5 := hm 5 (by omega)
  generalize L.getD 5 [] = w5 at hg5 m5
  refine cw_go tabOK 99 (by simp only [go_sem]; try exact rfl) (by simp [go_sem]) ?_
  refine cw_cond (by simp only [go_sem]; try exact rfl) trivial (fun h => ?_) (fun h => ?_)
  · exfalso; simp [h3] at h
  refine cw_go tabOK 99 (by simp only [go_sem]; try exact rfl) (by simp [go_sem]) ?_
  refine cw_draw mixed ?_
  refine seg_start rfl ?_
  refine seg_runN tabOK 4 (by simp only [go_sem]; exact rfl) (by simp only [go_sem]; exact rfl) (by simp only [go_sem, hg4, strRow]; try exact rfl) ?_ (by simp only [go_sem]; exact rfl) ?_
  · simp [hg4, strRow]
    omega
  refine seg_callP rfl rfl (by simp only [go_sem]; try exact rfl) (by simp [go_sem]) ⟨_, Go.Proofs.Tryd.func35, by kernel_rfl, rfl⟩ [10] (by simp only [go_sem, Bool.false_or, Bool.or_true, Bool.true_or, Bool.or_false, ↓reduceIte]; try exact rfl) (by simp [go_sem]) (by simp) (by simp [go_sem]) (by simp [go_sem]) (by simp [go_sem]) (read_ok w4 ok (by omega)) (by simp only [go_sem]; exact rfl) (by simp only [go_sem, Bool.false_or, Bool.or_true, Bool.true_or, Bool.or_false, ↓reduceIte]; exact rfl) ?_
  refine seg_runN tabOK 3 (by simp only [go_sem]; exact rfl) (by simp only [go_sem]; exact rfl) (by simp only [go_sem, hg5, strRow]; try exact rfl) ?_ (by simp only [go_sem]; exact rfl) ?_
  · simp [hg5, strRow]
    omega
  refine seg_runN tabOK 2 (by simp only [go_sem]; exact rfl) (by simp only [go_sem]; exact rfl) (by simp only [go_sem]; try exact rfl) (by simp [go_sem]) (by simp only [go_sem]; exact rfl) ?_
  refine seg_store tabOK rfl rfl (by simp only [go_sem]; try exact rfl) (by simp only [go_sem]; try exact rfl) (by simp only [go_sem]; try exact rfl) (by first | trivial | simp [go_sem]) (by simp only [go_sem]; exact rfl) (by simp [go_sem]) (by simp only [go_sem]; exact rfl) (by simp only [go_sem]; exact rfl) (by simp only [go_sem]; exact rfl) ?_
  refine seg_runN tabOK 2 (by simp only [go_sem]; exact rfl) (by simp only [go_sem]; exact rfl) (by simp only [go_sem]; try exact rfl) (by simp [go_sem]) (by simp only [go_sem]; exact rfl) ?_
  refine seg_store tabOK rfl rfl (by simp only [go_sem]; try exact rfl) (by simp only [go_sem]; try exact rfl) (by simp only [go_sem]; try exact rfl) (by first | trivial | simp [go_sem]) (by simp only [go_sem]; exact rfl) (by simp [go_sem]) (by simp only [go_sem]; exact rfl) (by simp only [go_sem]; exact rfl) (by simp only [go_sem]; exact rfl) ?_
  refine seg_end (by kernel_rfl) (by simp only [go_sem]; exact rfl) ?_
  refine draw_close (by kernel_rfl) ?_
  try simp only [go_sem, List.getElem_toArray, List.getElem_cons_succ, List.getElem_cons_zero]
  by_cases h5 : k = 5
  · have hl8 : L.length = 8 := by rw [hl, if_neg h3, if_pos h5]
    have hg6 : (L.map strRow).getD 6 [] = strRow (L.getD 6 []) := Fam.getD (by omega)
    have hg7 : (L.map strRow).getD 7 [] = strRow (L.getD 7 []) := Fam.getD (by omega)
    have m6 := hm 6 (by omega)
    have m7 := hm 7 (by omega)
    generalize L.getD 6 [] = w6 at hg6 m6
    generalize L.getD 7 [] = w7 at hg7 m7
    rw [if_pos h5, show (k != 5 || numB w6) = numB w6 from by simp [h5], show (k == 5 && !nameB w7) = !nameB w7 from by simp [h5]]
    refine cw_go tabOK 99 (by simp only [go_sem]; try exact rfl) (by simp [go_sem]) ?_
    refine cw_cond (by simp only [go_sem]; try exact rfl) trivial (fun h => ?_) (fun h => ?_)
    · refine cw_go tabOK 99 (by simp only [go_sem]; try exact rfl) (by simp [go_sem]) ?_
      refine cw_draw mixed ?_
      refine seg_start rfl ?_
      refine seg_runN tabOK 4 (by simp only [go_sem]; exact rfl) (by simp only [go_sem]; exact rfl) (by simp only [go_sem, hg6, strRow]; try exact rfl) ?_ (by simp only [go_sem]; exact rfl) ?_
      · simp [hg6, strRow]
        omega
      refine seg_callP rfl rfl (by simp only [go_sem]; try exact rfl) (by simp [go_sem]) ⟨_, Go.Proofs.Tryd.func35, by kernel_rfl, rfl⟩ [10] (by simp only [go_sem, Bool.false_or, Bool.or_true, Bool.true_or, Bool.or_false, ↓reduceIte]; try exact rfl) (by simp [go_sem]) (by simp) (by simp [go_sem]) (by simp [go_sem]) (by simp [go_sem]) (read_ok w6 (ok && numB w4) (by omega)) (by simp only [go_sem]; exact rfl) (by simp only [go_sem, Bool.false_or, Bool.or_true, Bool.true_or, Bool.or_false, ↓reduceIte]; exact rfl) ?_
      refine seg_runN tabOK 3 (by simp only [go_sem]; exact rfl) (by simp only [go_sem]; exact rfl) (by simp only [go_sem, hg7, strRow]; try exact rfl) ?_ (by simp only [go_sem]; exact rfl) ?_
      · simp [hg7, strRow]
        omega
      refine seg_runN tabOK 2 (by simp only [go_sem]; exact rfl) (by simp only [go_sem]; exact rfl) (by simp only [go_sem]; try exact rfl) (by simp [go_sem]) (by simp only [go_sem]; exact rfl) ?_
      refine seg_store tabOK rfl rfl (by simp only [go_sem]; try exact rfl) (by simp only [go_sem]; try exact rfl) (by simp only [go_sem]; try exact rfl) (by first | trivial | simp [go_sem]) (by simp only [go_sem]; exact rfl) (by simp [go_sem]) (by simp only [go_sem]; exact rfl) (by simp only [go_sem]; exact rfl) (by simp only [go_sem]; exact rfl) ?_
      refine seg_runN tabOK 2 (by simp only [go_sem]; exact rfl) (by simp only [go_sem]; exact rfl) (by simp only [go_sem]; try exact rfl) (by simp [go_sem]) (by simp only [go_sem]; exact rfl) ?_
      refine seg_store tabOK rfl rfl (by simp only [go_sem]; try exact rfl) (by simp only [go_sem]; try exact rfl) (by simp only [go_sem]; try exact rfl) (by first | trivial | simp [go_sem]) (by simp only [go_sem]; exact rfl) (by simp [go_sem]) (by simp only [go_sem]; exact rfl) (by simp only [go_sem]; exact rfl) (by simp only [go_sem]; exact rfl) ?_
      refine seg_end (by kernel_rfl) (by simp only [go_sem]; exact rfl) ?_
      refine draw_close (by kernel_rfl) ?_
      try simp only [go_sem, List.getElem_toArray, List.getElem_cons_succ, List.getElem_cons_zero]
      generalize (ok && numB w4 && numB w6) = okk
      cases okk with
      | false =>
        refine cw_go tabOK 99 (by simp only [go_sem]; try exact rfl) (by simp [go_sem]) ?_
        refine cw_cond (by simp only [go_sem]; try exact rfl) trivial (fun h => ?_) (fun h => ?_)
        · refine cw_go tabOK 99 (by simp only [go_sem]; try exact rfl) (by simp [go_sem]) ?_
          refine cw_ret ⟨_, _, by simp only [go_sem]; try exact rfl, by simp [go_sem], _, .inr (.inl rfl), ?_⟩
          rfl
        · cases h
      | true =>
        refine cw_go tabOK 99 (by simp only [go_sem]; try exact rfl) (by simp [go_sem]) ?_
        refine cw_cond (by simp only [go_sem]; try exact rfl) trivial (fun h => ?_) (fun h => ?_)
        · cases h
        refine cw_go tabOK 99 (by simp only [go_sem]; try exact rfl) (by simp [go_sem]) ?_
        refine cw_call rfl rfl (by simp only [go_sem]; try exact rfl) (by simp [go_sem]) ⟨_, Go.Proofs.Tryd.func11, by kernel_rfl, rfl⟩ (by simp [go_sem]) (name_ok w5 (by omega)) (by simp [go_sem]) (by simp only [go_sem]; exact rfl) ?_
        cases hn5 : nameB w5 with
        | false =>
          refine cw_go tabOK 99 (by simp only [go_sem]; try exact rfl) (by simp [go_sem]) ?_
          refine cw_callC rfl (by simp only [go_sem]; try exact rfl) (by simp only [go_sem]; try exact rfl) (by simp [go_sem]) ⟨_, Go.Proofs.Tryd.func11, by kernel_rfl, rfl⟩ (by simp [go_sem]) (fun hb => (name_ok w7 (by omega))) (by simp [go_sem]) (by simp only [go_sem]; exact rfl) ?_
          refine cw_go tabOK 99 (by simp only [go_sem]; try exact rfl) (by simp [go_sem]) ?_
          refine cw_cond (by simp only [go_sem]; try exact rfl) trivial (fun h => ?_) (fun h => ?_)
          · refine cw_go tabOK 99 (by simp only [go_sem]; try exact rfl) (by simp [go_sem]) ?_
            refine cw_ret ⟨_, _, by simp only [go_sem]; try exact rfl, by simp [go_sem], _, .inr (.inl rfl), ?_⟩
            rfl
          · cases h
        | true =>
          refine cw_go tabOK 99 (by simp only [go_sem]; try exact rfl) (by simp [go_sem]) ?_
          refine cw_callC rfl (by simp only [go_sem]; try exact rfl) (by simp only [go_sem]; try exact rfl) (by simp [go_sem]) ⟨_, Go.Proofs.Tryd.func11, by kernel_rfl, rfl⟩ (by simp [go_sem]) (fun hb => (name_ok w7 (by omega))) (by simp [go_sem]) (by simp only [go_sem]; exact rfl) ?_
          cases hn7 : nameB w7 with
          | false =>
            refine cw_go tabOK 99 (by simp only [go_sem]; try exact rfl) (by simp [go_sem]) ?_
            refine cw_cond (by simp only [go_sem]; try exact rfl) trivial (fun h => ?_) (fun h => ?_)
            · refine cw_go tabOK 99 (by simp only [go_sem]; try exact rfl) (by simp [go_sem]) ?_
              refine cw_ret ⟨_, _, by simp only [go_sem]; try exact rfl, by simp [go_sem], _, .inr (.inl rfl), ?_⟩
              rfl
            · exfalso; simp [h5] at h
          | true =>
            refine cw_go tabOK 99 (by simp only [go_sem]; try exact rfl) (by simp [go_sem]) ?_
            refine cw_cond (by simp only [go_sem]; try exact rfl) trivial (fun h => ?_) (fun h => ?_)
            · exfalso; simp at h
            refine cw_go tabOK 99 (by simp only [go_sem]; try exact rfl) (by simp [go_sem]) ?_
            refine cw_ret ⟨_, _, by simp only [go_sem]; try exact rfl, by simp [go_sem], _, .inr (.inl rfl), ?_⟩
            simp [parseA, Eng.nrm, Eng.nrmL, recRow, nrm_bytes, Eng.nrmR, h5]
    · exfalso; simp [h5] at h
  · rw [if_neg h5, show (k != 5 || numB (L.getD 6 [])) = true from by simp [h5], Bool.and_true, show (k == 5 && !nameB (L.getD 7 [])) = false from by simp [h5], Bool.or_false]
    refine cw_go tabOK 99 (by simp only [go_sem]; try exact rfl) (by simp [go_sem]) ?_
    refine cw_cond (by simp only [go_sem]; try exact rfl) trivial (fun h => ?_) (fun h => ?_)
    · exfalso; simp [h5] at h
    · generalize (ok && numB w4) = okk
      cases okk with
      | false =>
        refine cw_go tabOK 99 (by simp only [go_sem]; try exact rfl) (by simp [go_sem]) ?_
        refine cw_cond (by simp only [go_sem]; try exact rfl) trivial (fun h => ?_) (fun h => ?_)
        · refine cw_go tabOK 99 (by simp only [go_sem]; try exact rfl) (by simp [go_sem]) ?_
          refine cw_ret ⟨_, _, by simp only [go_sem]; try exact rfl, by simp [go_sem], _, .inr (.inl rfl), ?_⟩
          rfl
        · cases h
      | true =>
        refine cw_go tabOK 99 (by simp only [go_sem]; try exact rfl) (by simp [go_sem]) ?_
        refine cw_cond (by simp only [go_sem]; try exact rfl) trivial (fun h => ?_) (fun h => ?_)
        · cases h
        refine cw_go tabOK 99 (by simp only [go_sem]; try exact rfl) (by simp [go_sem]) ?_
        refine cw_call rfl rfl (by simp only [go_sem]; try exact rfl) (by simp [go_sem]) ⟨_, Go.Proofs.Tryd.func11, by kernel_rfl, rfl⟩ (by simp [go_sem]) (name_ok w5 (by omega)) (by simp [go_sem]) (by simp only [go_sem]; exact rfl) ?_
        cases hn5 : nameB w5 with
        | false =>
          refine cw_go tabOK 99 (by simp only [go_sem]; try exact rfl) (by simp [go_sem]) ?_
          refine cw_callC rfl (by simp only [go_sem]; try exact rfl) (by simp only [go_sem]; try exact rfl) (by simp [go_sem]) ⟨_, Go.Proofs.Tryd.func11, by kernel_rfl, rfl⟩ (by simp [go_sem]) (fun hb => (name_ok [] (by simp))) (by simp [go_sem]) (by simp only [go_sem]; exact rfl) ?_
          refine cw_go tabOK 99 (by simp only [go_sem]; try exact rfl) (by simp [go_sem]) ?_
          refine cw_cond (by simp only [go_sem]; try exact rfl) trivial (fun h => ?_) (fun h => ?_)
          · refine cw_go tabOK 99 (by simp only [go_sem]; try exact rfl) (by simp [go_sem]) ?_
            refine cw_ret ⟨_, _, by simp only [go_sem]; try exact rfl, by simp [go_sem], _, .inr (.inl rfl), ?_⟩
            rfl
          · cases h
        | true =>
          refine cw_go tabOK 99 (by simp only [go_sem]; try exact rfl) (by simp [go_sem]) ?_
          refine cw_callC rfl (by simp only [go_sem]; try exact rfl) (by simp only [go_sem]; try exact rfl) (by simp [go_sem]) ⟨_, Go.Proofs.Tryd.func11, by kernel_rfl, rfl⟩ (by simp [go_sem]) (fun hb => (name_ok [] (by simp))) (by simp [go_sem]) (by simp only [go_sem]; exact rfl) ?_
          refine cw_go tabOK 99 (by simp only [go_sem]; try exact rfl) (by simp [go_sem]) ?_
          refine cw_cond (by simp only [go_sem]; try exact rfl) trivial (fun h => ?_) (fun h => ?_)
          · exfalso; simp [h5] at h
          refine cw_go tabOK 99 (by simp only [go_sem]; try exact rfl) (by simp [go_sem]) ?_
          refine cw_ret ⟨_, _, by simp only [go_sem]; try exact rfl, by simp [go_sem], _, .inr (.inl rfl), ?_⟩
          simp [parseA, Eng.nrm, Eng.nrmL, recRow, nrm_bytes, Eng.nrmR]

theorem parse_ok (s : List UInt8) (hs : s.length ≤ 10000000) : FnOK Tryd.prog 18 [.str s] [] (fun r _ => r = parseA (parseR s)) := fn_nrmP (parse_raw s hs)
end La

namespace La
open Go Go.Lib

def textR : List Rec → List UInt8 × Int
  | [] => ([], 0)
  | r :: l => if (printR r).2 ≠ 0 then ([], (printR r).2) else if (textR l).2 ≠ 0 then ([], (textR l).2) else ((printR r).1 ++ 10 :: (textR l).1, 0)
def goL : List (List UInt8) → List Rec × Int
  | [] => ([], 0)
  | [p] => if p = [] then ([], 0) else ([], 2)
  | p :: q :: r => if (parseR p).2 ≠ 0 then ([], (parseR p).2) else if (goL (q :: r)).2 ≠ 0 then ([], (goL (q :: r)).2) else ((parseR p).1 :: (goL (q :: r)).1, 0)
def logR (s : List UInt8) : List Rec × Int := goL (cutL 10 s)

theorem goL_cons (p : List UInt8) {L : List (List UInt8)} (h : L ≠ []) : goL (p :: L) = if (parseR p).2 ≠ 0 then ([], (parseR p).2) else if (goL L).2 ≠ 0 then ([], (goL L).2) else ((parseR p).1 :: (goL L).1, 0) := by
  cases L with
  | nil => exact absurd rfl h
  | cons q r => rfl

theorem join_two (p q : List UInt8) (r : List (List UInt8)) (c : UInt8) : join (p :: q :: r) [c] = p ++ c :: join (q :: r) [c] := by
  rw [join_cons, join_cons]
  simp [joinTail]

theorem join_mem {c x : UInt8} : ∀ {l : List (List UInt8)}, x ∈ join l [c] → x = c ∨ ∃ p, p ∈ l ∧ x ∈ p
  | [], h => by simp [join_nil] at h
  | [p], h => by rw [join_one] at h; exact .inr ⟨p, by simp, h⟩
  | p :: q :: r, h => by
    rw [join_two, List.mem_append, List.mem_cons] at h
    rcases h with h | h | h
    · exact .inr ⟨p, by simp, h⟩
    · exact .inl h
    · rcases join_mem h with h | ⟨y, h1, h2⟩
      · exact .inl h
      · exact .inr ⟨y, List.mem_cons_of_mem _ h1, h2⟩

theorem line_free {r : Rec} {s : List UInt8} (h : printR r = (s, 0)) : (10 : UInt8) ∉ s := fun hm => by
  obtain ⟨_, _, rfl⟩ := printR_ok h
  rcases join_mem hm with e | ⟨x, hx, hc⟩
  · revert e; decide
  · have := fields_low h x hx 10 hc
    revert this; decide

theorem cutL_free (c : UInt8) : ∀ (s p : List UInt8), p ∈ cutL c s → c ∉ p
  | [], p, h => by simp [cutL] at h; subst h; simp
  | x :: r, p, h => by
    unfold cutL at h
    have ih := cutL_free c r
    split at h
    · rcases List.mem_cons.1 h with rfl | h
      · simp
      · exact ih p h
    · rename_i hx
      rcases List.mem_cons.1 h with rfl | h
      · have : (cutL c r).headD [] ∈ cutL c r := by
          have := cutL_eq c r
          rw [← this]; simp
        have := ih _ this
        simp only [List.mem_cons, not_or]
        exact ⟨fun e => hx e.symm, this⟩
      · exact ih p (List.mem_of_mem_tail h)

theorem textR_cons {r : Rec} {l : List Rec} {s : List UInt8} (h : textR (r :: l) = (s, 0)) : ∃ a b, printR r = (a, 0) ∧ textR l = (b, 0) ∧ s = a ++ 10 :: b := by
  simp only [textR] at h
  by_cases h1 : (printR r).2 ≠ 0
  · rw [if_pos h1] at h
    exact absurd (Prod.mk.inj h).2 h1
  rw [if_neg h1] at h
  by_cases h2 : (textR l).2 ≠ 0
  · rw [if_pos h2] at h
    exact absurd (Prod.mk.inj h).2 h2
  rw [if_neg h2] at h
  have e1 := Decidable.of_not_not h1
  have e2 := Decidable.of_not_not h2
  exact ⟨(printR r).1, (textR l).1, by rw [← e1], by rw [← e2], (Prod.mk.inj h).1.symm⟩

/-- WHAT IS WRITTEN IS READ as what is written the same. -/
theorem text_log : ∀ {l : List Rec} {s : List UInt8}, (∀ r, r ∈ l → r.Ok) → textR l = (s, 0) → logR s = (l.map canon, 0) ∧ textR (l.map canon) = (s, 0)
  | [], s, _, h => by
    simp only [textR, Prod.mk.injEq, and_true] at h
    subst h
    exact ⟨rfl, rfl⟩
  | r :: l, s, hl, h => by
    obtain ⟨a, b, h1, h2, rfl⟩ := textR_cons h
    obtain ⟨k1, k2⟩ := text_log (fun r hr => hl r (List.mem_cons_of_mem _ hr)) h2
    have hp := print_parse (hl r (by simp)) h1
    have hc := print_canon h1
    refine ⟨?_, ?_⟩
    · unfold logR at k1 ⊢
      rw [cut_app 10 a b (line_free h1), goL_cons a (cutL_ne 10 b), hp, k1]
      simp
    · rw [List.map_cons, textR, hc, k2]
      simp

theorem go_text : ∀ (ps : List (List UInt8)) (m : List Rec), ps ≠ [] → goL ps = (m, 0) → textR m = (join ps [10], 0)
  | [], _, h, _ => absurd rfl h
  | [p], m, _, h => by
    simp only [goL] at h
    split at h
    · rename_i e; subst e
      cases h
      rfl
    · cases h
  | p :: q :: r, m, _, h => by
    rw [goL_cons p (by simp)] at h
    by_cases h1 : (parseR p).2 ≠ 0
    · rw [if_pos h1] at h
      exact absurd (Prod.mk.inj h).2 h1
    rw [if_neg h1] at h
    by_cases h2 : (goL (q :: r)).2 ≠ 0
    · rw [if_pos h2] at h
      exact absurd (Prod.mk.inj h).2 h2
    rw [if_neg h2] at h
    have e1 := Decidable.of_not_not h1
    have e2 := Decidable.of_not_not h2
    obtain ⟨rfl, _⟩ := Prod.mk.inj h
    have ih := go_text (q :: r) (goL (q :: r)).1 (by simp) (by rw [← e2])
    have hp := parse_print (s := p) (r := (parseR p).1) (by rw [← e1])
    rw [textR, hp, ih, join_two]
    simp

/-- WHAT IS READ IS WRITTEN. -/
theorem log_text {s : List UInt8} {m : List Rec} (h : logR s = (m, 0)) : textR m = (s, 0) := by
  have := go_text _ _ (cutL_ne 10 s) h
  rwa [join_cut] at this

theorem go_err : ∀ (ps : List (List UInt8)), (goL ps).2 ≠ 0 → (goL ps).1 = []
  | [], h => absurd rfl h
  | [p], h => by
    simp only [goL]
    split <;> rfl
  | p :: q :: r, h => by
    rw [goL_cons p (by simp)] at h ⊢
    split
    · rfl
    · rename_i h1
      rw [if_neg h1] at h
      split
      · rfl
      · rename_i h2
        rw [if_neg h2] at h
        exact absurd rfl h

theorem log_err {s : List UInt8} (h : (logR s).2 ≠ 0) : (logR s).1 = [] := go_err _ h

theorem go_join (t : List UInt8) : ∀ (ps : List (List UInt8)) (a : List Rec), ps ≠ [] → (∀ p, p ∈ ps → (10 : UInt8) ∉ p) → goL ps = (a, 0) →
    logR (join ps [10] ++ t) = if (logR t).2 ≠ 0 then ([], (logR t).2) else (a ++ (logR t).1, 0)
  | [], _, h, _, _ => absurd rfl h
  | [p], m, _, _, h => by
    simp only [goL] at h
    split at h
    · rename_i e; subst e
      cases h
      rw [join_one, List.nil_append, List.nil_append]
      split
      · rename_i h0; rw [← log_err h0]
      · rename_i h0; rw [← Decidable.of_not_not h0]
    · cases h
  | p :: q :: r, m, _, hf, h => by
    rw [goL_cons p (by simp)] at h
    by_cases h1 : (parseR p).2 ≠ 0
    · rw [if_pos h1] at h
      exact absurd (Prod.mk.inj h).2 h1
    rw [if_neg h1] at h
    by_cases h2 : (goL (q :: r)).2 ≠ 0
    · rw [if_pos h2] at h
      exact absurd (Prod.mk.inj h).2 h2
    rw [if_neg h2] at h
    have e2 := Decidable.of_not_not h2
    obtain ⟨rfl, _⟩ := Prod.mk.inj h
    have ih := go_join t (q :: r) (goL (q :: r)).1 (by simp) (fun x hx => hf x (List.mem_cons_of_mem _ hx)) (by rw [← e2])
    rw [join_two, List.append_assoc, List.cons_append]
    unfold logR at ih ⊢
    rw [cut_app 10 p _ (hf p (by simp)), goL_cons p (cutL_ne 10 _), if_neg h1, ih]
    by_cases h3 : (goL (cutL 10 t)).2 ≠ 0
    · simp [h3]
    · simp [h3]

/-- ONE BEHIND THE OTHER. -/
theorem log_joined {s t : List UInt8} {a : List Rec} (h : logR s = (a, 0)) : logR (s ++ t) = if (logR t).2 ≠ 0 then ([], (logR t).2) else (a ++ (logR t).1, 0) := by
  have := go_join t (cutL 10 s) a (cutL_ne 10 s) (cutL_free 10 s) h
  rwa [join_cut] at this

/-- as the program goes: a line, and the rest -/
theorem log_line {p s : List UInt8} (h : (10 : UInt8) ∉ p) : logR (p ++ 10 :: s) = if (parseR p).2 ≠ 0 then ([], (parseR p).2) else if (logR s).2 ≠ 0 then ([], (logR s).2) else ((parseR p).1 :: (logR s).1, 0) := by
  unfold logR
  rw [cut_app 10 p s h, goL_cons p (cutL_ne 10 s)]
theorem log_bare {p : List UInt8} (h : (10 : UInt8) ∉ p) (h0 : p ≠ []) : logR p = ([], 2) := by
  unfold logR
  rw [cut_plain 10 p h]
  simp [goL, h0]
end La

namespace La
open Go Go.Eng Go.Proofs
set_option maxRecDepth 10000
set_option linter.unusedSimpArgs false
set_option linter.unusedVariables false

/-- the first line, what is behind it, and whether it ends -/
def cut1 : List UInt8 → List UInt8 × List UInt8 × Bool
  | [] => ([], [], false)
  | x :: r => if x = 10 then ([], r, true) else (x :: (cut1 r).1, (cut1 r).2.1, (cut1 r).2.2)

theorem index_cut : ∀ s : List UInt8, (Lib.indexByte s 10 = -1 ∧ cut1 s = (s, [], false)) ∨ ∃ n : Nat, Lib.indexByte s 10 = n ∧ n < s.length ∧ cut1 s = (s.take n, s.drop (n + 1), true)
  | [] => .inl ⟨rfl, rfl⟩
  | x :: r => by
    by_cases h : x = 10
    · subst h
      exact .inr ⟨0, by simp [Lib.indexByte], by simp, by simp [cut1]⟩
    · rcases index_cut r with ⟨h1, h2⟩ | ⟨n, h1, h2, h3⟩
      · exact .inl ⟨by simp [Lib.indexByte, h, h1], by simp [cut1, h, h2]⟩
      · refine .inr ⟨n + 1, ?_, by simp; omega, by simp [cut1, h, h3]⟩
        have hne : ¬ (n : Int) = -1 := by omega
        simp [Lib.indexByte, h, h1, hne]

theorem cut1_line : ∀ s : List UInt8, (cut1 s).2.2 = true → s = (cut1 s).1 ++ 10 :: (cut1 s).2.1 ∧ (10 : UInt8) ∉ (cut1 s).1
  | [], h => by simp [cut1] at h
  | x :: r, h => by
    unfold cut1 at h ⊢
    split
    · rename_i e; subst e; exact ⟨rfl, by simp⟩
    · rename_i e
      rw [if_neg e] at h
      obtain ⟨h1, h2⟩ := cut1_line r h
      refine ⟨by simp only [List.cons_append]; rw [← h1], ?_⟩
      simp only [List.mem_cons, not_or]
      exact ⟨fun e' => e e'.symm, h2⟩
theorem cut1_bare : ∀ s : List UInt8, (cut1 s).2.2 = false → (10 : UInt8) ∉ s
  | [], h => by simp
  | x :: r, h => by
    unfold cut1 at h
    split at h
    · cases h
    · rename_i e
      have := cut1_bare r h
      simp only [List.mem_cons, not_or]
      exact ⟨fun e' => e e'.symm, this⟩

theorem index1_ok (s : List UInt8) : FnOK Tryd.prog 61 [.str s, .str [10]] [] (fun r _ => r = .int .i64 (Lib.indexByte s 10)) := by
  intro R0 μ w0 vs hl ha hH hR
  match vs, hl with
  | [v0, v1], _ =>
  obtain ⟨b, h0, hb⟩ := (ha 0 _ rfl).inv_str
  obtain ⟨b1, h1, hb1⟩ := (ha 1 _ rfl).inv_str
  simp only [List.getD_cons_zero, List.getD_cons_succ] at h0 h1
  subst h0 h1 hb
  obtain rfl := bytes_eq hb1
  refine (Tryd.stringslite_Index_one b 10 w0).mono fun e w' ⟨he, hw⟩ => ?_
  rw [he, hw]
  exact fn_done hH (S' := R0) (.int _ _) (Go.RowKit.Below.refl _ _) (fun g hg => ⟨hR g hg, .inl hg⟩)

def cutA1 (p : List UInt8 × List UInt8 × Bool) : AV := .tup [.str p.1, .str p.2.1, .bool p.2.2]

theorem cutLite_ok (s : List UInt8) (hs : s.length ≤ 100000000) : FnOK Tryd.prog 49 [.str s, .str [10]] [] (fun r _ => r = cutA1 (cut1 s)) := by
  refine fn_of_cwW tabOK (Go.Proofs.Tryd.func49) rfl (fun C => ?_)
  simp only [Go.Proofs.Tryd.ntmps49, Go.Proofs.Tryd.results49, go_sem]
  refine cw_go tabOK 99 (by simp only [go_sem]; try exact rfl) (by simp [go_sem]) ?_
  refine cw_call rfl rfl (by simp only [go_sem]; try exact rfl) (by simp [go_sem]) ⟨_, Go.Proofs.Tryd.func61, by kernel_rfl, rfl⟩ (by simp [go_sem]) (index1_ok s) (by simp [go_sem]) (by simp only [go_sem]; exact rfl) ?_
  rcases index_cut s with ⟨h1, h2⟩ | ⟨n, h1, h2, h3⟩
  · rw [h1, h2]
    refine cw_go tabOK 99 (by simp only [go_sem]; try exact rfl) (by simp [go_sem]) ?_
    refine cw_cond (by simp only [go_sem]; try exact rfl) trivial (fun h => ?_) (fun h => ?_)
    · cases h
    refine cw_go tabOK 99 (by simp only [go_sem]; try exact rfl) (by simp [go_sem]) ?_
    refine cw_ret ⟨_, _, by simp only [go_sem]; try exact rfl, by simp [go_sem], _, .inr (.inl rfl), ?_⟩
    rfl
  · rw [h1, h3]
    have hw : IntKind.i64.wrap ((n : Int) + 1) = ((n + 1 : Nat) : Int) := by rw [Eng.wrap_small (by omega) (by omega)]; rfl
    refine cw_go tabOK 99 (by simp only [go_sem]; try exact rfl) (by simp [go_sem]) ?_
    refine cw_cond (by simp only [go_sem]; try exact rfl) trivial (fun h => ?_) (fun h => ?_)
    · refine cw_go tabOK 99 (by simp only [go_sem]; try exact rfl) (by simp [go_sem]) ?_
      refine cw_draw mixed ?_
      refine seg_start rfl ?_
      refine seg_runN tabOK 12 (by simp only [go_sem]; exact rfl) (by simp only [go_sem]; exact rfl) (by simp only [go_sem, hw]; try exact rfl) ?_ (by simp only [go_sem]; exact rfl) ?_
      · simp [hw]
        omega
      refine seg_end (by kernel_rfl) (by simp only [go_sem]; exact rfl) ?_
      refine draw_close (by kernel_rfl) ?_
      try simp only [go_sem, List.getElem_toArray, List.getElem_cons_succ, List.getElem_cons_zero]
      refine cw_go tabOK 99 (by simp only [go_sem]; try exact rfl) (by simp [go_sem]) ?_
      refine cw_ret ⟨_, _, by simp only [go_sem]; try exact rfl, by simp [go_sem], _, .inr (.inl rfl), ?_⟩
      simp [cutA1, hw]
    · exfalso; simp at h
theorem cut1_ok (s : List UInt8) (hs : s.length ≤ 100000000) : FnOK Tryd.prog 41 [.str s, .str [10]] [] (fun r _ => r = cutA1 (cut1 s)) := by
  refine fn_of_cwW tabOK (Go.Proofs.Tryd.func41) rfl (fun C => ?_)
  simp only [Go.Proofs.Tryd.ntmps41, Go.Proofs.Tryd.results41, go_sem]
  obtain ⟨⟨p, q, b⟩, hc⟩ : ∃ c, cut1 s = c := ⟨_, rfl⟩
  have hl := cutLite_ok s hs
  rw [hc] at hl ⊢
  simp only [cutA1] at hl ⊢
  refine cw_go tabOK 99 (by simp only [go_sem]; try exact rfl) (by simp [go_sem]) ?_
  refine cw_call rfl rfl (by simp only [go_sem]; try exact rfl) (by simp [go_sem]) ⟨_, Go.Proofs.Tryd.func49, by kernel_rfl, rfl⟩ (by simp [go_sem]) (hl) (by simp [go_sem]) (by simp only [go_sem]; exact rfl) ?_
  refine cw_go tabOK 99 (by simp only [go_sem]; try exact rfl) (by simp [go_sem]) ?_
  refine cw_ret ⟨_, _, by simp only [go_sem]; try exact rfl, by simp [go_sem], _, .inr (.inl rfl), ?_⟩
  rfl

theorem cut1_at {s p q : List UInt8} {b : Bool} (h : cut1 s = (p, q, b)) (hs : s.length ≤ 100000000) : FnOK Tryd.prog 41 [.str s, .str [10]] [] (fun r _ => r = .tup [.str p, .str q, .bool b]) := by
  have := cut1_ok s hs
  rw [h] at this
  exact this
theorem parse_at {s : List UInt8} {r : Rec} {e : Int} (h : parseR s = (r, e)) (hs : s.length ≤ 10000000) : FnOK Tryd.prog 18 [.str s] [] (fun x _ => x = .tup [.agg (recRow r), .int .i64 e]) := by
  have := parse_ok s hs
  rw [h] at this
  exact this

def logA (p : List Rec × Int) : AV := .tup [.sl (p.1.map recRow), .int .i64 p.2]
def Logging (s rest : List UInt8) (done : List Rec) : Prop := rest.length + done.length ≤ s.length ∧ (∀ p, p ∈ cutL 10 rest → p.length ≤ 10000000) ∧ logR s = if (logR rest).2 ≠ 0 then ([], (logR rest).2) else (done ++ (logR rest).1, 0)

theorem nrm_recs (l : List Rec) : Eng.nrmR (l.map recRow) = l.map recRow := by
  rw [nrmR_map, List.map_map]
  refine List.map_congr_left fun x _ => ?_
  simp [recRow, Eng.nrmL, Eng.nrm, nrm_bytes]

theorem log_raw (s : List UInt8) (hs : s.length ≤ 100000000) (hps : ∀ p, p ∈ cutL 10 s → p.length ≤ 10000000) : FnOK Tryd.prog 21 [.str s] [] (fun r _ => Eng.nrm r = logA (logR s)) := by
  refine fn_of_cwW tabOK (Go.Proofs.Tryd.func21) rfl (fun C => ?_)
  simp only [Go.Proofs.Tryd.ntmps21, Go.Proofs.Tryd.results21, go_sem]
  refine cw_go tabOK 99 (by simp only [go_sem]; try exact rfl) (by simp [go_sem]) ?_
  refine cw_le (le_empty 31 36 9 (by simp [go_sem])) ?_
  simp only [go_sem]
  refine cw_loopS (fun x : List UInt8 × List Rec => Logging s x.1 x.2) (fun x => x.1.length) (fun x => [(0, .str x.1), (4, .osl 31 9 0 x.2.length), (5, .any), (6, .any), (7, .any), (8, .any), (9, .any), (10, .any), (11, .any), (12, .any), (13, .any), (14, .any), (15, .any), (16, .any), (17, .any), (18, .any), (19, .any), (20, .any), (21, .any), (22, .any), (23, .any), (24, .any), (25, .any), (26, .any), (27, .any), (28, .any), (29, .any), (30, .any), (31, .any), (32, .any)]) (fun x => [(31, .cells 36 9 (x.2.map recRow))]) (s, []) ⟨by simp, hps, ?_⟩ ?_ fun x hx => ?_
  · split
    · rename_i h0; rw [← log_err h0]
    · rename_i h0; rw [← Decidable.of_not_not h0]; rfl
  · simp only [go_sem]
    exact le_sub (by simp [go_sem]) (by simp [go_sem]) (by simp [go_sem])
  obtain ⟨rest, done⟩ := x
  obtain ⟨hl, hpr, hlog⟩ := hx
  simp only at hl hpr hlog
  simp only [go_sem]
  refine cw_go tabOK 99 (by simp only [go_sem]; try exact rfl) (by simp [go_sem]) ?_
  refine cw_cond (by simp only [go_sem]; try exact rfl) trivial (fun h => ?_) (fun h => ?_)
  · have hne : rest ≠ [] := by simpa using h
    obtain ⟨⟨p, q, b⟩, hc⟩ : ∃ c, cut1 rest = c := ⟨_, rfl⟩
    refine cw_go tabOK 99 (by simp only [go_sem]; try exact rfl) (by simp [go_sem]) ?_
    refine cw_call rfl rfl (by simp only [go_sem]; try exact rfl) (by simp [go_sem]) ⟨_, Go.Proofs.Tryd.func41, by kernel_rfl, rfl⟩ (by simp [go_sem]) (cut1_at hc (by omega)) (by simp [go_sem]) (by simp only [go_sem]; exact rfl) ?_
    cases b with
    | false =>
      have hb : logR rest = ([], 2) := log_bare (cut1_bare rest (by rw [hc])) hne
      rw [hb] at hlog
      rw [hlog]
      refine cw_go tabOK 99 (by simp only [go_sem]; try exact rfl) (by simp [go_sem]) ?_
      refine cw_cond (by simp only [go_sem]; try exact rfl) trivial (fun h => ?_) (fun h => ?_)
      · refine cw_go tabOK 99 (by simp only [go_sem]; try exact rfl) (by simp [go_sem]) ?_
        refine cw_ret ⟨_, _, by simp only [go_sem]; try exact rfl, by simp [go_sem], _, .inr (.inl rfl), ?_⟩
        rfl
      · cases h
    | true =>
      obtain ⟨e1, e2⟩ := cut1_line rest (by rw [hc])
      rw [hc] at e1 e2
      simp only at e1 e2
      subst e1
      rw [log_line e2] at hlog
      rw [cut_app 10 p q e2] at hpr
      have hpl := hpr p (by simp)
      simp only [List.length_append, List.length_cons] at hl
      obtain ⟨r, e, hp⟩ : ∃ r e, parseR p = (r, e) := ⟨_, _, rfl⟩
      rw [hp] at hlog
      refine cw_go tabOK 99 (by simp only [go_sem]; try exact rfl) (by simp [go_sem]) ?_
      refine cw_cond (by simp only [go_sem]; try exact rfl) trivial (fun h => ?_) (fun h => ?_)
      · cases h
      refine cw_go tabOK 99 (by simp only [go_sem]; try exact rfl) (by simp [go_sem]) ?_
      refine cw_call rfl rfl (by simp only [go_sem]; try exact rfl) (by simp [go_sem]) ⟨_, Go.Proofs.Tryd.func18, by kernel_rfl, rfl⟩ (by simp [go_sem]) (parse_at hp (by omega)) (by simp [go_sem]) (by simp only [go_sem]; exact rfl) ?_
      simp only [go_sem, recRow]
      refine cw_go tabOK 99 (by simp only [go_sem]; try exact rfl) (by simp [go_sem]) ?_
      refine cw_cond (by simp only [go_sem]; try exact rfl) trivial (fun h => ?_) (fun h => ?_)
      · have he : e ≠ 0 := by simpa using h
        simp only [he, ne_eq, not_false_eq_true, if_true] at hlog
        rw [hlog]
        refine cw_go tabOK 99 (by simp only [go_sem]; try exact rfl) (by simp [go_sem]) ?_
        refine cw_ret ⟨_, _, by simp only [go_sem]; try exact rfl, by simp [go_sem], _, .inr (.inl rfl), ?_⟩
        rfl
      have he : e = 0 := by simpa using h
      subst he
      simp only [ne_eq, not_true_eq_false, if_false] at hlog
      have hlog2 : logR s = if (logR q).2 ≠ 0 then ([], (logR q).2) else (done ++ [r] ++ (logR q).1, 0) := by
        rw [hlog]
        by_cases hq : (logR q).2 = 0 <;> simp [hq]
      have htk : List.take done.length (done.map recRow) = done.map recRow := List.take_of_length_le (by simp)
      refine cw_go tabOK 99 (by simp only [go_sem]; try exact rfl) ?_ ?_
      · simp [htk, refs]
        exact ⟨by intro row h; simp at h; subst h; rfl, by omega⟩
      refine cw_back ⟨(q, done ++ [r]), ⟨by simp; omega, fun x hx => hpr x (List.mem_cons_of_mem _ hx), hlog2⟩, by simp; omega, le_sub ?_ ?_ ?_⟩
      · simp [go_sem]
      · simp [go_sem, htk, recRow]
      · simp [go_sem]
  · have hne : rest = [] := by simpa using h
    subst hne
    have h0 : logR [] = ([], 0) := rfl
    rw [h0] at hlog
    simp only [ne_eq, not_true_eq_false, if_false, List.append_nil] at hlog
    rw [hlog]
    refine cw_go tabOK 99 (by simp only [go_sem]; try exact rfl) (by simp [go_sem]) ?_
    refine cw_freeze 31 rfl (recRow_pure _) ?_
    refine cw_go tabOK 99 (by simp only [go_sem]; try exact rfl) (by simp [go_sem]) ?_
    refine cw_ret ⟨_, _, by simp only [go_sem]; try exact rfl, by simp [go_sem], _, .inr (.inl rfl), ?_⟩
    simp [logA, Eng.nrm, Eng.nrmL, nrm_recs]

theorem log_ok (s : List UInt8) (hs : s.length ≤ 100000000) (hps : ∀ p, p ∈ cutL 10 s → p.length ≤ 10000000) : FnOK Tryd.prog 21 [.str s] [] (fun r _ => r = logA (logR s)) := fn_nrmP (log_raw s hs hps)
end La

namespace La
open Go Go.Eng Go.Proofs Go.RowKit
set_option maxRecDepth 1000000
set_option linter.unusedSimpArgs false
set_option linter.unusedVariables false

theorem text_app : ∀ {a : List Rec} {s : List UInt8} (b : List Rec), textR a = (s, 0) → textR (a ++ b) = if (textR b).2 ≠ 0 then ([], (textR b).2) else (s ++ (textR b).1, 0)
  | [], s, b, h => by
    simp only [textR, Prod.mk.injEq, and_true] at h
    subst h
    by_cases h0 : (textR b).2 = 0
    · simp only [h0, List.nil_append, ne_eq, not_true_eq_false, if_false]
      rw [← h0]
    · simp only [List.nil_append, ne_eq, h0, not_false_eq_true, if_true]
      cases b with
      | nil => exact absurd rfl h0
      | cons r b =>
        simp only [textR] at h0 ⊢
        split
        · rfl
        · rename_i h1
          rw [if_neg h1] at h0
          split
          · rfl
          · rename_i h2
            rw [if_neg h2] at h0
            exact absurd rfl h0
  | r :: a, s, b, h => by
    obtain ⟨x, y, h1, h2, rfl⟩ := textR_cons h
    have ih := text_app b h2
    rw [List.cons_append, textR, h1, ih]
    by_cases h0 : (textR b).2 = 0 <;> simp [h0]

theorem print_len (r : Rec) (hr : r.Ok) (hd : r.act.data.length ≤ 5000000) (hn : r.act.name.length ≤ 5000000) (ht : r.act.toName.length ≤ 5000000) : (printR r).1.length ≤ 19999999 := by
  unfold printR
  split
  · simp
  · rename_i hk
    split
    · have hwl : (wordK r.act.kind).length ≤ 6 := by rcases kind_cases hk with h | h | h | h | h <;> rw [h] <;> decide
      have li := Lib.itoa_length_le r.id hr.id.1 hr.id.2
      have lv := Lib.itoa_length_le r.version hr.version.1 hr.version.2
      have lf := Lib.itoa_length_le r.act.fid hr.act.fid.1 hr.act.fid.2
      have ld := Lib.itoa_length_le r.act.dir hr.act.dir.1 hr.act.dir.2
      have lt := Lib.itoa_length_le r.act.to hr.act.to.1 hr.act.to.2
      have lh := hexR_len r.act.data
      have hj := join_len 32 (fieldsL r)
      have hf : Lib.lens (fieldsL r) + (fieldsL r).length ≤ 19999999 := by
        unfold fieldsL
        by_cases h3 : r.act.kind = 3
        · simp [h3, Lib.lens]
          rw [h3] at hwl
          omega
        · by_cases h5 : r.act.kind = 5
          · simp [h5, Lib.lens]
            rw [h5] at hwl
            omega
          · simp [h3, h5, Lib.lens]
            omega
      show (Lib.join (fieldsL r) [32]).length ≤ _
      omega
    · simp

theorem strCells_byte (a : List UInt8) : Lib.strCells ⟨a.toArray⟩ = Lib.byteCells a := by
  rfl

theorem text_one (r : Rec) : textR [r] = if (printR r).2 ≠ 0 then ([], (printR r).2) else ((printR r).1 ++ [10], 0) := by
  simp [textR]

theorem print_calls (r : Rec) (hr : r.Ok) (hd : r.act.data.length ≤ 5000000) (hn : r.act.name.length ≤ 5000000) (ht : r.act.toName.length ≤ 5000000) {S : Nat → Prop} {W : World} {cs : Array Value} (hv : RdP S W (.agg cs) (.agg (recRow r))) (hS : ∀ b, S b → b < W.heap.size) (hG : glb.V W) (hB : ∀ b, glb.B b → b < W.heap.size) :
    Calls Tryd.prog 15 #[.agg cs] W fun e w' => e = .returned (.tuple #[.string ⟨(printR r).1.toArray⟩, .int .i64 (printR r).2]) ∧ Below W.heap.size W w' := by
  refine (calls_of_fn (print_ok r hr hd hn ht) (w := W) (vs := [.agg cs]) rfl (S := S) (fun j x h => ?_) hS ⟨fun b hb => ⟨hB b hb, fun ⟨i, h⟩ => nomatch h⟩, hG⟩).mono fun e w' ⟨v, μ, S', he, hv', hf⟩ => ?_
  · match j, h with
    | 0, h => simp only [List.getElem?_cons_zero, Option.some.injEq] at h; subst h; exact hv
    | j + 1, h => simp at h
  · obtain ⟨vs, rfl, h1, h2⟩ := hv'.inv_tup
    obtain ⟨b, k1, k2⟩ := (h2 0 _ rfl).inv_str
    have k3 := (h2 1 _ rfl).inv_int
    refine ⟨?_, ⟨hf.os, hf.tape, hf.output, hf.size, fun k hk => hf.block k hk (fun h => h)⟩⟩
    rw [he]
    congr 2
    have h1' : vs.size = 2 := h1
    apply Array.ext
    · simp [h1']
    · intro i hi1 hi2
      rw [Array.getD_eq_getD_getElem?] at k1 k3
      match i, hi1 with
      | 0, hi1 => rw [Array.getElem?_eq_getElem hi1] at k1; simp only [Option.getD_some] at k1; rw [k1, bytes_eq k2]; rfl
      | 1, hi1 => rw [Array.getElem?_eq_getElem hi1] at k3; simp only [Option.getD_some] at k3; rw [k3]; rfl
      | i + 2, hi1 => omega

set_option maxHeartbeats 4000000 in
theorem text_walk (l : List Rec) (hlen : l.length ≤ 5000000) (hok : ∀ r, r ∈ l → r.Ok ∧ r.act.data.length ≤ 5000000 ∧ r.act.name.length ≤ 5000000 ∧ r.act.toName.length ≤ 5000000) (A : Option Addr) (len cap : Nat) (w : World) (S : Nat → Prop) (hv : RdP S w (.slice A len cap) (.sl (l.map recRow))) (hS : ∀ b, S b → b < w.heap.size) (hG : glb.V w) (hB : ∀ b, glb.B b → b < w.heap.size) :
    Calls Tryd.prog 17 #[.slice A len cap] w fun e w' => e = .returned (.tuple #[.string ⟨(textR l).1.toArray⟩, .int .i64 (textR l).2]) ∧ Below w.heap.size w w' := by
  obtain ⟨A, cap', size, g, off, vals, e1, hc, hs', hA, hcell, hr⟩ := hv.inv_sl
  injection e1 with e1 e2 e3
  subst e1 e3
  rw [List.length_map] at e2 hA hc hcell
  subst e2
  go_enter Tryd.func17, Tryd.ntmps17
  go_wp2
  go_loopw [11] (fun vi wr => ∃ (i : Nat) (acc : List UInt8), vi = .int .i64 i ∧ i ≤ l.length ∧ Lib.IsBuilderF 57 5 w.heap.size w.heap.size (Lib.byteCells acc) wr ∧ Below w.heap.size w wr ∧ textR (l.take i) = (acc, 0) ∧ acc.length ≤ i * 20000000) (fun vi _ => l.length - (RowKit.intOf vi).toNat)
  case atStart =>
    exact ⟨0, [], rfl, Nat.zero_le _, (Lib.IsBuilderF.of (Lib.fresh_isBuilder 57 5 w)), (Below.refl _ w).alloc (Nat.le_refl _) _, rfl, by simp⟩
  case round =>
    obtain ⟨i, acc, rfl, hi, hI, hbw, htx, hal⟩ := hrel
    by_cases hlt : i < l.length
    · obtain ⟨rfl, hg⟩ := hA (by omega)
      obtain ⟨r, hr0⟩ : ∃ r, l[i]? = some r := ⟨_, List.getElem?_eq_getElem hlt⟩
      have hmem : r ∈ l := List.mem_of_getElem? hr0
      have hrow : (l.map recRow)[i]? = some (recRow r) := by rw [List.getElem?_map, hr0]; rfl
      obtain rfl : 9 = size := hs' (recRow r) (List.mem_of_getElem? hrow)
      have hgw : g < w.heap.size := hS g hg
      have hcw : ∀ j, j < 9 → wr.cell? ⟨g, off + (i * 9 + j), none⟩ = some (vals i j) := fun j hj => by rw [cell_same (hbw.block g hgw)]; exact hcell i j hlt hj
      have c0 : wr.cell? ⟨g, off + i * 9, none⟩ = some (vals i 0) := hcw 0 (by decide)
      have c1 : wr.cell? ⟨g, off + i * 9 + 1, none⟩ = some (vals i 1) := by rw [Nat.add_assoc]; exact hcw 1 (by decide)
      have c2 : wr.cell? ⟨g, off + i * 9 + 2, none⟩ = some (vals i 2) := by rw [Nat.add_assoc]; exact hcw 2 (by decide)
      have c3 : wr.cell? ⟨g, off + i * 9 + 3, none⟩ = some (vals i 3) := by rw [Nat.add_assoc]; exact hcw 3 (by decide)
      have c4 : wr.cell? ⟨g, off + i * 9 + 4, none⟩ = some (vals i 4) := by rw [Nat.add_assoc]; exact hcw 4 (by decide)
      have c5 : wr.cell? ⟨g, off + i * 9 + 5, none⟩ = some (vals i 5) := by rw [Nat.add_assoc]; exact hcw 5 (by decide)
      have c6 : wr.cell? ⟨g, off + i * 9 + 6, none⟩ = some (vals i 6) := by rw [Nat.add_assoc]; exact hcw 6 (by decide)
      have c7 : wr.cell? ⟨g, off + i * 9 + 7, none⟩ = some (vals i 7) := by rw [Nat.add_assoc]; exact hcw 7 (by decide)
      have c8 : wr.cell? ⟨g, off + i * 9 + 8, none⟩ = some (vals i 8) := by rw [Nat.add_assoc]; exact hcw 8 (by decide)
      clear hcw
      have hd : ∀ j x, (recRow r)[j]? = some x → RdP S w (vals i j) x := hr i _ hrow
      have d0 : vals i 0 = .int .i64 r.act.kind := Rd.inv_int (μ := fun _ => none) (.pure (hd 0 _ rfl))
      have d1 : vals i 1 = .int .i64 r.act.fid := Rd.inv_int (μ := fun _ => none) (.pure (hd 1 _ rfl))
      have d2 : vals i 2 = .int .i64 r.act.dir := Rd.inv_int (μ := fun _ => none) (.pure (hd 2 _ rfl))
      obtain ⟨b3, d3, q3⟩ : ∃ s : ByteArray, vals i 3 = .string s ∧ s.data.toList = r.act.name := Rd.inv_str (μ := fun _ => none) (.pure (hd 3 _ rfl))
      have d4 : vals i 4 = .int .i64 r.act.to := Rd.inv_int (μ := fun _ => none) (.pure (hd 4 _ rfl))
      obtain ⟨b5, d5, q5⟩ : ∃ s : ByteArray, vals i 5 = .string s ∧ s.data.toList = r.act.toName := Rd.inv_str (μ := fun _ => none) (.pure (hd 5 _ rfl))
      obtain ⟨A6, cap6, _, _, _, _, d6, _⟩ := (hd 6 _ rfl).inv_sl
      have d7 : vals i 7 = .int .i64 r.version := Rd.inv_int (μ := fun _ => none) (.pure (hd 7 _ rfl))
      have d8 : vals i 8 = .int .i64 r.id := Rd.inv_int (μ := fun _ => none) (.pure (hd 8 _ rfl))
      clear hd
      have hrd : RdP S w (.agg #[vals i 0, vals i 1, vals i 2, vals i 3, vals i 4, vals i 5, vals i 6, vals i 7, vals i 8]) (.agg (recRow r)) := by
        refine .agg _ _ rfl (fun j x hx => ?_)
        have := hr i _ hrow j x hx
        have hj : j < 9 := (List.getElem?_eq_some_iff.1 hx).1
        match j, hj with
        | 0, _ => exact this
        | 1, _ => exact this
        | 2, _ => exact this
        | 3, _ => exact this
        | 4, _ => exact this
        | 5, _ => exact this
        | 6, _ => exact this
        | 7, _ => exact this
        | 8, _ => exact this
      rw [d0, d1, d2, d3, d4, d5, d6, d7, d8] at hrd
      rw [d0] at c0
      rw [d1] at c1
      rw [d2] at c2
      rw [d3] at c3
      rw [d4] at c4
      rw [d5] at c5
      rw [d6] at c6
      rw [d7] at c7
      rw [d8] at c8
      clear d0 d1 d2 d3 d4 d5 d6 d7 d8
      obtain ⟨o1, o2, o3, o4⟩ := hok r hmem
      simp only [List.length_map] at hrd
      have hsz := hbw.size
      have hbo : ∀ o, Below w.heap.size w (wr.alloc o) := fun o => hbw.alloc hsz o
      have htn : l.take (i + 1) = l.take i ++ [r] := by rw [List.take_add_one, hr0]; rfl
      have hl2 : l = l.take i ++ r :: l.drop (i + 1) := by
        have h1 := List.drop_eq_getElem_cons hlt
        have h2 : l[i] = r := by rw [List.getElem?_eq_getElem hlt] at hr0; exact Option.some.inj hr0
        rw [h2] at h1
        rw [← h1, List.take_append_drop]
      obtain ⟨a, e, hp⟩ : ∃ a e, printR r = (a, e) := ⟨_, _, rfl⟩
      have hpc : ∀ (W : World) (S : Nat → Prop) cs, RdP S W (.agg cs) (.agg (recRow r)) → (∀ b, S b → b < W.heap.size) → glb.V W → (∀ b, glb.B b → b < W.heap.size) →
          Calls Tryd.prog 15 #[.agg cs] W fun e' w' => e' = .returned (.tuple #[.string ⟨a.toArray⟩, .int .i64 e]) ∧ Below W.heap.size W w' := fun W S cs h1 h2 h3 h4 => by
        have := print_calls r o1 o2 o3 o4 h1 h2 h3 h4
        rwa [hp] at this
      have HT : Hid (l.take (i + 1) = l.take i ++ [r]) := htn
      have HX : Hid (textR (l.take i) = (acc, 0)) := htx
      have HP : Hid (printR r = (a, e)) := hp
      have HL : Hid (l = l.take i ++ r :: l.drop (i + 1)) := hl2
      clear htn htx hp hl2
      by_cases he : e = 0
      · subst he
        have hla : a.length ≤ 19999999 := by
          have := print_len r o1 o2 o3 o4
          rw [HP.out] at this
          exact this
        go_wp2_with (go_at_call 15; refine (hpc _ S _ (hrd.mono (fun b hb => (hbo _).block b (hS b hb)) (fun _ h => h)) ?_ (glb_below hG hB (hbo _)) ?_).mono ?_)
        · intro b hb; have := hS b hb; simp; omega
        · intro b hb; have := hB b hb; simp; omega
        rintro e W1 rfl hb1
        have hb1' : Below wr.heap.size wr W1 := ((Below.refl wr.heap.size wr).alloc (Nat.le_refl _) _).trans (hb1.mono (by omega))
        have hI2 := hI.below hb1'
        have hbw2 := hbw.trans (hb1'.mono hsz)
        have hsz2 := hbw2.size
        go_wp2_with (go_at_call 32; refine (Tryd.Builder_WriteString_k w.heap.size w.heap.size _ ⟨a.toArray⟩ _ hI2 (by rw [Lib.byteCells_length]; simp [ByteArray.size]; omega) hsz2).mono ?_)
        rintro e W2 ⟨rfl, h2, b2, k2⟩
        have hbw3 := hbw2.trans b2
        have hsz3 := hbw3.size
        go_wp2_with (go_at_call 33; refine (Tryd.Builder_WriteByte_k w.heap.size w.heap.size _ 10 _ (Or.inr h2) (by simp [Lib.byteCells_length, Lib.strCells]; omega) hsz3).mono ?_)
        rintro e W3 ⟨rfl, h3, b3, k3⟩
        go_wp2
        go_roundw
        case rel =>
          refine ⟨i + 1, acc ++ (a ++ [10]), by go_num, by omega, ?_, hbw3.trans b3, ?_, ?_⟩
          · rw [Lib.byteCells_append, Lib.byteCells_append, ← List.append_assoc, ← strCells_byte]
            exact Or.inr h3
          · rw [HT.out, text_app [r] HX.out, text_one, HP.out]
            simp
          · simp; omega
        case measure =>
          simp only [RowKit.intOf]
          omega
      · have he' : (e == 0) = false := beq_eq_false_iff_ne.2 he
        have htl : textR l = ([], e) := by
          rw [HL.out, text_app _ HX.out]
          simp only [textR, HP.out, ne_eq, he, not_false_eq_true, if_true]
        go_wp2_with (go_at_call 15; refine (hpc _ S _ (hrd.mono (fun b hb => (hbo _).block b (hS b hb)) (fun _ h => h)) ?_ (glb_below hG hB (hbo _)) ?_).mono ?_)
        · intro b hb; have := hS b hb; simp; omega
        · intro b hb; have := hB b hb; simp; omega
        rintro e W1 rfl hb1
        have hb1' : Below wr.heap.size wr W1 := ((Below.refl wr.heap.size wr).alloc (Nat.le_refl _) _).trans (hb1.mono (by omega))
        go_wp2
        go_ret2
        rw [htl]
        exact ⟨rfl, hbw.trans (hb1'.mono hsz)⟩
    · have hil : i = l.length := by omega
      subst hil
      rw [List.take_length] at htx
      go_wp2_with (go_at_call 34; refine (Tryd.Builder_String_any_k w.heap.size w.heap.size acc _ hI hbw.size).mono ?_)
      rintro e W1 ⟨rfl, _, b1, _⟩
      go_wp2
      go_ret2
      rw [htx]
      exact ⟨rfl, hbw.trans b1⟩

structure RecFit (r : Rec) : Prop where
  ok : r.Ok
  data : r.act.data.length ≤ 5000000
  name : r.act.name.length ≤ 5000000
  toName : r.act.toName.length ≤ 5000000

theorem text_at {l : List Rec} {s : List UInt8} {e : Int} (h : textR l = (s, e)) (hlen : l.length ≤ 5000000) (hok : ∀ r, r ∈ l → RecFit r) : FnOK Tryd.prog 17 [.sl (l.map recRow)] [] (fun r _ => r = .tup [.str s, .int .i64 e]) := by
  intro R0 μ w0 vs hl ha hH hR
  match vs, hl with
  | [v0], _ =>
  have h0 := (ha 0 _ rfl).inv_sl
  simp only [List.getD_cons_zero] at h0
  obtain ⟨A, cap, _, _, _, _, rfl, _⟩ := h0.inv_sl
  refine (text_walk l hlen (fun r hr => ⟨(hok r hr).ok, (hok r hr).data, (hok r hr).name, (hok r hr).toName⟩) A _ cap w0 R0 h0 hR hH.glob.2 (fun b hb => (hH.glob.1 b hb).1)).mono fun e' w' ⟨he, hw⟩ => ?_
  rw [he, h]
  refine ⟨_, _, [], fun _ => none, R0, rfl, rfl, .tup _ _ rfl (fun j x hx => ?_), ⟨fun id b h => by simp [hget] at h, fun id g h => (by cases h), fun id id' g h => (by cases h), (hH.glob.frm (frm_below hw) (fun id g h => .inl ⟨id, h⟩)).nil⟩, frm_below hw, fun id g h => (by cases h),
    fun b hb => ⟨Nat.lt_of_lt_of_le (hR b hb) hw.size, .inl hb⟩⟩
  match j, hx with
  | 0, hx => simp only [List.getElem?_cons_zero, Option.some.injEq] at hx; subst hx; exact .pure (.str _ _ rfl)
  | 1, hx => simp only [List.getElem?_cons_zero, List.getElem?_cons_succ, Option.some.injEq] at hx; subst hx; exact .pure (.int _ _)
  | j + 2, hx => simp at hx

theorem log_at {s : List UInt8} {l : List Rec} {e : Int} (h : logR s = (l, e)) (hs : s.length ≤ 100000000) (hps : ∀ p, p ∈ cutL 10 s → p.length ≤ 10000000) : FnOK Tryd.prog 21 [.str s] [] (fun r _ => r = .tup [.sl (l.map recRow), .int .i64 e]) := by
  have := log_ok s hs hps
  rw [h] at this
  exact this
theorem print_at {r : Rec} {s : List UInt8} {e : Int} (h : printR r = (s, e)) (hr : RecFit r) : FnOK Tryd.prog 15 [.agg (recRow r)] [] (fun x _ => x = .tup [.str s, .int .i64 e]) := by
  have := print_ok r hr.ok hr.data hr.name hr.toName
  rw [h] at this
  exact this
end La

namespace La
open Go Go.Eng Go.Proofs
set_option maxRecDepth 10000
set_option linter.unusedSimpArgs false
set_option linter.unusedVariables false

def rec5 : Rec := ⟨⟨3, 3, 0, [], 0, [], [1, 255]⟩, 7, 2⟩
def line5 : List UInt8 := [115, 116, 111, 114, 101, 32, 50, 32, 55, 32, 51, 32, 48, 49, 102, 102]
theorem rec5_fit : RecFit rec5 := by
  refine ⟨⟨⟨?_, ?_, ?_, ?_⟩, ?_, ?_⟩, by decide, by decide, by decide⟩ <;> exact ⟨by decide, by decide⟩
theorem print5 : printR rec5 = (line5, 0) := by
  have h2 : Lib.itoa 2 = [50] := by simp [Lib.itoa, Lib.decDigits]
  have h7 : Lib.itoa 7 = [55] := by simp [Lib.itoa, Lib.decDigits]
  have h3 : Lib.itoa 3 = [51] := by simp [Lib.itoa, Lib.decDigits]
  have hf : fieldsL rec5 = [[115, 116, 111, 114, 101], [50], [55], [51], [48, 49, 102, 102]] := by
    show [wordK 3, Lib.itoa 2, Lib.itoa 7, Lib.itoa 3, hexR [1, 255]] = _
    rw [h2, h7, h3]
    decide
  have : printR rec5 = (Lib.join (fieldsL rec5) [32], 0) := rfl
  rw [this, hf]
  decide
theorem canon5 : canon rec5 = rec5 := rfl
theorem parse5 : parseR line5 = (rec5, 0) := by
  rw [print_parse rec5_fit.ok print5, canon5]
theorem text5 : textR [rec5] = (line5 ++ [10], 0) := by
  rw [text_one, print5]; rfl
theorem log5 : logR (line5 ++ [10]) = ([rec5], 0) := by
  have := (text_log (l := [rec5]) (fun r hr => by simp at hr; subst hr; exact rec5_fit.ok) text5).1
  rw [this]; rfl

theorem alive5_ok : FnOK Tryd.prog 23 [] [] (fun r _ => r = .bool true) := by
  refine fn_of_cwW tabOK (Go.Proofs.Tryd.func23) rfl (fun C => ?_)
  simp only [Go.Proofs.Tryd.ntmps23, Go.Proofs.Tryd.results23, go_sem]
  refine cw_go tabOK 99 (by simp only [go_sem]; try exact rfl) (by simp [go_sem]) ?_
  refine cw_freeze 10 rfl (by rfl) ?_
  refine cw_call rfl rfl (by simp only [go_sem]; try exact rfl) (by simp [go_sem]) ⟨_, Go.Proofs.Tryd.func15, by kernel_rfl, rfl⟩ (by simp [go_sem]) (print_at print5 rec5_fit) (by simp [go_sem]) (by simp only [go_sem]; exact rfl) ?_
  refine cw_go tabOK 99 (by simp only [go_sem]; try exact rfl) (by simp [go_sem]) ?_
  refine cw_call rfl rfl (by simp only [go_sem]; try exact rfl) (by simp [go_sem]) ⟨_, Go.Proofs.Tryd.func18, by kernel_rfl, rfl⟩ (by simp [go_sem]) (parse_at parse5 (by decide)) (by simp [go_sem]) (by simp only [go_sem]; exact rfl) ?_
  simp only [go_sem, recRow, rec5]
  refine cw_go tabOK 99 (by simp only [go_sem]; try exact rfl) ?_ ?_
  · simp [line5]
  refine cw_call rfl rfl (by simp only [go_sem]; try exact rfl) (by simp [go_sem]) ⟨_, Go.Proofs.Tryd.func21, by kernel_rfl, rfl⟩ (by simp [go_sem]) (log_at log5 (by decide) (by decide)) (by simp [go_sem]) (by simp only [go_sem]; exact rfl) ?_
  refine cw_go tabOK 99 (by simp only [go_sem, beq_self_eq_true, cond_true]; try exact rfl) (by simp [go_sem, beq_self_eq_true, cond_true]) ?_
  refine cw_call rfl rfl (by simp only [go_sem]; try exact rfl) (by simp [go_sem]) ⟨_, Go.Proofs.Tryd.func17, by kernel_rfl, rfl⟩ (by simp [go_sem]) (text_at text5 (by decide) (fun r hr => by simp at hr; subst hr; exact rec5_fit)) (by simp [go_sem]) (by simp only [go_sem]; exact rfl) ?_
  have hl : (line5 == [115, 116, 111, 114, 101, 32, 50, 32, 55, 32, 51, 32, 48, 49, 102, 102]) = true := by decide
  refine cw_go tabOK 99 (by simp only [go_sem, beq_self_eq_true, cond_true]; try exact rfl) ?_ ?_
  · simp [line5]
  refine cw_ret ⟨_, _, (by simp only [go_sem]; try exact rfl), by simp [go_sem], _, .inr (.inl rfl), ?_⟩
  simp [hl]
end La

namespace La
open Go Go.Eng Go.Proofs
set_option maxRecDepth 10000
set_option linter.unusedSimpArgs false
set_option linter.unusedVariables false

theorem canon_fit {r : Rec} (h : RecFit r) : RecFit (canon r) := by
  obtain ⟨⟨⟨a1, a2, a3, a4⟩, a5, a6⟩, h2, h3, h4⟩ := h
  refine ⟨⟨⟨a1, a2, ?_, ?_⟩, a5, a6⟩, ?_, ?_, ?_⟩
  · show i64 (if _ then 0 else _); split
    · exact ⟨by decide, by decide⟩
    · exact a3
  · show i64 (if _ then _ else 0); split
    · exact a4
    · exact ⟨by decide, by decide⟩
  · show (if _ then _ else []).length ≤ _; split
    · exact h2
    · simp
  · show (if _ then [] else _).length ≤ _; split
    · simp
    · exact h3
  · show (if _ then _ else []).length ≤ _; split
    · exact h4
    · simp

theorem recOf_fit {k : Int} {l : List (List UInt8)} (hk : i64 k) (hl : ∀ x, x ∈ l → x.length ≤ 5000000) (hu : (unhexR (l.getD 4 [])).1.length ≤ 5000000) : RecFit (recOf k l) := by
  have hn : ∀ s, i64 (numV s) := numV_range
  have hz : i64 0 := ⟨by decide, by decide⟩
  have h3 : i64 3 := ⟨by decide, by decide⟩
  have h5 : i64 5 := ⟨by decide, by decide⟩
  have hg : ∀ i, (l.getD i []).length ≤ 5000000 := fun i => by
    by_cases h : i < l.length
    · have : l.getD i [] ∈ l := by rw [List.getD_eq_getElem?_getD, List.getElem?_eq_getElem h]; exact List.getElem_mem h
      exact hl _ this
    · rw [List.getD_eq_getElem?_getD, List.getElem?_eq_none (by omega)]; simp
  unfold recOf
  split
  · exact ⟨⟨⟨h3, hn _, hz, hz⟩, hn _, hn _⟩, hu, by simp, by simp⟩
  · split
    · exact ⟨⟨⟨h5, hn _, hn _, hn _⟩, hn _, hn _⟩, by simp, hg 5, hg 7⟩
    · exact ⟨⟨⟨hk, hn _, hn _, hz⟩, hn _, hn _⟩, by simp, hg 5, by simp⟩

theorem unhexL_len : ∀ (s d : List UInt8), unhexL s = some d → d.length ≤ s.length := fun s d h => by
  have := flat_unhexL s d h
  have h2 := flat_len d
  rw [this] at h2
  omega
theorem unhexR_len (s : List UInt8) : (unhexR s).1.length ≤ s.length := by
  unfold unhexR
  split
  · simp
  · split
    · simp
    · cases e : unhexL s with
      | none => simp
      | some d => exact unhexL_len s d e

theorem parse_fit {s : List UInt8} {r : Rec} (hs : s.length ≤ 5000000) (h : parseR s = (r, 0)) : RecFit r := by
  have hp := cutL_part 32 s
  have hkr := kindW_le ((cutL 32 s).getD 0 [])
  unfold parseR parseL at h
  simp only at h
  generalize cutL 32 s = l at h hp hkr
  have hf : RecFit (recOf (kindW (l.getD 0 [])) l) := recOf_fit ⟨by omega, by omega⟩ (fun x hx => by have := hp x hx; omega) (by
    have := unhexR_len (l.getD 4 [])
    by_cases h4 : 4 < l.length
    · have hm : l.getD 4 [] ∈ l := by rw [List.getD_eq_getElem?_getD, List.getElem?_eq_getElem h4]; exact List.getElem_mem h4
      have := hp _ hm; omega
    · rw [List.getD_eq_getElem?_getD, List.getElem?_eq_none (by omega)] at this ⊢
      have h0 : unhexR [] = ([], false) := rfl
      simp [h0])
  have key : ∀ {z : Rec} {c : Int}, c ≠ 0 → (z, c) = (r, 0) → False := fun hc he => hc (Prod.mk.inj he).2
  by_cases h1 : kindW (l.getD 0 []) = 0
  · rw [if_pos h1] at h; exact (key (by decide) h).elim
  rw [if_neg h1] at h
  by_cases h2 : l.length ≠ (if kindW (l.getD 0 []) = 3 then 5 else if kindW (l.getD 0 []) = 5 then 8 else 6)
  · rw [if_pos h2] at h; exact (key (by decide) h).elim
  rw [if_neg h2] at h
  split at h
  · split at h
    · rw [← (Prod.mk.inj h).1]; exact hf
    · exact (key (by decide) h).elim
  · split at h
    · exact (key (by decide) h).elim
    · split at h
      · exact (key (by decide) h).elim
      · rw [← (Prod.mk.inj h).1]; exact hf

theorem go_fit : ∀ (ps : List (List UInt8)) (m : List Rec), (∀ p, p ∈ ps → p.length ≤ 5000000) → goL ps = (m, 0) → (∀ r, r ∈ m → RecFit r) ∧ m.length + 1 ≤ ps.length + 1
  | [], m, _, h => by simp only [goL, Prod.mk.injEq, and_true] at h; subst h; exact ⟨fun r hr => by simp at hr, by simp⟩
  | [p], m, _, h => by
    simp only [goL] at h
    split at h
    · cases h; exact ⟨fun r hr => by simp at hr, by simp⟩
    · cases h
  | p :: q :: r, m, hp, h => by
    rw [goL_cons p (by simp)] at h
    by_cases h1 : (parseR p).2 ≠ 0
    · rw [if_pos h1] at h
      exact absurd (Prod.mk.inj h).2 h1
    rw [if_neg h1] at h
    by_cases h2 : (goL (q :: r)).2 ≠ 0
    · rw [if_pos h2] at h
      exact absurd (Prod.mk.inj h).2 h2
    rw [if_neg h2] at h
    have e1 := Decidable.of_not_not h1
    have e2 := Decidable.of_not_not h2
    obtain ⟨rfl, _⟩ := Prod.mk.inj h
    obtain ⟨k1, k2⟩ := go_fit (q :: r) (goL (q :: r)).1 (fun x hx => hp x (List.mem_cons_of_mem _ hx)) (by rw [← e2])
    refine ⟨fun x hx => ?_, by simp at k2 ⊢; omega⟩
    rcases List.mem_cons.1 hx with rfl | hx
    · exact parse_fit (hp p (by simp)) (by rw [← e1])
    · exact k1 x hx

theorem log_fit {s : List UInt8} {m : List Rec} (hs : s.length ≤ 4000000) (h : logR s = (m, 0)) : (∀ r, r ∈ m → RecFit r) ∧ m.length ≤ 5000000 := by
  obtain ⟨k1, k2⟩ := go_fit (cutL 10 s) m (fun p hp => by have := cutL_part 10 s p hp; omega) h
  have := cutL_le 10 s
  exact ⟨k1, by omega⟩


theorem wire_turns (l : List Rec) (t : List UInt8) (hl : l.length ≤ 5000000) (hf : ∀ r, r ∈ l → RecFit r) (ht : t.length ≤ 4000000) (hb : (textR l).1.length ≤ 100000000) (hbp : ∀ p, p ∈ cutL 10 (textR l).1 → p.length ≤ 10000000) :
    FnOK Tryd.prog 6 [.sl (l.map recRow), .str t] [] (fun r _ => r = .bool true) := by
  refine fn_of_cwW tabOK (Go.Proofs.Tryd.func6) rfl (fun C => ?_)
  simp only [Go.Proofs.Tryd.ntmps6, Go.Proofs.Tryd.results6, go_sem]
  refine cw_go tabOK 99 (by simp only [go_sem]; try exact rfl) (by simp [go_sem]) ?_
  refine cw_call rfl rfl (by simp only [go_sem]; try exact rfl) (by simp [go_sem]) ⟨_, Go.Proofs.Tryd.func23, by kernel_rfl, rfl⟩ (by simp [go_sem]) (alive5_ok) (by simp [go_sem]) (by simp only [go_sem]; exact rfl) ?_
  refine cw_go tabOK 99 (by simp only [go_sem]; try exact rfl) (by simp [go_sem]) ?_
  refine cw_cond (by simp only [go_sem]; try exact rfl) trivial (fun h => ?_) (fun h => ?_)
  · cases h
  obtain ⟨s, e, hx⟩ : ∃ s e, textR l = (s, e) := ⟨_, _, rfl⟩
  rw [hx] at hb hbp
  simp only at hb hbp
  refine cw_go tabOK 99 (by simp only [go_sem]; try exact rfl) (by simp [go_sem]) ?_
  refine cw_call rfl rfl (by simp only [go_sem]; try exact rfl) (by simp [go_sem]) ⟨_, Go.Proofs.Tryd.func17, by kernel_rfl, rfl⟩ (by simp [go_sem]) (text_at hx hl hf) (by simp [go_sem]) (by simp only [go_sem]; exact rfl) ?_
  have htp : ∀ p, p ∈ cutL 10 t → p.length ≤ 10000000 := fun p hp => by have := cutL_part 10 t p hp; omega
  refine cw_go tabOK 99 (by simp only [go_sem]; try exact rfl) (by simp [go_sem]) ?_
  refine cw_cond (by simp only [go_sem]; try exact rfl) trivial (fun h => ?_) (fun h => ?_)
  · have he : e = 0 := by simpa using h
    subst he
    obtain ⟨k1, k2⟩ := text_log (fun r hr => (hf r hr).ok) hx
    refine cw_go tabOK 99 (by simp only [go_sem]; try exact rfl) (by simp [go_sem]) ?_
    refine cw_call rfl rfl (by simp only [go_sem]; try exact rfl) (by simp [go_sem]) ⟨_, Go.Proofs.Tryd.func21, by kernel_rfl, rfl⟩ (by simp [go_sem]) (log_at k1 hb hbp) (by simp [go_sem]) (by simp only [go_sem]; exact rfl) ?_
    refine cw_go tabOK 99 (by simp only [go_sem, List.length_map]; try exact rfl) (by simp [go_sem, List.length_map]) ?_
    refine cw_cond (by simp only [go_sem]; try exact rfl) trivial (fun h => ?_) (fun h => ?_)
    · exfalso; simp at h
    refine cw_go tabOK 99 (by simp only [go_sem]; try exact rfl) (by simp [go_sem]) ?_
    refine cw_call rfl rfl (by simp only [go_sem]; try exact rfl) (by simp [go_sem]) ⟨_, Go.Proofs.Tryd.func17, by kernel_rfl, rfl⟩ (by simp [go_sem]) (text_at k2 (by simp; omega) (fun r hr => by obtain ⟨x, hx, rfl⟩ := List.mem_map.1 hr; exact canon_fit (hf x hx))) (by simp [go_sem]) (by simp only [go_sem]; exact rfl) ?_
    refine cw_go tabOK 99 (by simp only [go_sem]; try exact rfl) (by simp [go_sem]) ?_
    refine cw_cond (by simp only [go_sem]; try exact rfl) trivial (fun h => ?_) (fun h => ?_)
    · exfalso; simp at h
    refine cw_go tabOK 99 (by simp only [go_sem]; try exact rfl) (by simp [go_sem]) ?_
    obtain ⟨m, c, hm⟩ : ∃ m c, logR t = (m, c) := ⟨_, _, rfl⟩
    refine cw_call rfl rfl (by simp only [go_sem]; try exact rfl) (by simp [go_sem]) ⟨_, Go.Proofs.Tryd.func21, by kernel_rfl, rfl⟩ (by simp [go_sem]) (log_at hm (by omega) htp) (by simp [go_sem]) (by simp only [go_sem]; exact rfl) ?_
    refine cw_go tabOK 99 (by simp only [go_sem]; try exact rfl) (by simp [go_sem]) ?_
    refine cw_cond (by simp only [go_sem]; try exact rfl) trivial (fun h => ?_) (fun h => ?_)
    · have hc : c ≠ 0 := by simpa using h
      have h0 : m = [] := by have := log_err (s := t) (by rw [hm]; exact hc); rw [hm] at this; exact this
      subst h0
      refine cw_go tabOK 99 (by simp only [go_sem]; try exact rfl) (by simp [go_sem]) ?_
      refine cw_ret ⟨_, _, (by simp only [go_sem]; try exact rfl), by simp [go_sem], _, .inr (.inl rfl), ?_⟩
      rfl
    · have hc : c = 0 := by simpa using h
      subst hc
      obtain ⟨g1, g2⟩ := log_fit (by omega) hm
      refine cw_go tabOK 99 (by simp only [go_sem]; try exact rfl) (by simp [go_sem]) ?_
      refine cw_call rfl rfl (by simp only [go_sem]; try exact rfl) (by simp [go_sem]) ⟨_, Go.Proofs.Tryd.func17, by kernel_rfl, rfl⟩ (by simp [go_sem]) (text_at (log_text hm) g2 g1) (by simp [go_sem]) (by simp only [go_sem]; exact rfl) ?_
      refine cw_go tabOK 99 (by simp only [go_sem, beq_self_eq_true, cond_true]; try exact rfl) (by simp [go_sem, beq_self_eq_true, cond_true]) ?_
      refine cw_ret ⟨_, _, (by simp only [go_sem]; try exact rfl), by simp [go_sem], _, .inr (.inl rfl), ?_⟩
      simp
  refine cw_go tabOK 99 (by simp only [go_sem]; try exact rfl) (by simp [go_sem]) ?_
  obtain ⟨m, c, hm⟩ : ∃ m c, logR t = (m, c) := ⟨_, _, rfl⟩
  refine cw_call rfl rfl (by simp only [go_sem]; try exact rfl) (by simp [go_sem]) ⟨_, Go.Proofs.Tryd.func21, by kernel_rfl, rfl⟩ (by simp [go_sem]) (log_at hm (by omega) htp) (by simp [go_sem]) (by simp only [go_sem]; exact rfl) ?_
  refine cw_go tabOK 99 (by simp only [go_sem]; try exact rfl) (by simp [go_sem]) ?_
  refine cw_cond (by simp only [go_sem]; try exact rfl) trivial (fun h => ?_) (fun h => ?_)
  · have hc : c ≠ 0 := by simpa using h
    have h0 : m = [] := by have := log_err (s := t) (by rw [hm]; exact hc); rw [hm] at this; exact this
    subst h0
    refine cw_go tabOK 99 (by simp only [go_sem]; try exact rfl) (by simp [go_sem]) ?_
    refine cw_ret ⟨_, _, (by simp only [go_sem]; try exact rfl), by simp [go_sem], _, .inr (.inl rfl), ?_⟩
    rfl
  · have hc : c = 0 := by simpa using h
    subst hc
    obtain ⟨g1, g2⟩ := log_fit (by omega) hm
    refine cw_go tabOK 99 (by simp only [go_sem]; try exact rfl) (by simp [go_sem]) ?_
    refine cw_call rfl rfl (by simp only [go_sem]; try exact rfl) (by simp [go_sem]) ⟨_, Go.Proofs.Tryd.func17, by kernel_rfl, rfl⟩ (by simp [go_sem]) (text_at (log_text hm) g2 g1) (by simp [go_sem]) (by simp only [go_sem]; exact rfl) ?_
    refine cw_go tabOK 99 (by simp only [go_sem, beq_self_eq_true, cond_true]; try exact rfl) (by simp [go_sem, beq_self_eq_true, cond_true]) ?_
    refine cw_ret ⟨_, _, (by simp only [go_sem]; try exact rfl), by simp [go_sem], _, .inr (.inl rfl), ?_⟩
    simp
end La

namespace La
open Go Go.Eng Go.Proofs Go.Proofs.YtenlcncffplamaaDoor

def put (w : World) (b : Nat) (l : List Value) : World :=
  { w with heap := w.heap.modify b fun
      | .cells _ t frozen => .cells l.toArray t frozen
      | o => o }
def errAt (w : World) (b : Nat) (s : List UInt8) : World :=
  (put w b [.iface 119 (.pointer (some ⟨w.heap.size, 0, none⟩))]).alloc (.cells #[.string ⟨s.toArray⟩] 121)

noncomputable def laidWorld (os : Os) : World :=
  errAt (errAt (put (put (put (put (put (World.holding Tryd.prog os ⟨#[], #[], []⟩) 3 [.int .u64 1, .int .u64 10, .int .u64 100, .int .u64 1000, .int .u64 10000, .int .u64 100000, .int .u64 1000000, .int .u64 10000000, .int .u64 100000000, .int .u64 1000000000, .int .u64 10000000000, .int .u64 100000000000, .int .u64 1000000000000, .int .u64 10000000000000, .int .u64 100000000000000, .int .u64 1000000000000000, .int .u64 10000000000000000, .int .u64 100000000000000000, .int .u64 1000000000000000000, .int .u64 10000000000000000000]) 4 (Pinned.utf8FirstZ.map fun (n : Nat) => Value.int .u8 n)) 5 [.int .u8 128, .int .u8 191, .int .u8 160, .int .u8 191, .int .u8 128, .int .u8 159, .int .u8 144, .int .u8 191, .int .u8 128, .int .u8 143, .int .u8 0, .int .u8 0, .int .u8 0, .int .u8 0, .int .u8 0, .int .u8 0, .int .u8 0, .int .u8 0, .int .u8 0, .int .u8 0, .int .u8 0, .int .u8 0, .int .u8 0, .int .u8 0, .int .u8 0, .int .u8 0, .int .u8 0, .int .u8 0, .int .u8 0, .int .u8 0, .int .u8 0, .int .u8 0]) 6 [.int .u8 0, .int .u8 1, .int .u8 28, .int .u8 2, .int .u8 29, .int .u8 14, .int .u8 24, .int .u8 3, .int .u8 30, .int .u8 22, .int .u8 20, .int .u8 15, .int .u8 25, .int .u8 17, .int .u8 4, .int .u8 8, .int .u8 31, .int .u8 27, .int .u8 13, .int .u8 23, .int .u8 21, .int .u8 19, .int .u8 16, .int .u8 7, .int .u8 26, .int .u8 12, .int .u8 18, .int .u8 6, .int .u8 11, .int .u8 5, .int .u8 10, .int .u8 9]) 7 [.int .u8 0, .int .u8 1, .int .u8 56, .int .u8 2, .int .u8 57, .int .u8 49, .int .u8 28, .int .u8 3, .int .u8 61, .int .u8 58, .int .u8 42, .int .u8 50, .int .u8 38, .int .u8 29, .int .u8 17, .int .u8 4, .int .u8 62, .int .u8 47, .int .u8 59, .int .u8 36, .int .u8 45, .int .u8 43, .int .u8 51, .int .u8 22, .int .u8 53, .int .u8 39, .int .u8 33, .int .u8 30, .int .u8 24, .int .u8 18, .int .u8 12, .int .u8 5, .int .u8 63, .int .u8 55, .int .u8 48, .int .u8 27, .int .u8 60, .int .u8 41, .int .u8 37, .int .u8 16, .int .u8 46, .int .u8 35, .int .u8 44, .int .u8 21, .int .u8 52, .int .u8 32, .int .u8 23, .int .u8 11, .int .u8 54, .int .u8 26, .int .u8 40, .int .u8 15, .int .u8 34, .int .u8 20, .int .u8 31, .int .u8 10, .int .u8 25, .int .u8 14, .int .u8 19, .int .u8 9, .int .u8 13, .int .u8 8, .int .u8 7, .int .u8 6]) 0 [105, 110, 118, 97, 108, 105, 100, 32, 115, 121, 110, 116, 97, 120]) 1 [118, 97, 108, 117, 101, 32, 111, 117, 116, 32, 111, 102, 32, 114, 97, 110, 103, 101]

theorem errRow : ∀ u, (Tryd.prog).typeName? 3 u = some "*errors.errorString" → u = 119 :=
  typeName_ptr_named (nm := "errors.errorString") (tp := 119) (by kernel_rfl) (by kernel_rfl) (by decide)

theorem pow10_laid : (Rows.laid_internal_strconv_uint64pow10 : DataW Unit) = Lib.tabData .u64 Lib.pow10Tab := by kernel_rfl

theorem glb_laid {W : World} (h : laidMet Tryd.prog Rows.wireTurnsUptoRow.laid W) : glb.V W := by
  have h3 : laidMet Tryd.prog (("internal/strconv.uint64pow10", Rows.laid_internal_strconv_uint64pow10) :: _) W := h.tail.tail
  have h5 := h3.tail.tail
  have h6 := h5.tail
  refine ⟨?_, ?_, ?_⟩
  · rw [pow10_laid] at h3
    exact Lib.tabIs_of_head (g := 3) powers (by kernel_rfl) Tryd.underlying113 Tryd.underlying100 (by kernel_rfl) (by kernel_rfl) h3
  · obtain ⟨a, s, hv, _⟩ := laid_sentinel (g := 0) h6 (by kernel_rfl) (by kernel_rfl) Tryd.underlying59 errRow Tryd.underlying119 Tryd.underlying121 rfl rfl Tryd.underlying9 (by kernel_rfl) (by kernel_rfl)
    exact ⟨_, by have := World.var?_cell (g := 0) (by kernel_rfl) hv 0; simpa using this, .inr ⟨_, _, rfl⟩⟩
  · obtain ⟨a, s, hv, _⟩ := laid_sentinel (g := 1) h5 (by kernel_rfl) (by kernel_rfl) Tryd.underlying59 errRow Tryd.underlying119 Tryd.underlying121 rfl rfl Tryd.underlying9 (by kernel_rfl) (by kernel_rfl)
    exact ⟨_, by have := World.var?_cell (g := 1) (by kernel_rfl) hv 0; simpa using this, .inr ⟨_, _, rfl⟩⟩

theorem gok_laid {W : World} (h : laidMet Tryd.prog Rows.wireTurnsUptoRow.laid W) : GOK (fun _ => none) W := by
  have hV := glb_laid h
  have hcell : ∀ b, errLike W b → b < W.heap.size := fun b ⟨ev, h1, _⟩ => by
    unfold World.cell? at h1
    split at h1
    · rename_i hb; exact (Array.getElem?_eq_some_iff.1 hb).1
    · cases h1
  have h3 : 3 < W.heap.size := by
    have h1 := hV.1
    unfold Lib.TabIs World.var? at h1
    rw [powers] at h1
    simp only [Option.bind_some] at h1
    split at h1
    · rename_i hb; exact (Array.getElem?_eq_some_iff.1 hb).1
    · cases h1
  exact ⟨fun b hb => ⟨Nat.lt_of_le_of_lt (Nat.le_of_lt_succ hb) h3, fun ⟨i, hi⟩ => nomatch hi⟩, hV⟩

theorem recFit_of {r : Rec} (h : r.Ok) (hs : r.sz ≤ 1048576) : RecFit r := by
  unfold Rec.sz Act.sz at hs
  exact ⟨h, by omega, by omega, by omega⟩
theorem recs_len {l : List Rec} (h : szL Rec.sz l ≤ 1048576) : l.length ≤ 524288 := by
  have h2 : ∀ l : List Rec, 2 * l.length ≤ szL Rec.sz l := fun l => by
    induction l with
    | nil => simp [szL]
    | cons x l ih => simp only [szL, List.length_cons]; have : 2 ≤ x.sz := by unfold Rec.sz Act.sz; omega
                     omega
  have := h2 l
  omega
theorem recs_fit {l : List Rec} (hl : ∀ r, r ∈ l → r.Ok) (h : szL Rec.sz l ≤ 1048576) : ∀ r, r ∈ l → RecFit r := fun r hr => recFit_of (hl r hr) (by have := szL_mem (sz := Rec.sz) hr; omega)

theorem print_short (r : Rec) (hr : r.Ok) : (printR r).1.length ≤ 2 * r.sz + 150 := by
  unfold printR
  split
  · simp
  · rename_i hk
    split
    · have hwl : (wordK r.act.kind).length ≤ 6 := by rcases kind_cases hk with h | h | h | h | h <;> rw [h] <;> decide
      have li := Lib.itoa_length_le r.id hr.id.1 hr.id.2
      have lv := Lib.itoa_length_le r.version hr.version.1 hr.version.2
      have lf := Lib.itoa_length_le r.act.fid hr.act.fid.1 hr.act.fid.2
      have ld := Lib.itoa_length_le r.act.dir hr.act.dir.1 hr.act.dir.2
      have lt := Lib.itoa_length_le r.act.to hr.act.to.1 hr.act.to.2
      have lh := hexR_len r.act.data
      have hj := join_len 32 (fieldsL r)
      have hf : Lib.lens (fieldsL r) + (fieldsL r).length ≤ 2 * r.sz + 150 := by
        unfold fieldsL Rec.sz Act.sz
        by_cases h3 : r.act.kind = 3
        · simp [h3, Lib.lens]
          rw [h3] at hwl
          omega
        · by_cases h5 : r.act.kind = 5
          · simp [h5, Lib.lens]
            rw [h5] at hwl
            omega
          · simp [h3, h5, Lib.lens]
            omega
      show (Lib.join (fieldsL r) [32]).length ≤ _
      omega
    · simp

theorem text_short : ∀ l : List Rec, (∀ r, r ∈ l → r.Ok) → (textR l).1.length ≤ 2 * szL Rec.sz l + 151 * l.length
  | [], _ => by simp [textR]
  | r :: l, h => by
    have h1 := print_short r (h r (by simp))
    have h2 := text_short l (fun x hx => h x (List.mem_cons_of_mem _ hx))
    simp only [textR, szL, List.length_cons]
    split
    · simp
    · split
      · simp
      · simp only [List.length_append, List.length_cons]; omega

theorem text_parts : ∀ l : List Rec, (∀ r, r ∈ l → r.Ok ∧ r.sz ≤ 1048576) → ∀ p, p ∈ cutL 10 (textR l).1 → p.length ≤ 10000000
  | [], _, p, hp => by simp [textR, cutL] at hp; subst hp; simp
  | r :: l, h, p, hp => by
    have h1 := print_short r (h r (by simp)).1
    have hz := (h r (by simp)).2
    by_cases e1 : (printR r).2 = 0
    · by_cases e2 : (textR l).2 = 0
      · have ht : (textR (r :: l)).1 = (printR r).1 ++ 10 :: (textR l).1 := by simp [textR, e1, e2]
        rw [ht, cut_app 10 _ _ (line_free (r := r) (by rw [← e1]))] at hp
        rcases List.mem_cons.1 hp with rfl | hp
        · omega
        · exact text_parts l (fun x hx => h x (List.mem_cons_of_mem _ hx)) p hp
      · have ht : (textR (r :: l)).1 = [] := by simp [textR, e1, e2]
        rw [ht] at hp
        simp [cutL] at hp; subst hp; simp
    · have ht : (textR (r :: l)).1 = [] := by simp [textR, e1]
      rw [ht] at hp
      simp [cutL] at hp; subst hp; simp
end La

namespace Go.Eng
section
variable {P : Program} {T : Tab} {C : Ctx} {σ σ' : St} {μ : Nat → Option Nat} {S : Nat → Prop} {a : Act} {w : World} {Ret : St → Prop} {k : List It}

theorem Rd.inv_ifc {v : Value} (h : Rd μ S w v .ifc) : ∃ t p, v = .iface t p := by cases h with | pure h => cases h; exact ⟨_, _, rfl⟩

/-- AN INTERFACE VALUE IS COMPARED WITH nil. -/
theorem trip_nilI {o : Oper} {op : BinOp} {t ty : TypeId} {x : Operand} (ho : o.op = .binOp op t x (.const .nilIface) ty) (hu : P.underlying t = some (.interface (P.methodsAt t))) {X : AV} (hx : evS σ x = (True, X))
    {r : Bool} (hr : (X = .nili ∧ r = true) ∨ (X = .ifc ∧ r = false)) {q : Bool} (hop : (op = .eql ∧ q = r) ∨ (op = .neq ∧ q = !r)) : Trip P C o σ (σ.put o.dst (.bool q)) := by
  refine trip_value fun μ S a w hi => ?_
  have hv := hi.evS x (by rw [hx]; trivial)
  rw [hx] at hv
  refine ⟨.bool q, ?_, .pure (.bool _)⟩
  have hc : a.eval (.const .nilIface) = .nilIface := rfl
  simp only [execOp, ho, hc]
  rcases hr with ⟨rfl, rfl⟩ | ⟨rfl, rfl⟩
  · have e := hv.inv_nili
    rw [e]
    rcases hop with ⟨rfl, rfl⟩ | ⟨rfl, rfl⟩
    · simp [eqGuard, run_eql_nil_nil w t hu]
    · simp [eqGuard, run_neq_nil_nil w t hu]
  · obtain ⟨tt, p, e⟩ := hv.inv_ifc
    rw [e]
    rcases hop with ⟨rfl, rfl⟩ | ⟨rfl, rfl⟩
    · simp [eqGuard, run_eql_held_nil w t tt p hu]
    · simp [eqGuard, run_neq_held_nil w t tt p hu]
end
end Go.Eng

namespace La
open Go Go.Eng Go.Proofs Go.RowKit
set_option maxRecDepth 100000
set_option linter.unusedSimpArgs false
set_option linter.unusedVariables false

def errA (s : List UInt8) : AV := match Lib.atoiAll s with | .ok _ => .nili | _ => .ifc

theorem errA_true {s : List UInt8} (h : numB s = true) : errA s = .nili := by
  unfold numB at h
  unfold errA
  rcases e : Lib.atoiAll s with v | _ | _ <;> rw [e] at h <;> first | rfl | cases h

theorem errA_cases {s : List UInt8} : (errA s = .nili ∧ numB s = (Lib.itoa (numV s) == s)) ∨ (errA s = .ifc ∧ numB s = false) := by
  unfold errA numB numV
  rcases e : Lib.atoiAll s with v | _ | _
  · exact .inl ⟨rfl, rfl⟩
  · exact .inr ⟨rfl, rfl⟩
  · exact .inr ⟨rfl, rfl⟩

theorem fn_two {μ : Nat → Option Nat} {R0 : Nat → Prop} {w0 w' : World} {x y : Value} {X Y : AV} {H : List (Nat × Blk)} (hH : HpOK μ R0 w0 H) (hx : RdP R0 w' x X) (hy : RdP R0 w' y Y) (hw : Below w0.heap.size w0 w') (hR : ∀ b, R0 b → b < w0.heap.size) :
    ∃ v' r H' μ' S'', Ending.returned (Value.tuple #[x, y]) = .returned v' ∧ r = AV.tup [X, Y] ∧ Rd μ' S'' w' v' r ∧ HpOK μ' S'' w' H' ∧ Frm (fun g => ∃ id, μ id = some g) w0 w' ∧
      (∀ id g, μ' id = some g → (∃ id', μ id' = some g) ∨ w0.heap.size ≤ g) ∧ (∀ b, S'' b → b < w'.heap.size ∧ (R0 b ∨ (∃ id, μ id = some b) ∨ w0.heap.size ≤ b)) := by
  refine ⟨_, _, [], fun _ => none, R0, rfl, rfl, .tup _ _ rfl (fun j z hz => ?_), ⟨fun id b h => by simp [hget] at h, fun id g h => (by cases h), fun id id' g h => (by cases h), (hH.glob.frm (frm_below hw) (fun id g h => .inl ⟨id, h⟩)).nil⟩, frm_below hw, fun id g h => (by cases h),
    fun b hb => ⟨Nat.lt_of_lt_of_le (hR b hb) hw.size, .inl hb⟩⟩
  match j, hz with
  | 0, hz => simp only [List.getElem?_cons_zero, Option.some.injEq] at hz; subst hz; exact .pure hx
  | 1, hz => simp only [List.getElem?_cons_zero, List.getElem?_cons_succ, Option.some.injEq] at hz; subst hz; exact .pure hy
  | j + 2, hz => simp at hz

theorem atoi_ok (s : List UInt8) (hs : s.length ≤ 100000000) : FnOK Tryd.prog 38 [.str s] [] (fun r _ => r = .tup [.int .i64 (numV s), errA s]) := by
  intro R0 μ w0 vs hl ha hH hR
  match vs, hl with
  | [v0], _ =>
  obtain ⟨b, h0, hb⟩ := (ha 0 _ rfl).inv_str
  simp only [List.getD_cons_zero] at h0
  subst h0 hb
  have hbs : b.size ≤ 100000000 := by rw [Lib.size_eq]; exact hs
  have hG := hH.glob.2
  rcases h : Lib.atoiAll b.data.toList with v | _ | _
  · have e1 : numV b.data.toList = v := by unfold numV; rw [h]
    have e2 : errA b.data.toList = .nili := by unfold errA; rw [h]
    rw [e1, e2]
    refine (Tryd.strconv_Atoi_ok b (by omega) v h w0).mono fun e w' ⟨he, hW⟩ => ?_
    have hb1 : Below w0.heap.size w0 w' := by
      rcases hW with rfl | ⟨t, rfl⟩
      · exact Below.refl _ _
      · exact Lib.bytesWorld_below _ _ _
    rw [he]
    exact fn_two hH (.int _ _) .nili hb1 hR
  · have e1 : numV b.data.toList = 0 := by unfold numV; rw [h]
    have e2 : errA b.data.toList = .ifc := by unfold errA; rw [h]
    rw [e1, e2]
    obtain ⟨ev, k1, k2⟩ := hG.2.1
    refine (Any.strconv_Atoi_syntax Tryd.laysC172 b (by omega) h ev _ k1 k2).mono fun e w' ⟨n, he, h1, h2, hb1⟩ => ?_
    rw [he]
    exact fn_two hH (.int _ _) (.ifc _ _) hb1 hR
  · have e1 : numV b.data.toList = Lib.atoiSat b.data.toList := by unfold numV; rw [h]
    have e2 : errA b.data.toList = .ifc := by unfold errA; rw [h]
    rw [e1, e2]
    obtain ⟨ev, k1, k2⟩ := hG.2.2
    refine (Tryd.strconv_Atoi_range b (by omega) h ev _ k1 k2).mono fun e w' ⟨n, he, h1, h2, hb1⟩ => ?_
    rw [he]
    exact fn_two hH (.int _ _) (.ifc _ _) hb1 hR

theorem rkinds_ok : FnOK Tryd.prog 31 [] [] (fun r _ => r = .sl (La.words.map strRow)) := by
  refine fn_of_cwW tabOK (Go.Proofs.Tryd.func31) rfl (fun C => ?_)
  simp only [Go.Proofs.Tryd.ntmps31, Go.Proofs.Tryd.results31, go_sem]
  refine cw_go tabOK 99 (by simp only [go_sem]; try exact rfl) (by simp [go_sem]) ?_
  refine cw_freeze 1 rfl (by rfl) ?_
  refine cw_ret ⟨_, _, (by simp only [go_sem]; try exact rfl), by simp [go_sem], _, .inr (.inl rfl), ?_⟩
  rfl

theorem rblank_ok (n : Int) (h0 : -9223372036854775808 ≤ n) (h1 : n ≤ 9223372036854775807) : FnOK Tryd.prog 30 [.int .i64 n] [] (fun r _ => r = .str (32 :: Lib.itoa n)) := by
  refine fn_of_cwW tabOK (Go.Proofs.Tryd.func30) rfl (fun C => ?_)
  simp only [Go.Proofs.Tryd.ntmps30, Go.Proofs.Tryd.results30, go_sem]
  refine cw_goR 99 (by simp only [go_sem]; try exact rfl) ?_
  refine cw_runN tabOK 1 (by simp only [go_sem]; exact rfl) (by simp only [go_sem]; exact rfl) (by simp only [go_sem]; try exact rfl) (by simp [go_sem]) ?_
  refine cw_goR 99 (by simp only [go_sem]; try exact rfl) ?_
  refine cw_runN tabOK 1 (by simp only [go_sem]; exact rfl) (by simp only [go_sem]; exact rfl) (by simp only [go_sem]; try exact rfl) (by simp [go_sem]) ?_
  refine cw_call rfl rfl (by simp only [go_sem]; try exact rfl) (by simp [go_sem]) ⟨_, Go.Proofs.Tryd.func28, by kernel_rfl, rfl⟩ (by simp [go_sem]) (itoa_ok n h0 h1) (by simp [go_sem]) (by simp only [go_sem]; exact rfl) ?_
  have hl := Lib.itoa_length_le n h0 h1
  refine cw_go tabOK 99 (by simp only [go_sem]; try exact rfl) ?_ ?_
  · simp
    omega
  refine cw_ret ⟨_, _, (by simp only [go_sem]; try exact rfl), by simp [go_sem], _, .inr (.inl rfl), ?_⟩
  rfl

theorem nib_digits (c : UInt8) : (∀ j, j < 16 → digits.getD j 0 ≠ c) → nib c = -1 := by
  have : ∀ n : Fin 256, (∀ j : Fin 16, digits.getD j.val 0 ≠ UInt8.ofNat n.val) → nib (UInt8.ofNat n.val) = -1 := by decide +kernel
  intro h
  have := this ⟨c.toNat, c.toNat_lt⟩
  simp only [UInt8.ofNat_toNat] at this
  exact this fun j => h j.val j.isLt

theorem digit_ok (c : UInt8) : FnOK Tryd.prog 39 [.int .u8 (c.toNat : Int)] [] (fun r _ => r = .int .i64 (nib c)) := by
  refine fn_of_cwW tabOK (Go.Proofs.Tryd.func39) rfl (fun C => ?_)
  simp only [Go.Proofs.Tryd.ntmps39, Go.Proofs.Tryd.results39, go_sem]
  refine cw_go tabOK 99 (by simp only [go_sem]; try exact rfl) (by simp [go_sem]) ?_
  refine cw_loopS (fun i : Nat => i ≤ 16 ∧ ∀ j, j < i → digits.getD j 0 ≠ c) (fun i => 16 - i) (fun i => [(3, .any), (4, .int .i64 i), (5, .any), (6, .any), (7, .any), (8, .any), (9, .any), (10, .any), (11, .any), (12, .any)]) (fun _ => []) 0 ⟨by omega, by omega⟩ ?_ fun i hi => ?_
  · simp only [go_sem]
    exact le_sub (by simp [go_sem]) (by simp [go_sem]) (by simp [go_sem])
  obtain ⟨hi, hs2⟩ := hi
  simp only [go_sem]
  refine cw_go tabOK 99 (by simp only [go_sem]; try exact rfl) (by simp [go_sem]) ?_
  refine cw_cond (by simp only [go_sem]; try exact rfl) trivial (fun h => ?_) (fun h => ?_)
  · have hlt : i < 16 := by simp at h; omega
    have hw : IntKind.i64.wrap ((i : Int) + 1) = ((i + 1 : Nat) : Int) := by rw [Eng.wrap_small (by omega) (by omega)]; rfl
    refine cw_go tabOK 99 (by simp only [go_sem]; try exact rfl) ?_ ?_
    · simp; omega
    refine cw_cond (by simp only [go_sem]; try exact rfl) trivial (fun h => ?_) (fun h => ?_)
    · have e : digits.getD i 0 = c := UInt8.toNat_inj.1 (by have h2 : (((digits.getD i 0).toNat : Nat) : Int) = (c.toNat : Int) := by simpa [digits] using h
                                                            omega)
      refine cw_go tabOK 99 (by simp only [go_sem]; try exact rfl) (by simp [go_sem]) ?_
      refine cw_ret ⟨_, _, (by simp only [go_sem]; try exact rfl), by simp [go_sem], _, .inr (.inl rfl), ?_⟩
      rw [← e]
      exact congrArg (AV.int IntKind.i64) (nib_dig ⟨i, hlt⟩).symm
    · have e : digits.getD i 0 ≠ c := fun e => by
        subst e
        simp [digits] at h
      refine cw_go tabOK 99 (by simp only [go_sem, hw]; try exact rfl) (by simp [go_sem, hw]) ?_
      refine cw_back ⟨i + 1, ⟨by omega, fun j hj => ?_⟩, by omega, le_sub ?_ ?_ ?_⟩
      · rcases Nat.lt_succ_iff_lt_or_eq.1 hj with h1 | rfl
        · exact hs2 j h1
        · exact e
      · simp [go_sem]
      · simp [go_sem]
      · simp [go_sem]
  · have e : i = 16 := by simp at h; omega
    subst e
    refine cw_go tabOK 99 (by simp only [go_sem]; try exact rfl) (by simp [go_sem]) ?_
    refine cw_ret ⟨_, _, (by simp only [go_sem]; try exact rfl), by simp [go_sem], _, .inr (.inl rfl), ?_⟩
    rw [nib_digits c hs2]
end La

namespace La
open Go Go.Eng Go.Proofs
set_option maxRecDepth 10000
set_option linter.unusedSimpArgs false
set_option linter.unusedVariables false

theorem byte_quo (c : UInt8) : IntKind.u8.wrap ((c.toNat : Int).tdiv 16) = ((c.toNat / 16 : Nat) : Int) := by
  have : ∀ n : Fin 256, IntKind.u8.wrap ((n.val : Int).tdiv 16) = ((n.val / 16 : Nat) : Int) := by decide +kernel
  exact this ⟨c.toNat, c.toNat_lt⟩
theorem byte_rem (c : UInt8) : (c.toNat : Int).tmod 16 = ((c.toNat % 16 : Nat) : Int) := by
  have : ∀ n : Fin 256, (n.val : Int).tmod 16 = ((n.val % 16 : Nat) : Int) := by decide +kernel
  exact this ⟨c.toNat, c.toNat_lt⟩

theorem drop_dig {n : Nat} (h : n < 16) : List.drop n (48 :: List.take n [49, 50, 51, 52, 53, 54, 55, 56, 57, 97, 98, 99, 100, 101, 102]) = [dig n] := by
  have : ∀ n : Fin 16, List.drop n.val (48 :: List.take n.val [49, 50, 51, 52, 53, 54, 55, 56, 57, 97, 98, 99, 100, 101, 102]) = [dig n.val] := by decide
  exact this ⟨n, h⟩

set_option maxHeartbeats 1000000 in
theorem rprint_ok (r : Rec) (hr : r.Ok) (hd : r.act.data.length ≤ 5000000) (hn : r.act.name.length ≤ 5000000) (ht : r.act.toName.length ≤ 5000000) :
    FnOK Tryd.prog 16 [.agg (recRow r)] [] (fun x _ => x = printA (printR r)) := by
  obtain ⟨⟨k, f, d, nm, tt, tn, dt⟩, v, id⟩ := r
  obtain ⟨⟨⟨_, _⟩, ⟨f1, f2⟩, ⟨d1, d2⟩, ⟨t1, t2⟩⟩, ⟨v1, v2⟩, ⟨i1, i2⟩⟩ := hr
  simp only at hd hn ht f1 f2 d1 d2 t1 t2 v1 v2 i1 i2
  show FnOK Tryd.prog 16 [.agg [.int .i64 k, .int .i64 f, .int .i64 d, .str nm, .int .i64 tt, .str tn, .sl (dt.map byteRow), .int .i64 v, .int .i64 id]] [] _
  refine fn_of_cwW tabOK (Go.Proofs.Tryd.func16) rfl (fun C => ?_)
  simp only [Go.Proofs.Tryd.ntmps16, Go.Proofs.Tryd.results16, go_sem]
  refine cw_goR 99 (by simp only [go_sem]; try exact rfl) ?_
  refine cw_runN tabOK 3 (by simp only [go_sem]; exact rfl) (by simp only [go_sem]; exact rfl) (by simp only [go_sem]; try exact rfl) (by simp [go_sem]) ?_
  refine cw_goR 99 (by simp only [go_sem]; try exact rfl) ?_
  refine cw_runN tabOK 2 (by simp only [go_sem]; exact rfl) (by simp only [go_sem]; exact rfl) (by simp only [go_sem]; try exact rfl) (by simp [go_sem]) ?_
  have hR : printR ⟨⟨k, f, d, nm, tt, tn, dt⟩, v, id⟩ = if k < 1 ∨ 5 < k then ([], 1) else if k = 3 ∨ nameB nm = true ∧ (k = 5 → nameB tn = true) then (Lib.join (fieldsL ⟨⟨k, f, d, nm, tt, tn, dt⟩, v, id⟩) [32], 0) else ([], 7) := rfl
  rw [hR]
  by_cases hk : k < 1 ∨ 5 < k
  · rw [if_pos hk]
    refine cw_go tabOK 99 (by simp only [go_sem]; try exact rfl) (by simp [go_sem]) ?_
    refine cw_cond (by simp only [go_sem]; try exact rfl) trivial (fun h => ?_) (fun h => ?_)
    · refine cw_go tabOK 99 (by simp only [go_sem]; try exact rfl) (by simp [go_sem]) ?_
      refine cw_ret ⟨_, _, by simp only [go_sem]; try exact rfl, by simp [go_sem], _, .inr (.inl rfl), ?_⟩
      rfl
    · exfalso
      rcases hk with hk | hk
      · simp [hk] at h
      · by_cases h0 : k < 1 <;> simp [h0, hk] at h
  rw [if_neg hk]
  refine cw_go tabOK 99 (by simp only [go_sem]; try exact rfl) (by simp [go_sem]) ?_
  refine cw_cond (by simp only [go_sem]; try exact rfl) trivial (fun h => ?_) (fun h => ?_)
  · exfalso
    by_cases h0 : k < 1
    · exact hk (.inl h0)
    · simp [h0] at h; exact hk (.inr (by omega))
  have hwk : (La.words.map strRow).getD (k - 1).toNat [] = strRow (wordK k) := by
    rcases kind_cases hk with rfl | rfl | rfl | rfl | rfl <;> rfl
  have hks : IntKind.i64.wrap (k - 1) = k - 1 := Eng.wrap_small (by omega) (by omega)
  have hwl : (wordK k).length ≤ 6 := by rcases kind_cases hk with rfl | rfl | rfl | rfl | rfl <;> decide
  have li := Lib.itoa_length_le id i1 i2
  have lv := Lib.itoa_length_le v v1 v2
  have lf := Lib.itoa_length_le f f1 f2
  have ld := Lib.itoa_length_le d d1 d2
  have lt := Lib.itoa_length_le tt t1 t2
  have hk1 : ¬ k < 1 := fun e => hk (.inl e)
  have hk5 : k ≤ 5 := by omega
  by_cases h3 : k = 3
  · have hf : fieldsL ⟨⟨k, f, d, nm, tt, tn, dt⟩, v, id⟩ = [wordK k, Lib.itoa id, Lib.itoa v, Lib.itoa f, hexR dt] := by rw [h3]; rfl
    have hhl := hexR_len dt
    rw [if_pos (.inl h3), hf]
    refine cw_go tabOK 99 (by simp only [go_sem]; try exact rfl) (by simp [go_sem]) ?_
    refine cw_callC rfl (by simp only [go_sem]; try exact rfl) (by simp only [go_sem]; try exact rfl) (by simp [go_sem]) ⟨_, Go.Proofs.Tryd.func12, by kernel_rfl, rfl⟩ (by simp [go_sem]) (fun hb => (rname_ok nm (by omega))) (by simp [go_sem]) (by simp only [go_sem]; exact rfl) ?_
    refine cw_go tabOK 99 (by simp only [go_sem]; try exact rfl) (by simp [go_sem]) ?_
    refine cw_callC rfl (by simp only [go_sem]; try exact rfl) (by simp only [go_sem]; try exact rfl) (by simp [go_sem]) ⟨_, Go.Proofs.Tryd.func12, by kernel_rfl, rfl⟩ (by simp [go_sem]) (fun hb => (rname_ok tn (by omega))) (by simp [go_sem]) (by simp only [go_sem]; exact rfl) ?_
    refine cw_go tabOK 99 (by simp only [go_sem]; try exact rfl) ?_ ?_
    · simp
      exact ⟨fun a b => ⟨⟨a, b⟩, fun c => ⟨⟨a, b⟩, c⟩⟩, fun a => ⟨a, fun b => ⟨a, b⟩⟩⟩
    refine cw_cond (by simp only [go_sem]; try exact rfl) trivial (fun h => ?_) (fun h => ?_)
    · exfalso; simp [h3] at h
    refine cw_go tabOK 99 (by simp only [go_sem]; try exact rfl) (by simp [go_sem]) ?_
    refine cw_draw mixed ?_
    refine seg_start rfl ?_
    refine seg_call rfl rfl (by simp only [go_sem]; try exact rfl) (by simp [go_sem]) ⟨_, Go.Proofs.Tryd.func31, by kernel_rfl, rfl⟩ (by simp [go_sem]) (rkinds_ok) (by simp [go_sem]) (by simp only [go_sem]; exact rfl) (by simp only [go_sem]; exact rfl) ?_
    refine seg_runN tabOK 3 (by simp only [go_sem]; exact rfl) (by simp only [go_sem]; exact rfl) (by simp only [go_sem, hks]; try exact rfl) (by simp [go_sem, hks]) (by simp only [go_sem]; exact rfl) ?_
    refine seg_runN tabOK 2 (by simp only [go_sem]; exact rfl) (by simp only [go_sem]; exact rfl) (by simp only [go_sem, hwk, strRow]; try exact rfl) ?_ (by simp only [go_sem]; exact rfl) ?_
    · simp [hwk, strRow, La.words]; omega
    refine seg_runN tabOK 3 (by simp only [go_sem]; exact rfl) (by simp only [go_sem]; exact rfl) (by simp only [go_sem]; try exact rfl) (by simp [go_sem]) (by simp only [go_sem]; exact rfl) ?_
    refine seg_call rfl rfl (by simp only [go_sem]; try exact rfl) (by simp [go_sem]) ⟨_, Go.Proofs.Tryd.func30, by kernel_rfl, rfl⟩ (by simp [go_sem]) (rblank_ok id i1 i2) (by simp [go_sem]) (by simp only [go_sem]; exact rfl) (by simp only [go_sem]; exact rfl) ?_
    refine seg_runN tabOK 4 (by simp only [go_sem]; exact rfl) (by simp only [go_sem]; exact rfl) (by simp only [go_sem]; try exact rfl) ?_ (by simp only [go_sem]; exact rfl) ?_
    · simp; omega
    refine seg_call rfl rfl (by simp only [go_sem]; try exact rfl) (by simp [go_sem]) ⟨_, Go.Proofs.Tryd.func30, by kernel_rfl, rfl⟩ (by simp [go_sem]) (rblank_ok v v1 v2) (by simp [go_sem]) (by simp only [go_sem]; exact rfl) (by simp only [go_sem]; exact rfl) ?_
    refine seg_runN tabOK 4 (by simp only [go_sem]; exact rfl) (by simp only [go_sem]; exact rfl) (by simp only [go_sem]; try exact rfl) ?_ (by simp only [go_sem]; exact rfl) ?_
    · simp; omega
    refine seg_call rfl rfl (by simp only [go_sem]; try exact rfl) (by simp [go_sem]) ⟨_, Go.Proofs.Tryd.func30, by kernel_rfl, rfl⟩ (by simp [go_sem]) (rblank_ok f f1 f2) (by simp [go_sem]) (by simp only [go_sem]; exact rfl) (by simp only [go_sem]; exact rfl) ?_
    refine seg_runN tabOK 2 (by simp only [go_sem]; exact rfl) (by simp only [go_sem]; exact rfl) (by simp only [go_sem]; try exact rfl) ?_ (by simp only [go_sem]; exact rfl) ?_
    · simp; omega
    refine seg_end (by kernel_rfl) (by simp only [go_sem]; exact rfl) ?_
    refine draw_close (by kernel_rfl) ?_
    refine cw_go tabOK 99 (by simp only [go_sem]; try exact rfl) (by simp [go_sem]) ?_
    refine cw_cond (by simp only [go_sem]; try exact rfl) trivial (fun h => ?_) (fun h => ?_)
    · refine cw_go tabOK 99 (by simp only [go_sem]; try exact rfl) (by simp [go_sem]) ?_
      refine cw_loopS (fun i : Nat => i ≤ dt.length) (fun i => dt.length - i) (fun i => [(7, .str ((dt.take i).flatMap hexB)), (9, .any), (67, .int .i64 i), (68, .any), (69, .any), (70, .any), (71, .any), (72, .any), (73, .any), (74, .any), (75, .any), (76, .any), (77, .any), (78, .any), (79, .any), (80, .any), (81, .any), (82, .any), (83, .any), (84, .any), (85, .any), (86, .any)]) (fun _ => []) 0 (by omega) ?_ fun i hi => ?_
      · simp only [go_sem]
        exact le_sub (by simp [go_sem]) (by simp [go_sem]) (by simp [go_sem])
      simp only [go_sem]
      refine cw_go tabOK 99 (by simp only [go_sem]; try exact rfl) (by simp [go_sem]) ?_
      refine cw_cond (by simp only [go_sem]; try exact rfl) trivial (fun h => ?_) (fun h => ?_)
      · have hlt : i < dt.length := by simp at h; omega
        have hw : IntKind.i64.wrap ((i : Int) + 1) = ((i + 1 : Nat) : Int) := by rw [Eng.wrap_small (by omega) (by omega)]; rfl
        have hg : (dt.map byteRow).getD i [] = byteRow (dt.getD i default) := Fam.getD hlt
        have htk := take_succ_getD hlt
        have hfl := flat_len (dt.take i)
        rw [List.length_take, Nat.min_eq_left hi] at hfl
        generalize dt.getD i default = c at hg htk
        refine cw_go tabOK 99 (by simp only [go_sem, hg, byteRow]; try exact rfl) ?_ ?_
        · simp [hg, byteRow, hlt]
        have hc := c.toNat_lt
        have hq := byte_quo c
        have hm := byte_rem c
        have hq1 : IntKind.u8.wrap (((c.toNat / 16 : Nat) : Int) + 1) = ((c.toNat / 16 + 1 : Nat) : Int) := by rw [wrap8 (by omega) (by omega)]; rfl
        have hm1 : IntKind.u8.wrap (((c.toNat % 16 : Nat) : Int) + 1) = ((c.toNat % 16 + 1 : Nat) : Int) := by rw [wrap8 (by omega) (by omega)]; rfl
        have hd1 := drop_dig (show c.toNat / 16 < 16 by omega)
        have hd2 := drop_dig (show c.toNat % 16 < 16 by omega)
        refine cw_drawn tabOK mixed (by simp only [go_sem, hq, hm, hq1, hm1, hd1, hd2]; try exact rfl) ?_ (by simp only [go_sem, hq, hm, hq1, hm1, hd1, hd2]; exact rfl) (by kernel_rfl) ?_
        · simp [hfl]
          omega
        refine cw_go tabOK 99 (by simp only [go_sem, hw]; try exact rfl) (by simp [go_sem, hw]) ?_
        refine cw_back ⟨i + 1, by omega, by omega, le_sub ?_ ?_ ?_⟩
        · simp [go_sem, htk, hexB]
        · simp [go_sem]
        · simp [go_sem]
      · have e : i = dt.length := by simp at h; omega
        subst e
        rw [List.take_length]
        have hfl := flat_len dt
        have hx : hexR dt = if dt.flatMap hexB == [] then [45] else dt.flatMap hexB := by
          unfold hexR
          cases dt with
          | nil => rfl
          | cons c dt => simp [hexB]
        rw [hx]
        generalize dt.flatMap hexB = X at hfl
        refine cw_go tabOK 99 (by simp only [go_sem]; try exact rfl) (by simp [go_sem]) ?_
        refine cw_cond (by simp only [go_sem]; try exact rfl) trivial (fun h => ?_) (fun h => ?_)
        · rw [if_pos h]
          refine cw_go tabOK 99 (by simp only [go_sem]; try exact rfl) ?_ ?_
          · simp; omega
          refine cw_ret ⟨_, _, by simp only [go_sem]; try exact rfl, by simp [go_sem], _, .inr (.inl rfl), ?_⟩
          simp [printA, join_two, Lib.join_one]
        · rw [if_neg (by simp [h])]
          refine cw_go tabOK 99 (by simp only [go_sem]; try exact rfl) ?_ ?_
          · simp; omega
          refine cw_ret ⟨_, _, by simp only [go_sem]; try exact rfl, by simp [go_sem], _, .inr (.inl rfl), ?_⟩
          simp [printA, join_two, Lib.join_one]
    · exfalso; simp [h3] at h
  refine cw_go tabOK 99 (by simp only [go_sem]; try exact rfl) (by simp [go_sem]) ?_
  refine cw_callC rfl (by simp only [go_sem]; try exact rfl) (by simp only [go_sem]; try exact rfl) (by simp [go_sem]) ⟨_, Go.Proofs.Tryd.func12, by kernel_rfl, rfl⟩ (by simp [go_sem]) (fun hb => (rname_ok nm (by omega))) (by simp [go_sem]) (by simp only [go_sem]; exact rfl) ?_
  refine cw_go tabOK 99 (by simp only [go_sem]; try exact rfl) (by simp [go_sem]) ?_
  refine cw_callC rfl (by simp only [go_sem]; try exact rfl) (by simp only [go_sem]; try exact rfl) (by simp [go_sem]) ⟨_, Go.Proofs.Tryd.func12, by kernel_rfl, rfl⟩ (by simp [go_sem]) (fun hb => (rname_ok tn (by omega))) (by simp [go_sem]) (by simp only [go_sem]; exact rfl) ?_
  refine cw_go tabOK 99 (by simp only [go_sem]; try exact rfl) ?_ ?_
  · simp
    exact ⟨fun a b => ⟨⟨a, b⟩, fun c => ⟨⟨a, b⟩, c⟩⟩, fun a => ⟨a, fun b => ⟨a, b⟩⟩⟩
  refine cw_cond (by simp only [go_sem]; try exact rfl) trivial (fun h => ?_) (fun h => ?_)
  · have hbad : ¬ (k = 3 ∨ nameB nm = true ∧ (k = 5 → nameB tn = true)) := by
      rintro (e | ⟨e, e2⟩)
      · exact h3 e
      · by_cases h5 : k = 5
        · simp [h5, e, e2 h5] at h
        · simp [h5, e] at h
    rw [if_neg hbad]
    refine cw_go tabOK 99 (by simp only [go_sem]; try exact rfl) (by simp [go_sem]) ?_
    refine cw_ret ⟨_, _, by simp only [go_sem]; try exact rfl, by simp [go_sem], _, .inr (.inl rfl), ?_⟩
    rfl
  have hgood : nameB nm = true ∧ (k = 5 → nameB tn = true) := by
    cases e : nameB nm with
    | false => exfalso; simp [h3, e] at h
    | true => exact ⟨rfl, fun h5 => by cases e2 : nameB tn with
                                       | false => exfalso; simp [h5, e, e2] at h
                                       | true => rfl⟩
  rw [if_pos (.inr hgood)]
  refine cw_go tabOK 99 (by simp only [go_sem]; try exact rfl) (by simp [go_sem]) ?_
  refine cw_draw mixed ?_
  refine seg_start rfl ?_
  refine seg_call rfl rfl (by simp only [go_sem]; try exact rfl) (by simp [go_sem]) ⟨_, Go.Proofs.Tryd.func31, by kernel_rfl, rfl⟩ (by simp [go_sem]) (rkinds_ok) (by simp [go_sem]) (by simp only [go_sem]; exact rfl) (by simp only [go_sem]; exact rfl) ?_
  refine seg_runN tabOK 3 (by simp only [go_sem]; exact rfl) (by simp only [go_sem]; exact rfl) (by simp only [go_sem, hks]; try exact rfl) (by simp [go_sem, hks]) (by simp only [go_sem]; exact rfl) ?_
  refine seg_runN tabOK 2 (by simp only [go_sem]; exact rfl) (by simp only [go_sem]; exact rfl) (by simp only [go_sem, hwk, strRow]; try exact rfl) ?_ (by simp only [go_sem]; exact rfl) ?_
  · simp [hwk, strRow, La.words]; omega
  refine seg_runN tabOK 3 (by simp only [go_sem]; exact rfl) (by simp only [go_sem]; exact rfl) (by simp only [go_sem]; try exact rfl) (by simp [go_sem]) (by simp only [go_sem]; exact rfl) ?_
  refine seg_call rfl rfl (by simp only [go_sem]; try exact rfl) (by simp [go_sem]) ⟨_, Go.Proofs.Tryd.func30, by kernel_rfl, rfl⟩ (by simp [go_sem]) (rblank_ok id i1 i2) (by simp [go_sem]) (by simp only [go_sem]; exact rfl) (by simp only [go_sem]; exact rfl) ?_
  refine seg_runN tabOK 4 (by simp only [go_sem]; exact rfl) (by simp only [go_sem]; exact rfl) (by simp only [go_sem]; try exact rfl) ?_ (by simp only [go_sem]; exact rfl) ?_
  · simp; omega
  refine seg_call rfl rfl (by simp only [go_sem]; try exact rfl) (by simp [go_sem]) ⟨_, Go.Proofs.Tryd.func30, by kernel_rfl, rfl⟩ (by simp [go_sem]) (rblank_ok v v1 v2) (by simp [go_sem]) (by simp only [go_sem]; exact rfl) (by simp only [go_sem]; exact rfl) ?_
  refine seg_runN tabOK 4 (by simp only [go_sem]; exact rfl) (by simp only [go_sem]; exact rfl) (by simp only [go_sem]; try exact rfl) ?_ (by simp only [go_sem]; exact rfl) ?_
  · simp; omega
  refine seg_call rfl rfl (by simp only [go_sem]; try exact rfl) (by simp [go_sem]) ⟨_, Go.Proofs.Tryd.func30, by kernel_rfl, rfl⟩ (by simp [go_sem]) (rblank_ok f f1 f2) (by simp [go_sem]) (by simp only [go_sem]; exact rfl) (by simp only [go_sem]; exact rfl) ?_
  refine seg_runN tabOK 2 (by simp only [go_sem]; exact rfl) (by simp only [go_sem]; exact rfl) (by simp only [go_sem]; try exact rfl) ?_ (by simp only [go_sem]; exact rfl) ?_
  · simp; omega
  refine seg_end (by kernel_rfl) (by simp only [go_sem]; exact rfl) ?_
  refine draw_close (by kernel_rfl) ?_
  refine cw_go tabOK 99 (by simp only [go_sem]; try exact rfl) (by simp [go_sem]) ?_
  refine cw_cond (by simp only [go_sem]; try exact rfl) trivial (fun h => ?_) (fun h => ?_)
  · exfalso; simp [h3] at h
  refine cw_go tabOK 99 (by simp only [go_sem]; try exact rfl) (by simp [go_sem]) ?_
  refine cw_draw mixed ?_
  refine seg_start rfl ?_
  refine seg_runN tabOK 4 (by simp only [go_sem]; exact rfl) (by simp only [go_sem]; exact rfl) (by simp only [go_sem]; try exact rfl) (by simp [go_sem]) (by simp only [go_sem]; exact rfl) ?_
  refine seg_call rfl rfl (by simp only [go_sem]; try exact rfl) (by simp [go_sem]) ⟨_, Go.Proofs.Tryd.func30, by kernel_rfl, rfl⟩ (by simp [go_sem]) (rblank_ok d d1 d2) (by simp [go_sem]) (by simp only [go_sem]; exact rfl) (by simp only [go_sem]; exact rfl) ?_
  refine seg_runN tabOK 6 (by simp only [go_sem]; exact rfl) (by simp only [go_sem]; exact rfl) (by simp only [go_sem]; try exact rfl) ?_ (by simp only [go_sem]; exact rfl) ?_
  · simp; omega
  refine seg_end (by kernel_rfl) (by simp only [go_sem]; exact rfl) ?_
  refine draw_close (by kernel_rfl) ?_
  refine cw_go tabOK 99 (by simp only [go_sem]; try exact rfl) (by simp [go_sem]) ?_
  by_cases h5 : k = 5
  · have hf : fieldsL ⟨⟨k, f, d, nm, tt, tn, dt⟩, v, id⟩ = [wordK k, Lib.itoa id, Lib.itoa v, Lib.itoa f, Lib.itoa d, nm, Lib.itoa tt, tn] := by simp [fieldsL, h5]
    rw [hf]
    refine cw_cond (by simp only [go_sem]; try exact rfl) trivial (fun h => ?_) (fun h => ?_)
    · refine cw_go tabOK 99 (by simp only [go_sem]; try exact rfl) (by simp [go_sem]) ?_
      refine cw_draw mixed ?_
      refine seg_start rfl ?_
      refine seg_runN tabOK 4 (by simp only [go_sem]; exact rfl) (by simp only [go_sem]; exact rfl) (by simp only [go_sem]; try exact rfl) (by simp [go_sem]) (by simp only [go_sem]; exact rfl) ?_
      refine seg_call rfl rfl (by simp only [go_sem]; try exact rfl) (by simp [go_sem]) ⟨_, Go.Proofs.Tryd.func30, by kernel_rfl, rfl⟩ (by simp [go_sem]) (rblank_ok tt t1 t2) (by simp [go_sem]) (by simp only [go_sem]; exact rfl) (by simp only [go_sem]; exact rfl) ?_
      refine seg_runN tabOK 6 (by simp only [go_sem]; exact rfl) (by simp only [go_sem]; exact rfl) (by simp only [go_sem]; try exact rfl) ?_ (by simp only [go_sem]; exact rfl) ?_
      · simp; omega
      refine seg_end (by kernel_rfl) (by simp only [go_sem]; exact rfl) ?_
      refine draw_close (by kernel_rfl) ?_
      refine cw_go tabOK 99 (by simp only [go_sem]; try exact rfl) (by simp [go_sem]) ?_
      refine cw_ret ⟨_, _, by simp only [go_sem]; try exact rfl, by simp [go_sem], _, .inr (.inl rfl), ?_⟩
      simp [printA, join_two, Lib.join_one]
    · exfalso; simp [h5] at h
  · have hf : fieldsL ⟨⟨k, f, d, nm, tt, tn, dt⟩, v, id⟩ = [wordK k, Lib.itoa id, Lib.itoa v, Lib.itoa f, Lib.itoa d, nm] := by simp [fieldsL, h3, h5]
    rw [hf]
    refine cw_cond (by simp only [go_sem]; try exact rfl) trivial (fun h => ?_) (fun h => ?_)
    · exfalso; simp [h5] at h
    · refine cw_go tabOK 99 (by simp only [go_sem]; try exact rfl) (by simp [go_sem]) ?_
      refine cw_ret ⟨_, _, by simp only [go_sem]; try exact rfl, by simp [go_sem], _, .inr (.inl rfl), ?_⟩
      simp [printA, join_two, Lib.join_one]
end La
