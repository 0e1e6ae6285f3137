/- Texts of this claim, part 2: EngM, EngO, EngP, EngR, EngT, EngU, EngV, EngW, EngZ, EngS, EngAA, EngAB, Tab, Mod, EngQ, Bas, PTree, Cmp, Own. No condition. -/
import Derived.WalkSpells
import Derived.Lib.Overlaps
import Derived.Test.YtldpfleilffanaaProg
import Derived.KernelRfl
import Derived.ReadAgain
import Derived.ChangeSame
import Derived.ChangeBears
import Derived.OpenShut
import Derived.RowKit
import Derived.WalkKit
import Derived.ProofKit
import Derived.Test.YtldpfleilffanaaRows
import Derived.JoinedCond
import Derived.Test.YtldpfleilffanaaXCT1
namespace Go.Eng
section
variable {P : Program} {T : Tab} {C : Ctx} {σ σ' : St}

inductive Loc where
  | tm (t : Nat)
  | blk (id : Nat)
  deriving DecidableEq

/-- what one operation does: it reads 'rd' alone, and adds a value and blocks -/
structure Sp where
  dst : Option Tmp
  val : AV
  new : List (Nat × Blk)
  rd : List Loc

def Sp.app (p : Sp) (σ : St) : St := St.put ⟨σ.tm, p.new ++ σ.hp⟩ p.dst p.val

def Sp.wr (p : Sp) : List Loc := (match p.dst with | some t => [Loc.tm t] | none => []) ++ p.new.map fun b => Loc.blk b.1

def AgreeAt (σ s : St) : Loc → Prop
  | .tm t => s.tm.getD t .any = σ.tm.getD t .any
  | .blk id => hget s.hp id = hget σ.hp id

/-- an operation, behind its guard -/
def TripG (P : Program) (C : Ctx) (ops : Array Oper) (o : Oper) (σ σ' : St) : Prop :=
  ∀ a w (K : Act → World → Prop) (Q : Exit → Act → World → Prop), Rel C σ a w → (∀ a' w', Rel C σ' a' w' → K a' w') →
    if Region.wanted o (yielded ops a.tmps) then o.wp P a w K Q ∨ (o.asks P a w ∧ LetsOut Q) else K (a.put o.dst undef) w

def Rob (P : Program) (C : Ctx) (ops : Array Oper) (o : Oper) (p : Sp) (σ : St) : Prop :=
  ∀ s, (∀ x, x ∈ p.rd → AgreeAt σ s x) → (∀ b, b ∈ p.new → Loc.blk b.1 ∉ p.rd → hget s.hp b.1 = none) → TripG P C ops o s (p.app s)

def RobChain (P : Program) (C : Ctx) (ops : Array Oper) : List Oper → List Sp → St → Prop
  | [], [], _ => True
  | o :: l, p :: ps, σ => Rob P C ops o p σ ∧ RobChain P C ops l ps (p.app σ)
  | _, _, _ => False

def appAll : List Sp → St → St
  | [], σ => σ
  | p :: ps, σ => appAll ps (p.app σ)

/-! ### Values by what has been carried out -/

/-- the last one that was carried out tells -/
def canT (D : Nat → Bool) : Nat → List Sp → Nat → AV → AV
  | _, [], _, d => d
  | i, p :: r, t, d => canT D (i + 1) r t (if D i = true ∧ p.dst = some t then p.val else d)

def canH (D : Nat → Bool) : Nat → List Sp → Nat → Option Blk → Option Blk
  | _, [], _, d => d
  | i, p :: r, id, d => canH D (i + 1) r id (if D i = true ∧ (∃ b, b ∈ p.new ∧ b.1 = id) then hget p.new id else d)

theorem canT_congr {D E : Nat → Bool} {t : Nat} : ∀ (ps : List Sp) (i : Nat) {d : AV}, (∀ j p, ps[j]? = some p → p.dst = some t → D (i + j) = E (i + j)) → canT D i ps t d = canT E i ps t d
  | [], _, _, _ => rfl
  | p :: r, i, d, h => by
    simp only [canT]
    have h0 : (D i = true ∧ p.dst = some t) ↔ (E i = true ∧ p.dst = some t) := by
      constructor <;> rintro ⟨h1, h2⟩
      · exact ⟨(h 0 p rfl h2).symm.trans h1, h2⟩
      · exact ⟨(h 0 p rfl h2).trans h1, h2⟩
    rw [canT_congr (D := D) (E := E) (t := t) r (i + 1) (fun j q hq hd => by
      have := h (j + 1) q (by simpa using hq) hd
      rwa [show i + (j + 1) = i + 1 + j from by omega] at this)]
    congr 1
    by_cases hc : D i = true ∧ p.dst = some t
    · rw [if_pos hc, if_pos (h0.1 hc)]
    · rw [if_neg hc, if_neg (fun h => hc (h0.2 h))]

theorem canH_congr {D E : Nat → Bool} {id : Nat} : ∀ (ps : List Sp) (i : Nat) {d : Option Blk}, (∀ j p, ps[j]? = some p → (∃ b, b ∈ p.new ∧ b.1 = id) → D (i + j) = E (i + j)) → canH D i ps id d = canH E i ps id d
  | [], _, _, _ => rfl
  | p :: r, i, d, h => by
    simp only [canH]
    have h0 : (D i = true ∧ (∃ b, b ∈ p.new ∧ b.1 = id)) ↔ (E i = true ∧ (∃ b, b ∈ p.new ∧ b.1 = id)) := by
      constructor <;> rintro ⟨h1, h2⟩
      · exact ⟨(h 0 p rfl h2).symm.trans h1, h2⟩
      · exact ⟨(h 0 p rfl h2).trans h1, h2⟩
    rw [canH_congr (D := D) (E := E) (id := id) r (i + 1) (fun j q hq hd => by
      have := h (j + 1) q (by simpa using hq) hd
      rwa [show i + (j + 1) = i + 1 + j from by omega] at this)]
    congr 1
    by_cases hc : D i = true ∧ (∃ b, b ∈ p.new ∧ b.1 = id)
    · rw [if_pos hc, if_pos (h0.1 hc)]
    · rw [if_neg hc, if_neg (fun h => hc (h0.2 h))]

theorem canT_none {D : Nat → Bool} {t : Nat} : ∀ (ps : List Sp) (i : Nat) {d : AV}, (∀ j p, ps[j]? = some p → p.dst = some t → D (i + j) = false) → canT D i ps t d = d
  | [], _, _, _ => rfl
  | p :: r, i, d, h => by
    simp only [canT]
    rw [if_neg (fun hc => by have := h 0 p rfl hc.2; rw [Nat.add_zero, hc.1] at this; cases this)]
    exact canT_none r (i + 1) (fun j q hq hd => by
      have := h (j + 1) q (by simpa using hq) hd
      rwa [show i + (j + 1) = i + 1 + j from by omega] at this)
theorem canH_none {D : Nat → Bool} {id : Nat} : ∀ (ps : List Sp) (i : Nat) {d : Option Blk}, (∀ j p, ps[j]? = some p → (∃ b, b ∈ p.new ∧ b.1 = id) → D (i + j) = false) → canH D i ps id d = d
  | [], _, _, _ => rfl
  | p :: r, i, d, h => by
    simp only [canH]
    rw [if_neg (fun hc => by have := h 0 p rfl hc.2; rw [Nat.add_zero, hc.1] at this; cases this)]
    exact canH_none r (i + 1) (fun j q hq hd => by
      have := h (j + 1) q (by simpa using hq) hd
      rwa [show i + (j + 1) = i + 1 + j from by omega] at this)

/-- one more is carried out: none behind it in the text that writes 't' is -/
theorem canT_add {E : Nat → Bool} {t : Nat} {q : Sp} : ∀ (ps : List Sp) (i m : Nat) {d : AV}, ps[m]? = some q → q.dst = some t → E (i + m) = true → (∀ j p, ps[j]? = some p → p.dst = some t → m < j → E (i + j) = false) → canT E i ps t d = q.val
  | [], _, _, _, h, _, _, _ => by simp at h
  | p :: r, i, m, d, h, hd, hE, hu => by
    simp only [canT]
    cases m with
    | zero =>
      simp only [List.getElem?_cons_zero, Option.some.injEq] at h
      subst h
      rw [if_pos ⟨hE, hd⟩]
      exact canT_none r (i + 1) (fun j p' hj hd' => by
        have := hu (j + 1) p' (by simpa using hj) hd' (by omega)
        rwa [show i + (j + 1) = i + 1 + j from by omega] at this)
    | succ m =>
      exact canT_add r (i + 1) m (by simpa using h) hd (by rw [show i + 1 + m = i + (m + 1) from by omega]; exact hE) (fun j p' hj hd' hlt => by
        have := hu (j + 1) p' (by simpa using hj) hd' (by omega)
        rwa [show i + (j + 1) = i + 1 + j from by omega] at this)

theorem canH_add {E : Nat → Bool} {id : Nat} {q : Sp} : ∀ (ps : List Sp) (i m : Nat) {d : Option Blk}, ps[m]? = some q → (∃ b, b ∈ q.new ∧ b.1 = id) → E (i + m) = true → (∀ j p, ps[j]? = some p → (∃ b, b ∈ p.new ∧ b.1 = id) → m < j → E (i + j) = false) → canH E i ps id d = hget q.new id
  | [], _, _, _, h, _, _, _ => by simp at h
  | p :: r, i, m, d, h, hd, hE, hu => by
    simp only [canH]
    cases m with
    | zero =>
      simp only [List.getElem?_cons_zero, Option.some.injEq] at h
      subst h
      rw [if_pos ⟨hE, hd⟩]
      exact canH_none r (i + 1) (fun j p' hj hd' => by
        have := hu (j + 1) p' (by simpa using hj) hd' (by omega)
        rwa [show i + (j + 1) = i + 1 + j from by omega] at this)
    | succ m =>
      exact canH_add r (i + 1) m (by simpa using h) hd (by rw [show i + 1 + m = i + (m + 1) from by omega]; exact hE) (fun j p' hj hd' hlt => by
        have := hu (j + 1) p' (by simpa using hj) hd' (by omega)
        rwa [show i + (j + 1) = i + 1 + j from by omega] at this)

/-- what a state is when those of 'D' have been carried out -/
structure Desc (σ : St) (ps : List Sp) (D : Nat → Bool) (s : St) : Prop where
  len : s.tm.length = σ.tm.length
  tm : ∀ t, s.tm.getD t .any = canT D 0 ps t (σ.tm.getD t .any)
  hp : ∀ id, hget s.hp id = canH D 0 ps id (hget σ.hp id)

theorem hget_append (h k : List (Nat × Blk)) (id : Nat) : hget (h ++ k) id = if (∃ b, b ∈ h ∧ b.1 = id) then hget h id else hget k id := by
  induction h with
  | nil => simp
  | cons p r ih =>
    obtain ⟨i, c⟩ := p
    simp only [List.cons_append, hget]
    by_cases e : i = id
    · subst e
      simp
    · rw [if_neg e, if_neg e, ih]
      by_cases h2 : ∃ b, b ∈ r ∧ b.1 = id
      · rw [if_pos h2]
        obtain ⟨b, h3, h4⟩ := h2
        rw [if_pos ⟨b, List.mem_cons_of_mem _ h3, h4⟩]
      · rw [if_neg h2, if_neg]
        rintro ⟨b, h3, h4⟩
        rcases List.mem_cons.1 h3 with h5 | h5
        · subst h5; exact e h4
        · exact h2 ⟨b, h5, h4⟩

/-- the writes of a segment lie inside the frame -/
structure Apart (ps : List Sp) (n : Nat) : Prop where
  lt : ∀ (i : Nat) (p : Sp) t, ps[i]? = some p → p.dst = some t → t < n

theorem wr_tm {p : Sp} {t : Nat} (h : p.dst = some t) : Loc.tm t ∈ p.wr := by simp [Sp.wr, h]
theorem wr_blk {p : Sp} {id : Nat} (h : ∃ b, b ∈ p.new ∧ b.1 = id) : Loc.blk id ∈ p.wr := by
  obtain ⟨b, hb, rfl⟩ := h
  exact List.mem_append_right _ (List.mem_map.2 ⟨b, hb, rfl⟩)

theorem Desc.add {ps : List Sp} {D : Nat → Bool} {s : St} (h : Desc σ ps D s) (ha : Apart ps σ.tm.length) {m : Nat} {q : Sp} (hq : ps[m]? = some q)
    (hlate : ∀ j p x, ps[j]? = some p → x ∈ p.wr → x ∈ q.wr → m < j → D j = false) : Desc σ ps (fun j => D j || j == m) (q.app s) := by
  refine ⟨?_, fun t => ?_, fun id => ?_⟩
  · unfold Sp.app St.put
    cases q.dst <;> simp [h.len]
  · by_cases hd : q.dst = some t
    · rw [canT_add ps 0 m hq hd (by simp) (fun j p hj hd' hlt => by
        rw [Nat.zero_add, hlate j p _ hj (wr_tm hd') (wr_tm hd) hlt]; simp; omega)]
      have hlt := ha.lt m q t hq hd
      simp only [Sp.app, hd, St.put, List.getD_eq_getElem?_getD]
      rw [List.getElem?_set_self (by rw [h.len]; exact hlt)]
      rfl
    · have : (q.app s).tm.getD t .any = s.tm.getD t .any := by
        unfold Sp.app St.put
        cases e : q.dst with
        | none => rfl
        | some u =>
          simp only [List.getD_eq_getElem?_getD]
          rw [List.getElem?_set_ne (by rintro rfl; exact hd e)]
      rw [this, h.tm t]
      refine canT_congr ps 0 (fun j p hj hd' => ?_)
      have : j ≠ m := by rintro rfl; rw [hq] at hj; injection hj with hj; subst hj; exact hd hd'
      simp [this]
  · have e : hget (q.app s).hp id = hget (q.new ++ s.hp) id := by
      unfold Sp.app; rw [St.put_hp]
    rw [e, hget_append]
    by_cases hd : ∃ b, b ∈ q.new ∧ b.1 = id
    · rw [if_pos hd, canH_add ps 0 m hq hd (by simp) (fun j p hj hd' hlt => by
        rw [Nat.zero_add, hlate j p _ hj (wr_blk hd') (wr_blk hd) hlt]; simp; omega)]
    · rw [if_neg hd, h.hp id]
      refine canH_congr ps 0 (fun j p hj hd' => ?_)
      have : j ≠ m := by rintro rfl; rw [hq] at hj; injection hj with hj; subst hj; exact hd hd'
      simp [this]

theorem Desc.start (σ : St) (ps : List Sp) : Desc σ ps (fun _ => false) σ := by
  exact ⟨rfl, fun t => (canT_none _ _ (fun _ _ _ _ => rfl)).symm, fun id => (canH_none _ _ (fun _ _ _ _ => rfl)).symm⟩

/-- two states of one description read the same -/
theorem rel_same {s s' : St} (hl : s.tm.length = s'.tm.length) (ht : ∀ t, s.tm.getD t .any = s'.tm.getD t .any) (hh : ∀ id, hget s.hp id = hget s'.hp id) : Le C s s' := by
  intro a w ⟨μ, S, hi⟩
  refine ⟨μ, S, by rw [hi.size, hl], hi.defers, fun t x hx => ?_, fun id b hb => hi.hp id b (by rw [hh]; exact hb), fun id g hg => ?_, hi.inj, hi.frm, hi.sb⟩
  · have hlt : t < s'.tm.length := by
      by_cases h : t < s'.tm.length
      · exact h
      · rw [List.getElem?_eq_none (by omega)] at hx; cases hx
    have e := ht t
    rw [List.getD_eq_getElem?_getD, List.getD_eq_getElem?_getD, hx, List.getElem?_eq_getElem (by omega)] at e
    simp only [Option.getD_some] at e
    exact hi.tm t x (by rw [List.getElem?_eq_getElem (by omega), e])
  · obtain ⟨⟨b, h1⟩, h2⟩ := hi.dom id g hg
    exact ⟨⟨b, by rw [← hh]; exact h1⟩, h2⟩

/-- the state behind the first 'i' in the text's order -/
def upto (ps : List Sp) (i : Nat) (σ : St) : St := appAll (ps.take i) σ

theorem upto_succ : ∀ (ps : List Sp) (i : Nat) (σ : St) {p : Sp}, ps[i]? = some p → upto ps (i + 1) σ = p.app (upto ps i σ)
  | [], i, σ, p, h => by simp at h
  | q :: r, 0, σ, p, h => by
    simp only [List.getElem?_cons_zero, Option.some.injEq] at h; subst h
    simp [upto, appAll]
  | q :: r, i + 1, σ, p, h => by
    have := upto_succ r i (q.app σ) (p := p) (by simpa using h)
    simpa [upto, appAll] using this

theorem desc_upto {ps : List Sp} (ha : Apart ps σ.tm.length) : ∀ i, i ≤ ps.length → Desc σ ps (fun j => decide (j < i)) (upto ps i σ)
  | 0, _ => by simpa [upto, appAll] using Desc.start σ ps
  | i + 1, h => by
    have hp : ps[i]? = some ps[i] := List.getElem?_eq_getElem (by omega)
    rw [upto_succ ps i σ hp]
    have := (desc_upto ha i (by omega)).add ha hp (fun j p x _ _ _ hlt => by simp; omega)
    have e : (fun j => decide (j < i) || j == i) = fun j => decide (j < i + 1) := by
      funext j
      rw [Bool.eq_iff_iff]
      simp only [Bool.or_eq_true, decide_eq_true_eq, beq_iff_eq]
      omega
    rwa [e] at this

theorem chain_get {ops : Array Oper} : ∀ (l : List Oper) (ps : List Sp) (σ : St), RobChain P C ops l ps σ → ∀ i o p, l[i]? = some o → ps[i]? = some p → Rob P C ops o p (upto ps i σ)
  | [], [], _, _, i, o, p, h, _ => by simp at h
  | o' :: l, p' :: ps, σ, h, i, o, p, ho, hp => by
    cases i with
    | zero =>
      simp only [List.getElem?_cons_zero, Option.some.injEq] at ho hp
      subst ho hp
      simpa [upto, appAll] using h.1
    | succ i =>
      have := chain_get l ps (p'.app σ) h.2 i o p (by simpa using ho) (by simpa using hp)
      simpa [upto, appAll] using this
  | [], _ :: _, _, h, _, _, _, _, _ => h.elim
  | _ :: _, [], _, h, _, _, _, _, _ => h.elim

/-! ### Orders -/

def preds (ops : Array Oper) (i : Nat) : List Nat :=
  match ops[i]? with
  | some o => (o.after.toList.filter fun e => Region.binds .any e).map (·.on)
  | none => []

/-- 'j' comes behind 'i' in every order -/
def reach (ops : Array Oper) : Nat → Nat → Nat → Bool
  | 0, _, _ => false
  | f + 1, i, j => (preds ops j).any fun e => e == i || reach ops f i e

theorem reach_listed {ops : Array Oper} {listed : Array Bool} (hc : ∀ j, listed.getD j false = true → ∀ e, e ∈ preds ops j → listed.getD e false = true) :
    ∀ (f i j : Nat), reach ops f i j = true → (∀ e, e ∈ preds ops j → listed.getD e false = true) → listed.getD i false = true
  | 0, _, _, h, _ => by cases h
  | f + 1, i, j, h, hj => by
    simp only [reach, List.any_eq_true, Bool.or_eq_true, beq_iff_eq] at h
    obtain ⟨e, he, h1⟩ := h
    rcases h1 with rfl | h1
    · exact hj _ he
    · exact reach_listed hc f i e h1 (hc e (hj e he))

/-- what the check looks at: what is written, what is read -/
abbrev Skel := List (List Loc × List Loc)

def skel (ps : List Sp) : Skel := ps.map fun p => (p.wr, p.rd)

/-- what must come before operation 'j', as bits, out of the rows before it (the last one first) -/
def ancRow (ops : Array Oper) (j : Nat) (t : List Nat) : Nat := (preds ops j).foldl (fun m e => m ||| ((1 <<< e) ||| (if e < j then t.getD (j - 1 - e) 0 else 0))) 0

def ancGo (ops : Array Oper) : Nat → List Nat
  | 0 => []
  | j + 1 => ancRow ops j (ancGo ops j) :: ancGo ops j

def hit (n : Nat) (t : List Nat) (i j : Nat) : Bool := (t.getD (n - 1 - j) 0).testBit i

theorem reach_mono {ops : Array Oper} : ∀ (f g : Nat) {i j : Nat}, f ≤ g → reach ops f i j = true → reach ops g i j = true
  | 0, _, i, j, _, h => by cases h
  | f + 1, 0, i, j, hfg, _ => by omega
  | f + 1, g + 1, i, j, hfg, h => by
    simp only [reach, List.any_eq_true, Bool.or_eq_true, beq_iff_eq] at h ⊢
    obtain ⟨e, he, h1⟩ := h
    refine ⟨e, he, ?_⟩
    rcases h1 with h1 | h1
    · exact .inl h1
    · exact .inr (reach_mono f g (by omega) h1)

theorem anc_fold {F : Nat → Nat} {i : Nat} : ∀ (l : List Nat) (m : Nat), (l.foldl (fun m e => m ||| F e) m).testBit i = true → m.testBit i = true ∨ ∃ e, e ∈ l ∧ (F e).testBit i = true
  | [], m, h => .inl h
  | e :: l, m, h => by
    simp only [List.foldl_cons] at h
    rcases anc_fold l _ h with h | ⟨e', he, h⟩
    · rw [Nat.testBit_or, Bool.or_eq_true] at h
      rcases h with h | h
      · exact .inl h
      · exact .inr ⟨e, by simp, h⟩
    · exact .inr ⟨e', by simp [he], h⟩

theorem bit_one {i e : Nat} (h : (1 <<< e).testBit i = true) : i = e := by
  simp only [Nat.testBit_shiftLeft, Bool.and_eq_true, decide_eq_true_eq] at h
  obtain ⟨h1, h2⟩ := h
  have : i - e = 0 := by
    by_cases h3 : i - e = 0
    · exact h3
    · rw [show i - e = (i - e - 1) + 1 from by omega, Nat.testBit_succ] at h2
      simp at h2
  omega

theorem ancGo_sound (ops : Array Oper) : ∀ (n j i : Nat), j < n → ((ancGo ops n).getD (n - 1 - j) 0).testBit i = true → reach ops (j + 1) i j = true
  | 0, j, i, h, _ => by omega
  | n + 1, j, i, h, hb => by
    by_cases e : j = n
    · subst e
      simp only [ancGo, Nat.add_sub_cancel, Nat.sub_self, List.getD_cons_zero] at hb
      unfold ancRow at hb
      rcases anc_fold _ _ hb with h1 | ⟨e, he, h1⟩
      · simp at h1
      · simp only [reach, List.any_eq_true, Bool.or_eq_true, beq_iff_eq]
        refine ⟨e, he, ?_⟩
        rw [Nat.testBit_or, Bool.or_eq_true] at h1
        rcases h1 with h1 | h1
        · exact .inl (bit_one h1).symm
        · split at h1
          · rename_i hlt
            exact .inr (reach_mono (e + 1) j (by omega) (ancGo_sound ops j e i hlt h1))
          · simp at h1
    · have e1 : n + 1 - 1 - j = (n - 1 - j) + 1 := by omega
      rw [e1] at hb
      simp only [ancGo, List.getD_cons_succ] at hb
      exact ancGo_sound ops n j i (by omega) hb

theorem hit_reach {ops : Array Oper} {i j : Nat} (hj : j < ops.size) (h : hit ops.size (ancGo ops ops.size) i j = true) : reach ops ops.size i j = true :=
  reach_mono (j + 1) ops.size (by omega) (ancGo_sound ops ops.size j i hj h)

/-- THE CHECK OF A SEGMENT 'k .. k + sk.length': whatever order is drawn, each operation reads what it reads in the text's order. -/
def segOKt (ops : Array Oper) (k : Nat) (sk : Skel) (n : Nat) (t : List Nat) : Bool :=
  ((List.range ops.size).all fun i => (preds ops i).all fun e => decide (e < i)) &&
  ((List.range ops.size).all fun i => decide (i < k + sk.length) || (List.range sk.length).all fun s => hit n t (k + s) i) &&
  ((List.range sk.length).all fun i => (List.range sk.length).all fun j =>
    match sk[i]?, sk[j]? with
    | some p, some q => i == j || (!(q.1.any fun x => p.1.contains x || p.2.contains x) || (if j < i then hit n t (k + j) (k + i) else hit n t (k + i) (k + j)))
    | _, _ => true) && decide (k + sk.length ≤ ops.size)

def segOK (ops : Array Oper) (k : Nat) (sk : Skel) : Bool := segOKt ops k sk ops.size (ancGo ops ops.size)

structure SegFacts (ops : Array Oper) (k : Nat) (ps : List Sp) : Prop where
  lt : ∀ i, i < ops.size → ∀ e, e ∈ preds ops i → e < i
  late : ∀ i, i < ops.size → k + ps.length ≤ i → ∀ s, s < ps.length → reach ops ops.size (k + s) i = true
  od : ∀ (i j : Nat) p q x, ps[i]? = some p → ps[j]? = some q → x ∈ q.wr → (x ∈ p.rd ∨ x ∈ p.wr) → i ≠ j → (j < i ∧ reach ops ops.size (k + j) (k + i) = true) ∨ (i < j ∧ reach ops ops.size (k + i) (k + j) = true)
  size : k + ps.length ≤ ops.size

theorem seg_facts {ops : Array Oper} {k : Nat} {ps : List Sp} (h : segOK ops k (skel ps) = true) : SegFacts ops k ps := by
  unfold segOK segOKt at h
  simp only [Bool.and_eq_true, decide_eq_true_eq] at h
  obtain ⟨⟨⟨h1, h2⟩, h3⟩, h4⟩ := h
  have hl : (skel ps).length = ps.length := by simp [skel]
  rw [hl] at h2 h3 h4
  have key : ∀ (i j : Nat) (p q : Sp), ps[i]? = some p → ps[j]? = some q → i = j ∨ ((∀ x, x ∈ q.wr → x ∉ p.wr ∧ x ∉ p.rd) ∨ (if j < i then reach ops ops.size (k + j) (k + i) else reach ops ops.size (k + i) (k + j)) = true) := by
    intro i j p q hp hq
    have hi : i < ps.length := (List.getElem?_eq_some_iff.1 hp).1
    have hj : j < ps.length := (List.getElem?_eq_some_iff.1 hq).1
    have := List.all_eq_true.1 (List.all_eq_true.1 h3 i (List.mem_range.2 hi)) j (List.mem_range.2 hj)
    simp only [skel, List.getElem?_map, hp, hq, Option.map_some, Bool.or_eq_true, beq_iff_eq, Bool.not_eq_true', List.any_eq_false, List.contains_iff_mem] at this
    rcases this with h | h6
    · exact .inl h
    · refine .inr ?_
      rcases h6 with h6 | h6
      · exact .inl (fun x hx => ⟨fun hx' => h6 x hx (.inl hx'), fun hx' => h6 x hx (.inr hx')⟩)
      · refine .inr ?_
        split at h6
        · rw [if_pos (by assumption)]; exact hit_reach (by omega) h6
        · rw [if_neg (by assumption)]; exact hit_reach (by omega) h6
  refine ⟨fun i hi e he => ?_, fun i hi hle s hs => ?_, fun i j p q x hp hq hx hx' hne => ?_, h4⟩
  · have := List.all_eq_true.1 (List.all_eq_true.1 h1 i (List.mem_range.2 hi)) e he
    simpa using this
  · have := List.all_eq_true.1 h2 i (List.mem_range.2 hi)
    simp only [Bool.or_eq_true, decide_eq_true_eq] at this
    rcases this with h | h
    · omega
    · exact hit_reach hi (List.all_eq_true.1 h s (List.mem_range.2 hs))
  · rcases key i j p q hp hq with h | h
    · exact absurd h hne
    · rcases h with h | h
      · rcases hx' with hx' | hx'
        · exact absurd hx' (h x hx).2
        · exact absurd hx' (h x hx).1
      · split at h
        · exact .inl ⟨by assumption, h⟩
        · exact .inr ⟨by omega, h⟩

def doneTo (n k : Nat) : Array Bool := (Array.range n).map fun i => decide (i < k)

theorem doneTo_get (n k j : Nat) (d : Bool) : (doneTo n k).getD j d = if j < n then decide (j < k) else d := by
  unfold doneTo
  rw [Array.getD_eq_getD_getElem?, Array.getElem?_map, Array.getElem?_range]
  split <;> rfl

/-- from 'k' operations on, in the text's order, all orders lead to 'Q' -/
def DrawOK (P : Program) (C : Ctx) (ops : Array Oper) (Q : Exit → Act → World → Prop) (k : Nat) (σ : St) : Prop :=
  ∀ a w, Rel C σ a w → wpAny P .any ops Q (ops.size - k) (doneTo ops.size k) a w

theorem draw_end {ops : Array Oper} {Q : Exit → Act → World → Prop} {k : Nat} (hk : k = ops.size) (h : ∀ a w, Rel C σ a w → Q .normal a w) : DrawOK P C ops Q k σ := by
  intro a w hr
  subst hk
  have : Region.ready .any ops (doneTo ops.size ops.size) = [] := by
    rw [List.eq_nil_iff_forall_not_mem]
    intro j hj
    obtain ⟨h1, o, ho, _⟩ := mem_ready.1 hj
    have hlt : j < ops.size := (Array.getElem?_eq_some_iff.1 ho).1
    rw [doneTo_get, if_pos hlt] at h1
    simp [hlt] at h1
  rw [Nat.sub_self]
  exact ⟨this, h a w hr⟩

theorem drawn_op {ops : Array Oper} {Q : Exit → Act → World → Prop} {i : Nat} {o : Oper} (ho : ops[i]? = some o) {s s' : St} (ht : TripG P C ops o s s') {K : Act → World → Prop} {a : Act} {w : World} (hr : Rel C s a w)
    (hK : ∀ a' w', Rel C s' a' w' → K a' w') : wpOp P ops Q i K a w := by
  unfold wpOp
  simp only [ho]
  exact ht a w K Q hr hK

/-- ONE OPERATION THAT ALL OTHERS WAIT FOR. -/
theorem draw_one {ops : Array Oper} {Q : Exit → Act → World → Prop} {k : Nat} {o : Oper} (ho : ops[k]? = some o) (hc : Region.ready .any ops (doneTo ops.size k) = [k]) (ht : TripG P C ops o σ σ') (h : DrawOK P C ops Q (k + 1) σ') :
    DrawOK P C ops Q k σ := by
  intro a w hr
  have hlt : k < ops.size := (Array.getElem?_eq_some_iff.1 ho).1
  rw [show ops.size - k = (ops.size - (k + 1)) + 1 from by omega]
  refine ⟨fun h0 => (by rw [hc] at h0; cases h0), fun i hi => ?_⟩
  rw [hc, List.mem_singleton] at hi
  subst hi
  refine drawn_op ho ht hr fun a' w' hr' => ?_
  have e : (doneTo ops.size i).setIfInBounds i true = doneTo ops.size (i + 1) := by
    apply Array.ext
    · simp [doneTo]
    · intro j h1 h2
      simp only [doneTo, Array.size_setIfInBounds, Array.size_map, Array.size_range] at h1
      rw [Array.getElem_setIfInBounds (by simpa [doneTo] using h1)]
      split
      · rename_i e; subst e; simp [doneTo]
      · rename_i e; simp [doneTo]; omega
  rw [e]
  exact h a' w' hr'

theorem filter_less {D : Nat → Bool} {m : Nat} (hm : D m = false) : ∀ (l : List Nat), l.Nodup → m ∈ l → (l.filter fun j => !(D j || j == m)).length + 1 = (l.filter fun j => !D j).length
  | [], _, h => by cases h
  | x :: r, hn, h => by
    rw [List.nodup_cons] at hn
    rcases List.mem_cons.1 h with rfl | h'
    · have e : (r.filter fun j => !(D j || j == m)) = r.filter fun j => !D j := by
        refine List.filter_congr fun j hj => ?_
        have : j ≠ m := by rintro rfl; exact hn.1 hj
        simp [this]
      simp only [List.filter_cons, hm, beq_self_eq_true, Bool.or_true, Bool.not_true, Bool.false_eq_true, if_false, Bool.not_false, if_true, List.length_cons]
      rw [e]
    · have hx : x ≠ m := by rintro rfl; exact hn.1 h'
      have ih := filter_less hm r hn.2 h'
      simp only [List.filter_cons]
      have e : (x == m) = false := by simpa using hx
      rw [e]
      simp only [Bool.or_false]
      split
      · simp only [List.length_cons]; omega
      · exact ih

/-- A SEGMENT, IN WHATEVER ORDER. -/
theorem draw_seg {ops : Array Oper} {Q : Exit → Act → World → Prop} {k : Nat} {l : List Oper} {ps : List Sp} (hck : segOK ops k (skel ps) = true) (hlen : l.length = ps.length)
    (hl : ∀ i, i < ps.length → ops[k + i]? = l[i]?) (hlt : ∀ (i : Nat) p t, ps[i]? = some p → p.dst = some t → t < σ.tm.length) (hfr : ∀ (i : Nat) p, ps[i]? = some p → ∀ b, b ∈ p.new → Loc.blk b.1 ∉ p.rd → hget (upto ps i σ).hp b.1 = none)
    (hch : RobChain P C ops l ps σ) (h : DrawOK P C ops Q (k + ps.length) (appAll ps σ)) : DrawOK P C ops Q k σ := by
  have hF := seg_facts hck
  have ha : Apart ps σ.tm.length := ⟨hlt⟩
  have main : ∀ (r : Nat) (D : Nat → Bool) (listed : Array Bool) (s : St), ((List.range ps.length).filter fun j => !D j).length = r → listed.size = ops.size →
      (∀ j, j < ops.size → listed.getD j false = (decide (j < k) || (decide (j < k + ps.length) && D (j - k)))) →
      (∀ j, listed.getD j false = true → ∀ e, e ∈ preds ops j → listed.getD e false = true) → Desc σ ps D s → ∀ a w, Rel C s a w → wpAny P .any ops Q (ops.size - (k + ps.length) + r) listed a w := by
    intro r
    induction r with
    | zero =>
      intro D listed s hr hsz hlist _ hd a w hrel
      have hall : ∀ j, j < ps.length → D j = true := fun j hj => by
        have h0 : (List.range ps.length).filter (fun j => !D j) = [] := List.eq_nil_of_length_eq_zero hr
        have := List.filter_eq_nil_iff.1 h0 j (List.mem_range.2 hj)
        simpa using this
      have e : listed = doneTo ops.size (k + ps.length) := by
        apply Array.ext
        · simp [doneTo, hsz]
        · intro j h1 h2
          have hj : j < ops.size := by omega
          have h3 := hlist j hj
          rw [Array.getD_eq_getD_getElem?, Array.getElem?_eq_getElem h1, Option.getD_some] at h3
          rw [h3]
          have h4 := doneTo_get ops.size (k + ps.length) j false
          rw [Array.getD_eq_getD_getElem?, Array.getElem?_eq_getElem h2, Option.getD_some, if_pos hj] at h4
          rw [h4]
          by_cases hk : j < k
          · simp [hk]; omega
          · by_cases hk2 : j < k + ps.length
            · simp [hk, hk2, hall (j - k) (by omega)]
            · simp [hk, hk2]
      rw [Nat.add_zero, e]
      have hu := desc_upto ha ps.length (Nat.le_refl _)
      have hsame : Le C s (appAll ps σ) := by
        have e2 : upto ps ps.length σ = appAll ps σ := by simp [upto]
        rw [← e2]
        refine rel_same (hd.len.trans hu.len.symm) (fun t => ?_) (fun id => ?_)
        · rw [hd.tm, hu.tm]
          exact canT_congr ps 0 (fun j p hj _ => by
            have hj' : j < ps.length := (List.getElem?_eq_some_iff.1 hj).1
            simp [hall j hj', hj'])
        · rw [hd.hp, hu.hp]
          exact canH_congr ps 0 (fun j p hj _ => by
            have hj' : j < ps.length := (List.getElem?_eq_some_iff.1 hj).1
            simp [hall j hj', hj'])
      exact h a w (hsame a w hrel)
    | succ r ih =>
      intro D listed s hr hsz hlist hclosed hd a w hrel
      have hex : ∃ m, m < ps.length ∧ D m = false := by
        have hne : (List.range ps.length).filter (fun j => !D j) ≠ [] := by intro e; rw [e] at hr; simp at hr
        obtain ⟨m, hm⟩ := List.exists_mem_of_ne_nil _ hne
        rw [List.mem_filter, List.mem_range] at hm
        exact ⟨m, hm.1, by simpa using hm.2⟩
      obtain ⟨m0, ⟨hm0, hD0⟩, hmin⟩ := least (p := fun m => m < ps.length ∧ D m = false) hex
      have hun : listed.getD (k + m0) false = false := by
        rw [hlist _ (by have := hF.size; omega)]
        simp [show ¬ k + m0 < k by omega, hD0]
      refine ⟨fun h0 => ?_, fun i hi => ?_⟩
      · exfalso
        have : k + m0 ∈ Region.ready .any ops listed := by
          rw [mem_ready]
          have hlt' : k + m0 < ops.size := by have := hF.size; omega
          refine ⟨?_, ops[k + m0], Array.getElem?_eq_getElem hlt', fun e he hb => ?_⟩
          · rw [Array.getD_eq_getD_getElem?, Array.getElem?_eq_getElem (by omega)] at hun ⊢
            exact hun
          · have hmem : e.on ∈ preds ops (k + m0) := by
              unfold preds
              rw [Array.getElem?_eq_getElem hlt']
              exact List.mem_map.2 ⟨e, List.mem_filter.2 ⟨by simpa using he, hb⟩, rfl⟩
            have hl' := hF.lt _ hlt' _ hmem
            rw [hlist _ (by omega)]
            by_cases h1 : e.on < k
            · simp [h1]
            · have h2 : D (e.on - k) = true := by
                cases h3 : D (e.on - k) with
                | true => rfl
                | false => exact absurd ⟨by omega, h3⟩ (hmin (e.on - k) (by omega))
              simp [h1, h2, show e.on < k + ps.length by omega]
        rw [h0] at this
        cases this
      · obtain ⟨h1, o, ho, hall⟩ := mem_ready.1 hi
        have hilt : i < ops.size := (Array.getElem?_eq_some_iff.1 ho).1
        have hil : listed.getD i false = false := by
          rw [Array.getD_eq_getD_getElem?, Array.getElem?_eq_getElem (by omega)] at h1 ⊢
          exact h1
        have hpl : ∀ e, e ∈ preds ops i → listed.getD e false = true := fun e he => by
          unfold preds at he
          rw [ho] at he
          obtain ⟨ed, hed, rfl⟩ := List.mem_map.1 he
          rw [List.mem_filter] at hed
          exact hall ed (by simpa using hed.1) hed.2
        have hik : k ≤ i := by
          rw [hlist i hilt] at hil
          simp at hil
          omega
        have hiu : i < k + ps.length := by
          rcases Nat.lt_or_ge i (k + ps.length) with h2 | h2
          · exact h2
          · have := reach_listed hclosed _ _ _ (hF.late i hilt h2 m0 hm0) hpl
            rw [hun] at this
            cases this
        obtain ⟨m, rfl⟩ : ∃ m, i = k + m := ⟨i - k, by omega⟩
        have hm : m < ps.length := by omega
        have hDm : D m = false := by
          rw [hlist _ hilt] at hil
          simpa [show ¬ k + m < k by omega, hiu] using hil
        have hpm : ps[m]? = some ps[m] := List.getElem?_eq_getElem hm
        have hom : l[m]? = some o := by rw [← hl m hm]; exact ho
        have hrob := chain_get l ps σ hch m o ps[m] hom hpm
        have hu := desc_upto ha m (by omega)
        have key : ∀ x, (x ∈ ps[m].rd ∨ x ∈ ps[m].wr) → ∀ (j : Nat) q, ps[j]? = some q → x ∈ q.wr → D j = decide (j < m) := fun x hx j q hq hxq => by
          have hj : j < ps.length := (List.getElem?_eq_some_iff.1 hq).1
          by_cases e : m = j
          · subst e; simp [hDm]
          · rcases hF.od m j _ q x hpm hq hxq hx e with ⟨h3, h4⟩ | ⟨h3, h4⟩
            · have h5 := reach_listed hclosed _ _ _ h4 hpl
              rw [hlist _ (by omega)] at h5
              simp [show ¬ k + j < k by omega] at h5
              simp [h3, h5.2]
            · cases h6 : D j with
              | false => simp; omega
              | true =>
                have h7 : listed.getD (k + j) false = true := by
                  rw [hlist _ (by have := hF.size; omega)]
                  simp [h6, hj]
                have h8 := reach_listed hclosed _ _ _ h4 (hclosed _ h7)
                rw [hil] at h8
                cases h8
        have hag : ∀ x, x ∈ ps[m].rd → AgreeAt (upto ps m σ) s x := fun x hx => by
          have key := key x (.inl hx)
          cases x with
          | tm t =>
            show s.tm.getD t .any = (upto ps m σ).tm.getD t .any
            rw [hd.tm, hu.tm]
            exact canT_congr ps 0 (fun j q hq hdq => by rw [Nat.zero_add]; exact key j q hq (wr_tm hdq))
          | blk id =>
            show hget s.hp id = hget (upto ps m σ).hp id
            rw [hd.hp, hu.hp]
            exact canH_congr ps 0 (fun j q hq hdq => by rw [Nat.zero_add]; exact key j q hq (wr_blk hdq))
        have hfresh : ∀ b, b ∈ ps[m].new → Loc.blk b.1 ∉ ps[m].rd → hget s.hp b.1 = none := fun b hb hnr => by
          rw [← hfr m _ hpm b hb hnr, hd.hp, hu.hp]
          exact canH_congr ps 0 (fun j q hq hdq => by rw [Nat.zero_add]; exact key (.blk b.1) (.inr (wr_blk ⟨b, hb, rfl⟩)) j q hq (wr_blk hdq))
        have ht := hrob s hag hfresh
        refine drawn_op ho ht hrel fun a' w' hr' => ?_
        refine ih (fun j => D j || j == m) (listed.setIfInBounds (k + m) true) (ps[m].app s) ?_ (by simp [hsz]) (fun j hj => ?_) (fun j hj e he => ?_) (hd.add ha hpm fun j p x hj hx hx' hlt => by rw [key x (.inr hx') j p hj hx]; simp; omega) a' w' hr'
        · have := filter_less hDm (List.range ps.length) List.nodup_range (List.mem_range.2 hm)
          omega
        · by_cases e : k + m = j
          · subst e
            rw [Array.getD_eq_getD_getElem?, Array.getElem?_setIfInBounds_self_of_lt (by omega)]
            simp [hiu]
          · rw [getD_set_ne false e, hlist j hj]
            have : (j - k == m) = false ∨ j < k := by
              by_cases h2 : j < k
              · exact .inr h2
              · left; simp; omega
            rcases this with h2 | h2
            · rw [h2]; simp
            · simp [h2]
        · by_cases e' : k + m = j
          · subst e'
            exact getD_set_true (hpl e he)
          · rw [getD_set_ne false e'] at hj
            exact getD_set_true (hclosed j hj e he)
  intro a w hr
  have h0 := main ps.length (fun _ => false) (doneTo ops.size k) σ (by show ((List.range ps.length).filter fun _ => true).length = ps.length; rw [List.filter_eq_self.2 (fun _ _ => rfl)]; simp) (by simp [doneTo]) (fun j hj => by rw [doneTo_get, if_pos hj]; simp) (fun j hj e he => by
    rw [doneTo_get] at hj ⊢
    split at hj
    · rename_i hjn
      have hlt' := hF.lt j hjn e he
      rw [if_pos (by omega)]
      simp at hj ⊢
      omega
    · cases hj) (Desc.start σ ps) a w hr
  rw [show ops.size - k = ops.size - (k + ps.length) + ps.length from by have := hF.size; omega]
  exact h0

/-- A REGION THAT DRAWS ITS ORDER. -/
theorem cw_draw {Ret : St → Prop} {k : List It} {id : Nat} {ops : Array Oper} (hm : P.follows .mixedOrders = true) (h : DrawOK P C ops (aft (RetOf C Ret) (sem P C (RetOf C Ret) k)) 0 σ) : Cw P C Ret (.code (.region id ops true) :: k) σ := fun a w hr => by
  obtain ⟨μ, S, hi⟩ := hr
  refine wp_region_any hm ?_
  have := h a w.drew ⟨μ, S, hi.drew⟩
  have e : doneTo ops.size 0 = Array.replicate ops.size false := by
    apply Array.ext <;> simp [doneTo]
  rw [e] at this
  exact this

theorem draw_close {Ret : St → Prop} {k : List It} {ops : Array Oper} {n : Nat} (hn : n = ops.size) (h : Cw P C Ret k σ) : DrawOK P C ops (aft (RetOf C Ret) (sem P C (RetOf C Ret) k)) n σ :=
  draw_end hn fun a w hr => h a w hr

end
end Go.Eng

namespace Go.Eng
section
variable {P : Program} {T : Tab} {C : Ctx} {σ σ' s : St}

/-- the places that an operand leads to -/
def locsO (σ : St) : Operand → List Loc
  | .tmp t => .tm t :: (refs (σ.tm.getD t .any)).map .blk
  | _ => []

def locsL (σ : St) : List Operand → List Loc
  | [] => []
  | o :: r => locsO σ o ++ locsL σ r

def locsG (ops : Array Oper) (g : Option (Nat × Bool)) : List Loc :=
  match g with
  | none => []
  | some (j, _) =>
    match (ops[j]?).bind (·.dst) with
    | some d => [.tm d]
    | none => []

theorem ev_agree {o : Operand} (h : ∀ x, x ∈ locsO σ o → AgreeAt σ s x) : ev s o = ev σ o := by
  cases o with
  | tmp t => exact h (.tm t) (by simp [locsO])
  | _ => rfl

theorem evS_agree {o : Operand} (h : ∀ x, x ∈ locsO σ o → AgreeAt σ s x) : evS s o = evS σ o := by unfold evS; rw [ev_agree h]

theorem strip_refs (x : AV) : ∀ id, id ∈ refs (strip x).2 → id ∈ refs x := by
  intro id h
  cases x <;> first | exact h | simpa [strip, refs] using h

theorem blk_agree {o : Operand} (h : ∀ x, x ∈ locsO σ o → AgreeAt σ s x) {id : Nat} (hid : id ∈ refs (evS σ o).2) : hget s.hp id = hget σ.hp id := by
  have h1 := strip_refs _ id hid
  cases o with
  | tmp t =>
    refine h (.blk id) ?_
    simp only [ev] at h1
    exact List.mem_cons_of_mem _ (List.mem_map.2 ⟨id, h1, rfl⟩)
  | const v =>
    simp only [ev] at h1
    exfalso
    revert h1
    unfold ofValue
    split <;> simp [refs]
  | func f => simp [ev, refs, refsL] at h1
  | global g => simp [ev, refs] at h1

theorem locsL_mem {os : List Operand} {o : Operand} (ho : o ∈ os) : ∀ x, x ∈ locsO σ o → x ∈ locsL σ os := by
  intro x hx
  induction os with
  | nil => cases ho
  | cons y r ih =>
    simp only [locsL, List.mem_append]
    rcases List.mem_cons.1 ho with rfl | h
    · exact .inl hx
    · exact .inr (ih h)

theorem evSL_agree : ∀ {os : List Operand}, (∀ x, x ∈ locsL σ os → AgreeAt σ s x) → evSL s os = evSL σ os
  | [], _ => rfl
  | o :: r, h => by
    simp only [evSL]
    rw [evS_agree (fun x hx => h x (by simp [locsL, hx])), evSL_agree (fun x hx => h x (by simp [locsL, hx]))]

theorem loadOp_agree {t : TypeId} {x : AV} (h : ∀ id, id ∈ refs x → hget s.hp id = hget σ.hp id) : loadOp T s t x = loadOp T σ t x := by
  unfold loadOp
  split
  · rfl
  · rename_i id size row off
    rw [h id (by simp [refs])]
  · rfl

theorem lenAV_agree {t : TypeId} {x : AV} (h : ∀ id, id ∈ refs x → hget s.hp id = hget σ.hp id) : lenAV T s t x = lenAV T σ t x := by
  unfold lenAV
  split <;> try rfl
  rename_i id hu
  rw [h id (by simp [refs])]

/-- WHAT AN OPERATION YIELDS HANGS ON THE PLACES THAT ITS OPERANDS LEAD TO ALONE. -/
theorem mapOf_agree {x : AV} (h : ∀ id, id ∈ refs x → hget s.hp id = hget σ.hp id) : mapOf s x = mapOf σ x := by
  unfold mapOf
  split
  · rfl
  · rfl
  · rw [h _ (by simp [refs])]
  · rfl

theorem pureOp_agree {op : Op} (h : ∀ x, x ∈ locsL σ op.operands.toList → AgreeAt σ s x) : pureOp T s op = pureOp T σ op := by
  have he : ∀ o, o ∈ op.operands.toList → evS s o = evS σ o := fun o ho => evS_agree fun x hx => h x (locsL_mem ho x hx)
  have hv : ∀ o, o ∈ op.operands.toList → ev s o = ev σ o := fun o ho => ev_agree fun x hx => h x (locsL_mem ho x hx)
  have hb : ∀ o, o ∈ op.operands.toList → ∀ id, id ∈ refs (evS σ o).2 → hget s.hp id = hget σ.hp id := fun o ho id hid => blk_agree (fun x hx => h x (locsL_mem ho x hx)) hid
  unfold pureOp
  split
  · rw [hv _ (by simp [Op.operands])]
  · rw [hv _ (by simp [Op.operands])]
  · rename_i c x y; rw [hv c (by simp [Op.operands]), hv x (by simp [Op.operands]), hv y (by simp [Op.operands])]
  · rename_i t x
    rw [he x (by simp [Op.operands]), loadOp_agree (hb x (by simp [Op.operands]))]
  · rename_i x; rw [he x (by simp [Op.operands])]
  · rename_i op t x y ty; rw [he x (by simp [Op.operands]), he y (by simp [Op.operands])]
  · rename_i op t x; rw [he x (by simp [Op.operands])]
  · rename_i t x j; rw [he x (by simp [Op.operands])]
  · rename_i t x j; rw [he x (by simp [Op.operands])]
  · rename_i t x y; rw [he x (by simp [Op.operands]), he y (by simp [Op.operands])]
  · rename_i t x y; rw [he x (by simp [Op.operands]), he y (by simp [Op.operands])]
  · rename_i t x lo hi
    rw [he x (by simp [Op.operands])]
    have e1 : (lo.map fun o => (evS s o).2) = lo.map fun o => (evS σ o).2 := by
      cases lo with
      | none => rfl
      | some o => simp only [Option.map_some]; rw [he o (by simp [Op.operands])]
    have e2 : (hi.map fun o => (evS s o).2) = hi.map fun o => (evS σ o).2 := by
      cases hi with
      | none => rfl
      | some o => simp only [Option.map_some]; rw [he o (by simp [Op.operands])]
    have e3 : evSL s lo.toList = evSL σ lo.toList := by
      cases lo with
      | none => rfl
      | some o => simp only [Option.toList, evSL]; rw [he o (by simp [Op.operands])]
    have e4 : evSL s hi.toList = evSL σ hi.toList := by
      cases hi with
      | none => rfl
      | some o => simp only [Option.toList, evSL]; rw [he o (by simp [Op.operands])]
    rw [e1, e2, e3, e4]
  · rename_i x j; rw [he x (by simp [Op.operands])]
  · rename_i f first captured
    have : evSL s captured.toList = evSL σ captured.toList := evSL_agree fun x hx => h x (by
      have hm : ∀ (l : List Operand), (∀ o, o ∈ l → o ∈ (Op.makeFunc (.func f) first captured).operands.toList) → ∀ x, x ∈ locsL σ l → x ∈ locsL σ (Op.makeFunc (.func f) first captured).operands.toList := by
        intro l
        induction l with
        | nil => intro _ x hx; cases hx
        | cons o r ih =>
          intro ho x hx
          simp only [locsL, List.mem_append] at hx
          rcases hx with hx | hx
          · exact locsL_mem (ho o (List.mem_cons_self ..)) x hx
          · exact ih (fun o' ho' => ho o' (List.mem_cons_of_mem _ ho')) x hx
      exact hm _ (fun o ho => by simp [Op.operands] at ho ⊢; exact .inr ho) x hx)
    rw [this]
  · rename_i args ats
    split
    · rename_i x t hx ht
      have hm : x ∈ (Op.call { callee := .builtin .len, args, argTypes := ats }).operands.toList := by simp [Op.operands, Call.operands, hx]
      rw [he x hm, lenAV_agree (hb x hm)]
    · rfl
  · rename_i s t x; rw [he x (by simp [Op.operands])]
  · rename_i t x i ok
    unfold lookAV
    rw [he x (by simp [Op.operands]), he i (by simp [Op.operands]), mapOf_agree (hb x (by simp [Op.operands]))]
  · rfl

theorem guard_agree {ops : Array Oper} {g : Option (Nat × Bool)} (h : ∀ x, x ∈ locsG ops g → AgreeAt σ s x) : guardOf ops s g = guardOf ops σ g := by
  unfold guardOf
  split
  · rfl
  · rename_i j want
    split
    · rename_i d hd
      have := h (.tm d) (by simp [locsG, hd])
      simp only [AgreeAt] at this
      rw [this]
    · rfl

/-- what an operation that leaves the world as it is does in a region -/
def spPure (ops : Array Oper) (σ : St) (o : Oper) (x : AV) : Sp := ⟨o.dst, x, [], locsG ops o.guard ++ locsL σ o.op.operands.toList⟩

theorem rob_pure (hT : TabOK P T) {ops : Array Oper} {o : Oper} {c : Bool} {p : Prop} {x : AV} (hg : guardOf ops σ o.guard = some c) (h : pureOp T σ o.op = some (p, x)) (hp : c = true → p) (hc : c = true ∨ ∃ y, x = .cnd c y ∨ True) :
    Rob P C ops o (spPure ops σ o (mkc c x)) σ := by
  intro s ha _ a w K Q hr hK
  have hg' : guardOf ops s o.guard = some c := by rw [guard_agree (fun x hx => ha x (List.mem_append_left _ hx))]; exact hg
  have h' : pureOp T s o.op = some (p, x) := by rw [pureOp_agree (fun x hx => ha x (List.mem_append_right _ hx))]; exact h
  obtain ⟨μ, S, hi⟩ := hr
  rw [wanted_of hi hg']
  cases c with
  | false => exact hK _ _ ⟨μ, S, hi.put o.dst (rd_mkc (.cndF x))⟩
  | true =>
    refine .inl ?_
    obtain ⟨u, h1, h2⟩ := sound_pure hT hi o h' (hp rfl)
    unfold Oper.wp
    rw [h1]
    exact hK _ _ ⟨μ, S, hi.put o.dst (rd_mkc (.cndT u x h2))⟩

theorem rob_pure0 (hT : TabOK P T) {ops : Array Oper} {o : Oper} {p : Prop} {x : AV} (hg : o.guard = none) (h : pureOp T σ o.op = some (p, x)) (hp : p) : Rob P C ops o (spPure ops σ o x) σ := by
  intro s ha _ a w K Q hr hK
  have h' : pureOp T s o.op = some (p, x) := by rw [pureOp_agree (fun x hx => ha x (List.mem_append_right _ hx))]; exact h
  obtain ⟨μ, S, hi⟩ := hr
  have hw : Region.wanted o (yielded ops a.tmps) = true := wanted_of hi (by rw [hg]; rfl)
  rw [hw]
  refine .inl ?_
  obtain ⟨u, h1, h2⟩ := sound_pure hT hi o h' hp
  unfold Oper.wp
  rw [h1]
  exact hK _ _ ⟨μ, S, hi.put o.dst h2⟩

/-- IN A REGION THAT DRAWS: plain operations, one behind the other, as far as the next that is none. -/
def runD (T : Tab) (ops : Array Oper) : List Oper → St → Option (Prop × List Sp × List Oper × St)
  | [], σ => some (True, [], [], σ)
  | o :: l, σ =>
    match pureOp T σ o.op with
    | some (p, x) =>
      match o.guard with
      | none => (runD T ops l (σ.put o.dst x)).map fun r => (p ∧ r.1, spPure ops σ o x :: r.2.1, r.2.2)
      | some g =>
        match guardOf ops σ (some g) with
        | some c => (runD T ops l (σ.put o.dst (mkc c x))).map fun r => ((c = true → p) ∧ r.1, spPure ops σ o (mkc c x) :: r.2.1, r.2.2)
        | none => none
    | none => some (True, [], o :: l, σ)

theorem spPure_app (ops : Array Oper) (σ : St) (o : Oper) (x : AV) : (spPure ops σ o x).app σ = σ.put o.dst x := by
  simp [Sp.app, spPure]

/-- the operations up to 'l'' do what 'ps' says -/
theorem runD_sound (hT : TabOK P T) (ops : Array Oper) : ∀ (l : List Oper) (σ : St) {p : Prop} {ps : List Sp} {l' : List Oper} {σ' : St}, runD T ops l σ = some (p, ps, l', σ') → p →
    ∀ {l2 : List Oper} {ps2 : List Sp}, RobChain P C ops l2 ps2 σ' → l' = l2 ++ (l'.drop l2.length) → ∃ l1, l = l1 ++ l' ∧ RobChain P C ops (l1 ++ l2) (ps ++ ps2) σ
  | [], σ, p, ps, l', σ', h, _, l2, ps2, hc, _ => by
    simp only [runD, Option.some.injEq, Prod.mk.injEq] at h
    obtain ⟨_, rfl, rfl, rfl⟩ := h
    exact ⟨[], rfl, hc⟩
  | o :: l, σ, p, ps, l', σ', h, hp, l2, ps2, hc, he => by
    unfold runD at h
    split at h
    · rename_i q x hpo
      split at h
      · rename_i hg
        cases e : runD T ops l (σ.put o.dst x) with
        | none => rw [e] at h; cases h
        | some r =>
          obtain ⟨r1, r2, r3, r4⟩ := r
          simp only [e, Option.map_some, Option.some.injEq, Prod.mk.injEq] at h
          obtain ⟨rfl, rfl, rfl, rfl⟩ := h
          obtain ⟨l1, h1, h2⟩ := runD_sound hT ops l _ e hp.2 hc he
          exact ⟨o :: l1, by rw [h1]; rfl, rob_pure0 hT hg hpo hp.1, by rw [spPure_app]; exact h2⟩
      · rename_i g hg
        split at h
        · rename_i c hc'
          cases e : runD T ops l (σ.put o.dst (mkc c x)) with
          | none => rw [e] at h; cases h
          | some r =>
            obtain ⟨r1, r2, r3, r4⟩ := r
            simp only [e, Option.map_some, Option.some.injEq, Prod.mk.injEq] at h
            obtain ⟨rfl, rfl, rfl, rfl⟩ := h
            obtain ⟨l1, h1, h2⟩ := runD_sound hT ops l _ e hp.2 hc he
            exact ⟨o :: l1, by rw [h1]; rfl, rob_pure hT (by rw [hg]; exact hc') hpo hp.1 (.inr ⟨x, .inr trivial⟩), by rw [spPure_app]; exact h2⟩
        · cases h
    · simp only [Option.some.injEq, Prod.mk.injEq] at h
      obtain ⟨_, rfl, rfl, rfl⟩ := h
      exact ⟨[], rfl, hc⟩

end
end Go.Eng

namespace Go.Eng
section
variable {P : Program} {T : Tab} {C : Ctx} {σ σ' s : St} {Ret : St → Prop} {k : List It}

theorem runD_len : ∀ {ops : Array Oper} {l : List Oper} {σ : St} {p : Prop} {ps : List Sp} {l' : List Oper} {σ' : St}, runD T ops l σ = some (p, ps, l', σ') → l.length = ps.length + l'.length ∧ appAll ps σ = σ' ∧ ∀ (i : Nat) q, ps[i]? = some q → q.new = []
  | ops, [], σ, p, ps, l', σ', h => by
    simp only [runD, Option.some.injEq, Prod.mk.injEq] at h
    obtain ⟨_, rfl, rfl, rfl⟩ := h
    exact ⟨rfl, rfl, fun i q h => by simp at h⟩
  | ops, o :: l, σ, p, ps, l', σ', h => by
    unfold runD at h
    split at h
    · rename_i q x hpo
      have fin : ∀ (y : AV) {f : Prop → Prop}, (runD T ops l (σ.put o.dst y)).map (fun r => (f r.1, spPure ops σ o y :: r.2.1, r.2.2)) = some (p, ps, l', σ') →
          (o :: l).length = ps.length + l'.length ∧ appAll ps σ = σ' ∧ ∀ (i : Nat) q, ps[i]? = some q → q.new = [] := by
        intro y f h
        cases e : runD T ops l (σ.put o.dst y) with
        | none => rw [e] at h; cases h
        | some r =>
          obtain ⟨r1, r2, r3, r4⟩ := r
          simp only [e, Option.map_some, Option.some.injEq, Prod.mk.injEq] at h
          obtain ⟨_, rfl, rfl, rfl⟩ := h
          obtain ⟨h1, h2, h3⟩ := runD_len e
          refine ⟨by simp [h1]; omega, by simp only [appAll, spPure_app]; exact h2, fun i q hq => ?_⟩
          cases i with
          | zero => simp only [List.getElem?_cons_zero, Option.some.injEq] at hq; subst hq; rfl
          | succ i => exact h3 i q (by simpa using hq)
      split at h
      · exact fin x (f := fun r => q ∧ r) h
      · split at h
        · rename_i c _
          exact fin (mkc c x) (f := fun r => (c = true → q) ∧ r) h
        · cases h
    · simp only [Option.some.injEq, Prod.mk.injEq] at h
      obtain ⟨_, rfl, rfl, rfl⟩ := h
      exact ⟨by simp, rfl, fun i q h => by simp at h⟩

/-- the places written lie inside the frame -/
def dstOK (n : Nat) (sk : Skel) : Bool := sk.all fun p => p.1.all fun | .tm t => decide (t < n) | .blk _ => true

/-- A REGION THAT DRAWS, OF PLAIN OPERATIONS ALONE. -/
theorem cw_drawn (hT : TabOK P T) (hm : P.follows .mixedOrders = true) {id : Nat} {ops : Array Oper} {p : Prop} {ps : List Sp} (h : runD T ops ops.toList σ = some (p, ps, [], σ')) (hp : p) {sk : Skel} (hs : skel ps = sk)
    (hc : (segOK ops 0 sk && dstOK σ.tm.length sk) = true) (hk : Cw P C Ret k σ') : Cw P C Ret (.code (.region id ops true) :: k) σ := by
  subst hs
  rw [Bool.and_eq_true] at hc
  obtain ⟨h1, h2, h3⟩ := runD_len h
  obtain ⟨l1, k1, k2⟩ := runD_sound (P := P) (C := C) hT ops ops.toList σ h hp (l2 := []) (ps2 := []) trivial (by simp)
  simp only [List.append_nil] at k1 k2
  subst k1
  refine cw_draw hm (draw_seg (l := ops.toList) (ps := ps) hc.1 (by simpa using h1) (fun i hi => by simp) (fun i q t hq hd => ?_) (fun i q hq b hb => by rw [h3 i q hq] at hb; cases hb) k2 ?_)
  · have := List.all_eq_true.1 hc.2 (q.wr, q.rd) (List.mem_map.2 ⟨q, List.mem_of_getElem? hq, rfl⟩)
    have := List.all_eq_true.1 this (.tm t) (wr_tm hd)
    simpa using this
  · rw [h2]
    exact draw_close (by simpa using h1.symm) hk

/-! ### What may be forgotten -/

def leAny : List AV → List AV → Prop
  | [], [] => True
  | x :: l, y :: m => (y = .any ∨ x = y) ∧ leAny l m
  | _, _ => False

theorem leAny_get : ∀ {l m : List AV}, leAny l m → l.length = m.length ∧ ∀ (t : Nat) y, m[t]? = some y → y = .any ∨ l[t]? = some y
  | [], [], _ => ⟨rfl, fun t y h => by simp at h⟩
  | x :: l, y :: m, h => by
    obtain ⟨h1, h2⟩ := leAny_get h.2
    refine ⟨by simp [h1], fun t z hz => ?_⟩
    cases t with
    | zero =>
      simp only [List.getElem?_cons_zero, Option.some.injEq] at hz ⊢
      subst hz
      exact h.1
    | succ t => simpa using h2 t z (by simpa using hz)
  | [], _ :: _, h => h.elim
  | _ :: _, [], h => h.elim

/-- slots are forgotten -/
theorem le_any {l m : List AV} {H : List (Nat × Blk)} (h : leAny l m) : Le C ⟨l, H⟩ ⟨m, H⟩ := by
  intro a w ⟨μ, S, hi⟩
  obtain ⟨h1, h2⟩ := leAny_get h
  refine ⟨μ, S, by rw [hi.size]; exact h1, hi.defers, fun t y hy => ?_, hi.hp, hi.dom, hi.inj, hi.frm, hi.sb⟩
  rcases h2 t y hy with rfl | h
  · exact .any _
  · exact hi.tm t y h

theorem le_anyH {l m : List AV} {H H' : List (Nat × Blk)} (hH : H = H') (h : leAny l m) : Le C ⟨l, H⟩ ⟨m, H'⟩ := by subst hH; exact le_any h

theorem wrap_small {n : Int} (h : -9223372036854775808 ≤ n) (h2 : n ≤ 9223372036854775807) : IntKind.i64.wrap n = n := by
  simp [IntKind.wrap, IntKind.signed, IntKind.bits]; omega

def setAll (l : List AV) : List (Nat × AV) → List AV
  | [] => l
  | (t, x) :: r => setAll (l.set t x) r

def hsetAll (h : List (Nat × Blk)) : List (Nat × Blk) → List (Nat × Blk)
  | [] => h
  | (t, x) :: r => hsetAll (hset h t x) r

/-- A LOOP: what changes, by round; the rest is as it was. -/
theorem cw_loopS {ι : Type} (J : ι → Prop) (m : ι → Nat) (f : ι → List (Nat × AV)) (g : ι → List (Nat × Blk)) (i0 : ι) {c : Code} {l : List AV} {H : List (Nat × Blk)} (hJ : J i0) (h0 : Le C ⟨l, H⟩ ⟨setAll l (f i0), hsetAll H (g i0)⟩)
    (round : ∀ i, J i → Cw P C Ret (.code c :: .back (fun s => ∃ j, J j ∧ m j < m i ∧ Le C s ⟨setAll l (f j), hsetAll H (g j)⟩) :: k) ⟨setAll l (f i), hsetAll H (g i)⟩) : Cw P C Ret (.code (.loop c) :: k) ⟨l, H⟩ := by
  refine cw_loop (ι := { i // J i }) (fun i => ⟨setAll l (f i.1), hsetAll H (g i.1)⟩) (fun i => m i.1) ⟨i0, hJ⟩ h0 fun i => ?_
  intro a w hr
  have := round i.1 i.2 a w hr
  refine wp_mono this fun e a w q => ?_
  cases e with
  | normal =>
    obtain ⟨s, ⟨j, hj, hm, hle⟩, hrs⟩ := q
    exact ⟨s, ⟨⟨j, hj⟩, hm, hle⟩, hrs⟩
  | _ => exact q

theorem Le.refl (C : Ctx) (σ : St) : Le C σ σ := fun _ _ h => h
theorem Le.trans {σ1 σ2 σ3 : St} (h : Le C σ1 σ2) (k : Le C σ2 σ3) : Le C σ1 σ3 := fun a w r => k a w (h a w r)

/-- CALLED WITH WHAT HOLDS NOTHING. -/
theorem calls_of_fn {f : FuncId} {args : List AV} {r : AV} (h : FnOK P f args [] fun r' _ => r' = r) {w : World} {vs : List Value} (hl : vs.length = args.length) {S : Nat → Prop}
    (hargs : ∀ (j : Nat) x, args[j]? = some x → RdP S w (vs.getD j undef) x) (hS : ∀ b, S b → b < w.heap.size) (hg : GOK (fun _ => none) w) :
    Calls P f vs.toArray w fun e w' => ∃ v μ S', e = .returned v ∧ Rd μ S' w' v r ∧ Frm (fun _ => False) w w' := by
  refine (h S (fun _ => none) w vs hl (fun j x hx => .pure (hargs j x hx)) ⟨fun id b h => by simp [hget] at h, fun id g h => (by cases h), fun id id' g h => (by cases h), hg⟩ hS).mono ?_
  rintro e w' ⟨v, r', H', μ', S', rfl, rfl, k1, _, k3, _, _⟩
  exact ⟨v, μ', S', rfl, k1, ⟨k3.os, k3.tape, k3.output, k3.size, fun b hb _ => k3.block b hb (by rintro ⟨id, h⟩; cases h)⟩⟩
end
end Go.Eng

namespace Go.Eng
section
variable {P : Program} {T : Tab} {C : Ctx} {σ σ' : St}

mutual
def ren (off : Nat) : AV → AV
  | .ptr id s r o => .ptr (id + off) s r o
  | .osl id s o n => .osl (id + off) s o n
  | .mp id => .mp (id + off)
  | .exs id s o n c => .exs (id + off) s o n c
  | .agg cells => .agg (renL off cells)
  | .tup vs => .tup (renL off vs)
  | .fn f caps => .fn f (renL off caps)
  | .cnd c v => .cnd c (ren off v)
  | x => x
def renL (off : Nat) : List AV → List AV
  | [] => []
  | x :: r => ren off x :: renL off r
end

theorem renL_map (off : Nat) : ∀ l, renL off l = l.map (ren off)
  | [] => rfl
  | x :: r => by simp [renL, renL_map off r]

theorem RdP.ren_eq {S : Nat → Prop} {w : World} {v : Value} {x : AV} (h : RdP S w v x) (off : Nat) : ren off x = x := by
  have key : ∀ (l : List AV), (∀ (j : Nat) x, l[j]? = some x → ren off x = x) → renL off l = l := by
    intro l
    induction l with
    | nil => intro _; rfl
    | cons y r ih =>
      intro h
      simp only [renL]
      rw [h 0 y rfl, ih (fun j x hj => h (j + 1) x (by simpa using hj))]
  induction h with
  | fn f vals caps hl hr ih => simp only [ren]; rw [key caps ih]
  | agg cs cells hl hr ih => simp only [ren]; rw [key cells ih]
  | _ => rfl

/-- Read with other numbers. -/
theorem Rd.ren {μ μ' : Nat → Option Nat} {S : Nat → Prop} {w : World} {v : Value} {x : AV} (off : Nat) (h : Rd μ S w v x) (hm : ∀ id, id ∈ refs x → ∀ g, μ id = some g → μ' (id + off) = some g) : Rd μ' S w v (ren off x) := by
  induction h with
  | any v => exact .any v
  | pure h => rw [h.ren_eq]; exact .pure h
  | agg cs cells hl hr ih =>
    simp only [Eng.ren, renL_map]
    refine .agg cs _ (by simpa using hl) (fun j x hx => ?_)
    rw [List.getElem?_map] at hx
    cases e : cells[j]? with
    | none => rw [e] at hx; cases hx
    | some y =>
      rw [e] at hx; simp only [Option.map_some, Option.some.injEq] at hx; subst hx
      exact ih j y e (fun id hid => hm id (by simp only [refs]; exact refsL_mem e hid))
  | tup cs cells hl hr ih =>
    simp only [Eng.ren, renL_map]
    refine .tup cs _ (by simpa using hl) (fun j x hx => ?_)
    rw [List.getElem?_map] at hx
    cases e : cells[j]? with
    | none => rw [e] at hx; cases hx
    | some y =>
      rw [e] at hx; simp only [Option.map_some, Option.some.injEq] at hx; subst hx
      exact ih j y e (fun id hid => hm id (by simp only [refs]; exact refsL_mem e hid))
  | fn f vals cells hl hr ih =>
    simp only [Eng.ren, renL_map]
    refine .fn f vals _ (by simpa using hl) (fun j x hx => ?_)
    rw [List.getElem?_map] at hx
    cases e : cells[j]? with
    | none => rw [e] at hx; cases hx
    | some y =>
      rw [e] at hx; simp only [Option.map_some, Option.some.injEq] at hx; subst hx
      exact ih j y e (fun id hid => hm id (by simp only [refs]; exact refsL_mem e hid))
  | ptr i size row o g hg => exact .ptr _ size row o g (hm i (by simp [refs]) g hg)
  | osl i size o len cap A hc h =>
    refine .osl _ size o len cap A hc ?_
    rcases h with h | ⟨g, e, n, h1, h2, h3, h4⟩
    · exact .inl h
    · exact .inr ⟨g, e, n, hm i (by simp [refs]) g h1, h2, h3, h4⟩
  | mp i g hg => exact .mp _ g (hm i (by simp [refs]) g hg)
  | exs i size o len cap g e n hc hg hr hn => exact .exs _ size o len cap g e n hc (hm i (by simp [refs]) g hg) hr hn
  | cndT v x h ih => exact .cndT v _ (ih (fun id hid => hm id (by simpa [refs] using hid)))
  | cndF x => exact .cndF _

/-- Read with fewer numbers. -/
theorem Rd.less {μ μ' : Nat → Option Nat} {S : Nat → Prop} {w : World} {v : Value} {x : AV} (h : Rd μ S w v x) (hm : ∀ id, id ∈ refs x → ∀ g, μ id = some g → μ' id = some g) : Rd μ' S w v x := by
  induction h with
  | any v => exact .any v
  | pure h => exact .pure h
  | agg cs cells hl hr ih => exact .agg cs cells hl (fun j x hx => ih j x hx (fun id hid => hm id (by simp only [refs]; exact refsL_mem hx hid)))
  | tup cs cells hl hr ih => exact .tup cs cells hl (fun j x hx => ih j x hx (fun id hid => hm id (by simp only [refs]; exact refsL_mem hx hid)))
  | fn f vals cells hl hr ih => exact .fn f vals cells hl (fun j x hx => ih j x hx (fun id hid => hm id (by simp only [refs]; exact refsL_mem hx hid)))
  | ptr i size row o g hg => exact .ptr _ size row o g (hm i (by simp [refs]) g hg)
  | osl i size o len cap A hc h =>
    refine .osl _ size o len cap A hc ?_
    rcases h with h | ⟨g, e, n, h1, h2, h3, h4⟩
    · exact .inl h
    · exact .inr ⟨g, e, n, hm i (by simp [refs]) g h1, h2, h3, h4⟩
  | mp i g hg => exact .mp _ g (hm i (by simp [refs]) g hg)
  | exs i size o len cap g e n hc hg hr hn => exact .exs _ size o len cap g e n hc (hm i (by simp [refs]) g hg) hr hn
  | cndT v x h ih => exact .cndT v _ (ih (fun id hid => hm id (by simpa [refs] using hid)))
  | cndF x => exact .cndF _

def refsB : Blk → List Nat
  | .cells _ _ rows => rows.flatMap refsL
  | .map _ => []
  | .iter .. => []
  | .cap id _ _ => [id]
  | .pin id _ _ _ => [id]

@[go_sem, simp] theorem refsB_nil (e s : Nat) : refsB (.cells e s []) = [] := rfl
@[go_sem, simp] theorem refsB_cons (e s : Nat) (r : List AV) (l : List (List AV)) : refsB (.cells e s (r :: l)) = refsL r ++ refsB (.cells e s l) := rfl
@[go_sem, simp] theorem refsB_map (kvs : List (Int × AV)) : refsB (.map kvs) = [] := rfl
@[go_sem, simp] theorem refsB_cap (id s N : Nat) : refsB (.cap id s N) = [id] := rfl
@[go_sem, simp] theorem refsB_pin (id g t n : Nat) : refsB (.pin id g t n) = [id] := rfl
@[go_sem, simp] theorem refsB_iter (kvs : List (Int × AV)) (seen : List Int) : refsB (.iter kvs seen) = [] := rfl

def renB (off : Nat) : Blk → Blk
  | .cells e s rows => .cells e s (rows.map (renL off))
  | .map kvs => .map kvs
  | .iter kvs seen => .iter kvs seen
  | .cap id s N => .cap (id + off) s N
  | .pin id g t n => .pin (id + off) g t n

def renH (off : Nat) (H : List (Nat × Blk)) : List (Nat × Blk) := H.map fun p => (p.1 + off, renB off p.2)

theorem BlkOK.ren {μ μ' : Nat → Option Nat} {S : Nat → Prop} {w : World} {id : Nat} {b : Blk} (off : Nat) (h : BlkOK μ S w id b) (hn : μ id = none → μ' (id + off) = none) (hs : ∀ g, μ id = some g → μ' (id + off) = some g)
    (hm : ∀ i, i ∈ refsB b → ∀ g, μ i = some g → μ' (i + off) = some g) : BlkOK μ' S w (id + off) (renB off b) := by
  cases b with
  | cells e s rows =>
    rcases h with ⟨rfl, h2⟩ | ⟨g, c, h1, h2, h3, h4, h5⟩
    · exact .inl ⟨rfl, hn h2⟩
    · refine .inr ⟨g, c, hs g h1, h2, by simpa using h3, fun row hrow => ?_, fun i row hi j x hx => ?_⟩
      · obtain ⟨r, hr, rfl⟩ := List.mem_map.1 hrow
        rw [renL_map, List.length_map]; exact h4 r hr
      · rw [List.getElem?_map] at hi
        cases e1 : rows[i]? with
        | none => rw [e1] at hi; cases hi
        | some r =>
          rw [e1] at hi; simp only [Option.map_some, Option.some.injEq] at hi; subst hi
          rw [renL_map, List.getElem?_map] at hx
          cases e2 : r[j]? with
          | none => rw [e2] at hx; cases hx
          | some y =>
            rw [e2] at hx; simp only [Option.map_some, Option.some.injEq] at hx; subst hx
            exact (h5 i r e1 j y e2).ren off (fun i hi => hm i (List.mem_flatMap.2 ⟨r, List.mem_of_getElem? e1, refsL_mem e2 hi⟩))
  | map kvs =>
    obtain ⟨g, es, clk, vals, h1, h2, h3, h4⟩ := h
    exact ⟨g, es, clk, vals, hs g h1, h2, h3, h4⟩
  | iter kvs seen =>
    obtain ⟨g, es, clk, vals, had, h1, h2, h4⟩ := h
    exact ⟨g, es, clk, vals, had, hs g h1, h2, h4⟩
  | cap id' s N =>
    obtain ⟨h1, g, e, h2, h3⟩ := h
    exact ⟨hn h1, g, e, hm id' (by simp) g h2, h3⟩
  | pin id' g t n =>
    obtain ⟨h1, h2, h3⟩ := h
    exact ⟨hn h1, hm id' (by simp) g h2, h3⟩

theorem BlkOK.less {μ μ' : Nat → Option Nat} {S : Nat → Prop} {w : World} {id : Nat} {b : Blk} (h : BlkOK μ S w id b) (he : μ' id = μ id) (hm : ∀ i, i ∈ refsB b → ∀ g, μ i = some g → μ' i = some g) : BlkOK μ' S w id b := by
  cases b with
  | cells e s rows =>
    rcases h with ⟨rfl, h2⟩ | ⟨g, c, h1, h2, h3, h4, h5⟩
    · exact .inl ⟨rfl, he.trans h2⟩
    · exact .inr ⟨g, c, he.trans h1, h2, h3, h4, fun i row hi j x hx => (h5 i row hi j x hx).less (fun k hk => hm k (List.mem_flatMap.2 ⟨row, List.mem_of_getElem? hi, refsL_mem hx hk⟩))⟩
  | map kvs =>
    obtain ⟨g, es, clk, vals, h1, h2, h3, h4⟩ := h
    exact ⟨g, es, clk, vals, he.trans h1, h2, h3, h4⟩
  | iter kvs seen =>
    obtain ⟨g, es, clk, vals, had, h1, h2, h4⟩ := h
    exact ⟨g, es, clk, vals, had, he.trans h1, h2, h4⟩
  | cap id' s N =>
    obtain ⟨h1, g, e, h2, h3⟩ := h
    exact ⟨he.trans h1, g, e, hm id' (by simp) g h2, h3⟩
  | pin id' g t n =>
    obtain ⟨h1, h2, h3⟩ := h
    exact ⟨he.trans h1, hm id' (by simp) g h2, h3⟩

def sub (ids : List Nat) : List (Nat × Blk) → List (Nat × Blk)
  | [] => []
  | p :: r => if ids.contains p.1 then p :: sub ids r else sub ids r
def del (ids : List Nat) : List (Nat × Blk) → List (Nat × Blk)
  | [] => []
  | p :: r => if ids.contains p.1 then del ids r else p :: del ids r

theorem hget_sub (ids : List Nat) (id : Nat) : ∀ H, hget (sub ids H) id = if ids.contains id = true then hget H id else none
  | [] => by simp [sub, hget]
  | (i, b) :: r => by
    have ih := hget_sub ids id r
    unfold sub
    by_cases e : i = id
    · subst e
      by_cases h : ids.contains i = true
      · rw [if_pos h, if_pos h]; simp only [hget, if_true]
      · rw [if_neg h, if_neg h, ih, if_neg h]
    · by_cases h : ids.contains i = true
      · rw [if_pos h]; simp only [hget, if_neg e]; exact ih
      · rw [if_neg h]; simp only [hget, if_neg e]; exact ih

theorem hget_del (ids : List Nat) (id : Nat) : ∀ H, hget (del ids H) id = if ids.contains id = true then none else hget H id
  | [] => by simp [del, hget]
  | (i, b) :: r => by
    have ih := hget_del ids id r
    unfold del
    by_cases e : i = id
    · subst e
      by_cases h : ids.contains i = true
      · rw [if_pos h, ih, if_pos h, if_pos h]
      · rw [if_neg h, if_neg h]; simp only [hget, if_true]
    · by_cases h : ids.contains i = true
      · rw [if_pos h]; simp only [hget, if_neg e]; exact ih
      · rw [if_neg h]; simp only [hget, if_neg e]; exact ih

theorem hget_renH (off id : Nat) : ∀ H, hget (renH off H) id = if off ≤ id then (hget H (id - off)).map (renB off) else none
  | [] => by simp [renH, hget]
  | (i, b) :: r => by
    have ih := hget_renH off id r
    simp only [renH, List.map_cons, hget] at ih ⊢
    by_cases h : i + off = id
    · subst h
      simp
    · rw [if_neg h, ih]
      by_cases h2 : off ≤ id
      · rw [if_pos h2, if_pos h2, if_neg (by omega)]
      · rw [if_neg h2, if_neg h2]

def killL (ids : List Nat) (x : AV) : AV := if (refs x).any ids.contains then .any else x

/-- a heap that names none but its own, and what is handed on -/
def closed (K : List (Nat × Blk)) (xs : List Nat) : Bool := xs.all (fun i => (hget K i).isSome) && K.all fun p => (refsB p.2).all fun i => (hget K i).isSome

theorem hget_mem : ∀ {H : List (Nat × Blk)} {id : Nat} {b : Blk}, hget H id = some b → (id, b) ∈ H
  | (i, c) :: r, id, b, h => by
    simp only [hget] at h
    split at h
    · rename_i e; subst e; injection h with h; subst h; simp
    · exact List.mem_cons_of_mem _ (hget_mem h)

/-- THE GENERAL CALL: what 'ids' name is handed over; what 'K' names comes back, under numbers that are 'off' greater. -/
theorem trip_callG {o : Oper} {c : Operand} {args : Array Operand} {ats : Array TypeId} (ho : o.op = .call { callee := .value c, args, argTypes := ats }) {p : Prop} {f : FuncId} {xs : List AV}
    (h : callArgs σ c args.toList = some (p, f, xs)) (hp : p) (hc : Callable P f) (ids : List Nat) (off : Nat) {H K : List (Nat × Blk)} {r : AV} (hH : sub ids σ.hp = H)
    (hck : (refsL xs).all ids.contains = true) (hc1 : (H.all fun p => (refsB p.2).all ids.contains) = true) (hc2 : ((del ids σ.hp).all fun p => (refsB p.2).all fun i => !ids.contains i) = true)
    (hc3 : closed K (refs r) = true) (hc4 : (K.all fun p => (hget σ.hp (p.1 + off)).isNone) = true)
    (hf : FnOK P f xs H fun r' H' => r' = r ∧ ∀ id b, hget K id = some b → hget H' id = some b) {τ : St} (hτ : (⟨σ.tm.map (killL ids), renH off K ++ del ids σ.hp⟩ : St).put o.dst (ren off r) = τ) : Trip P C o σ τ := by
  subst hH hτ
  intro a w Kp Q ⟨μ, S, hi⟩ hKp
  obtain ⟨vs, h1, h2, h3⟩ := exec_call hi ho h hp hc
  unfold Oper.wp
  rw [h3]
  let μc : Nat → Option Nat := fun i => if ids.contains i then μ i else none
  have mc : ∀ {i g}, μc i = some g → ids.contains i = true ∧ μ i = some g := fun {i g} h => by
    simp only [μc] at h; split at h
    · exact ⟨by assumption, h⟩
    · cases h
  have mc' : ∀ {i}, ids.contains i = true → μc i = μ i := fun {i} h => by simp only [μc, h, if_true]
  rw [Bool.eq_iff_iff] at hck
  have hck := fun i hi => List.all_eq_true.1 (hck.2 rfl) i hi
  refine (hf S μc w vs h1 (fun j x hj => (h2 j x hj).less fun id hid g hg => by rw [mc' (hck id (refsL_mem hj hid))]; exact hg) ⟨fun id b hb => ?_, fun id g hg => ?_, fun id id' g hg hg' => hi.inj id id' g (mc hg).2 (mc hg').2, hi.gok.sub fun i g h => ⟨i, (mc h).2⟩⟩ (fun b hb => (hi.sb b hb).1)).mono ?_
  · have hb' := hb
    rw [hget_sub] at hb
    split at hb
    · rename_i hid
      have hall := List.all_eq_true.1 hc1 _ (hget_mem hb')
      exact (hi.hp id b hb).less (mc' hid) (fun i hi' g hg => by rw [mc' (List.all_eq_true.1 hall i hi')]; exact hg)
    · cases hb
  · obtain ⟨k1, k2⟩ := mc hg
    obtain ⟨⟨b, j1⟩, _, j3⟩ := hi.dom id g k2
    exact ⟨⟨b, by rw [hget_sub, if_pos k1]; exact j1⟩, j3⟩
  rintro e w' ⟨v, r', H', μ', S', rfl, ⟨rfl, hKH⟩, k1, k2, k3, k4, k5⟩
  simp only [closed, Bool.and_eq_true] at hc3
  obtain ⟨hr, hcl⟩ := hc3
  have hr : ∀ i, i ∈ refs r' → ∃ b, hget K i = some b := fun i hi => Option.isSome_iff_exists.1 (List.all_eq_true.1 hr i hi)
  have hcl : ∀ i b, hget K i = some b → ∀ j, j ∈ refsB b → ∃ c, hget K j = some c := fun i b hb j hj => Option.isSome_iff_exists.1 (List.all_eq_true.1 (List.all_eq_true.1 hcl _ (hget_mem hb)) j hj)
  have hfree : ∀ i b, hget K i = some b → hget σ.hp (i + off) = none := fun i b hb => by
    have := List.all_eq_true.1 hc4 _ (hget_mem hb)
    simpa using this
  let μ2 : Nat → Option Nat := fun i => if off ≤ i ∧ (hget K (i - off)).isSome = true then μ' (i - off) else if ids.contains i then none else μ i
  have m2K : ∀ {i b}, hget K i = some b → μ2 (i + off) = μ' i := fun {i b} hb => by
    simp only [μ2]; rw [if_pos ⟨by omega, by rw [Nat.add_sub_cancel, hb]; rfl⟩, Nat.add_sub_cancel]
  have m2o : ∀ {i b}, hget σ.hp i = some b → ids.contains i = false → μ2 i = μ i := fun {i b} hb hn => by
    simp only [μ2]
    rw [if_neg (by
      rintro ⟨q1, q2⟩
      obtain ⟨b', q3⟩ := Option.isSome_iff_exists.1 q2
      have := hfree _ _ q3
      rw [Nat.sub_add_cancel q1, hb] at this
      cases this), hn]
    rfl
  have m2 : ∀ {i g}, μ2 i = some g → (∃ j b, i = j + off ∧ hget K j = some b ∧ μ' j = some g) ∨ (ids.contains i = false ∧ μ i = some g ∧ ∃ b, hget σ.hp i = some b) := fun {i g} hg => by
    simp only [μ2] at hg
    split at hg
    · rename_i q
      obtain ⟨b, q3⟩ := Option.isSome_iff_exists.1 q.2
      exact .inl ⟨i - off, b, by omega, q3, hg⟩
    · split at hg
      · cases hg
      · rename_i q
        exact .inr ⟨by simpa using q, hg, (hi.dom i g hg).1⟩
  have hfr : Frm (fun g => ∃ id, μc id = some g) w w' := k3
  have hS : SameOn S w w' := fun b hb => hfr.block b (hi.sb b hb).1 (by rintro ⟨id, h⟩; exact (hi.dom id b (mc h).2).2.2.1 hb)
  have hO : ∀ i g, μ i = some g → ids.contains i = false → w'.heap[g]? = w.heap[g]? := fun i g hg hn => hfr.block g (hi.dom i g hg).2.2.2 (by
    rintro ⟨id, h⟩
    obtain ⟨q1, q2⟩ := mc h
    have := hi.inj _ _ _ hg q2
    subst this
    rw [q1] at hn; cases hn)
  let S2 : Nat → Prop := fun b => S b ∨ S' b
  -- a value of ours that names nothing of 'ids'
  have rdO : ∀ {v x}, Rd μ S w v x → (∀ i, i ∈ refs x → ids.contains i = false) → Rd μ2 S2 w' v x := fun {v x} hv hn => by
    have h1 : Rd (fun i => if ids.contains i then none else μ i) S w v x := hv.less (fun i hi g hg => by rw [hn i hi]; exact hg)
    refine h1.mono hS (fun _ h => .inl h) (fun i g hg => ?_) (fun i g hg => ?_)
    · split at hg
      · cases hg
      · rename_i q
        have q : ids.contains i = false := by simpa using q
        obtain ⟨⟨b, hb⟩, _⟩ := hi.dom i g hg
        rw [m2o hb q]; exact hg
    · split at hg
      · cases hg
      · rename_i q
        exact rowSize_same (hO i g hg (by simpa using q))
  have inv : Inv C μ2 S2 ⟨σ.tm.map (killL ids), renH off K ++ del ids σ.hp⟩ a w' := by
    refine ⟨by simp [hi.size], hi.defers, fun t x hx => ?_, fun id b hb => ?_, fun i g hg => ?_, fun i j g hg hg' => ?_, hi.frm.step _ hfr (fun g ⟨id, h⟩ => (hi.dom id g (mc h).2).2.1), fun b hb => ?_⟩
    · simp only [List.getElem?_map] at hx
      cases e : σ.tm[t]? with
      | none => rw [e] at hx; cases hx
      | some y =>
        rw [e] at hx
        simp only [Option.map_some, Option.some.injEq] at hx
        subst hx
        unfold killL
        split
        · exact .any _
        · rename_i q
          refine rdO (hi.tm t y e) (fun i hi' => ?_)
          simp only [List.any_eq_true, not_exists, not_and] at q
          simpa using q i hi'
    · simp only at hb
      rw [hget_append] at hb
      split at hb
      · rw [hget_renH] at hb
        split at hb
        · rename_i q
          cases e : hget K (id - off) with
          | none => rw [e] at hb; cases hb
          | some b0 =>
            rw [e] at hb
            simp only [Option.map_some, Option.some.injEq] at hb
            subst hb
            obtain ⟨j, rfl⟩ : ∃ j, id = j + off := ⟨id - off, by omega⟩
            rw [Nat.add_sub_cancel] at e
            have := (k2.blk j b0 (hKH j b0 e)).ren off (μ' := μ2) (fun h => by rw [m2K e]; exact h) (fun g h => by rw [m2K e]; exact h) (fun i hi' g hg => by
              obtain ⟨c, hc'⟩ := hcl j b0 e i hi'
              rw [m2K hc']; exact hg)
            exact this.mono (SameOn.refl _ _) (fun _ h => .inr h) (fun _ _ h => h) (fun _ _ _ => rfl) (fun h => h) (fun _ _ => rfl)
        · cases hb
      · rename_i hnK
        rw [hget_del] at hb
        split at hb
        · cases hb
        · rename_i q
          have q : ids.contains id = false := by simpa using q
          have hall := List.all_eq_true.1 hc2 (id, b) (hget_mem (by rw [hget_del, if_neg (by rw [q]; simp)]; exact hb))
          have h1 := (hi.hp id b hb).less (μ' := fun i => if ids.contains i then none else μ i) (by rw [q]; rfl) (fun i hi' g hg => by
            have := List.all_eq_true.1 hall i hi'
            rw [if_neg (by simpa using this)]; exact hg)
          refine h1.mono hS (fun _ h => .inl h) (fun i g hg => ?_) (fun i g hg => ?_) (fun hn => ?_) (fun g hg => ?_)
          · split at hg
            · cases hg
            · rename_i q'
              obtain ⟨⟨b', hb'⟩, _⟩ := hi.dom i g hg
              rw [m2o hb' (by simpa using q')]; exact hg
          · split at hg
            · cases hg
            · rename_i q'
              exact rowSize_same (hO i g hg (by simpa using q'))
          · rw [m2o hb q]; rw [q] at hn; exact hn
          · rw [q] at hg
            exact hO id g hg q
    · rcases m2 hg with ⟨j, b, rfl, q1, q2⟩ | ⟨q1, q2, b, q3⟩
      · obtain ⟨_, q4, q5⟩ := k2.dom j g q2
        refine ⟨⟨renB off b, ?_⟩, ?_, ?_, q5⟩
        · have e : hget (renH off K) (j + off) = some (renB off b) := by rw [hget_renH, if_pos (by omega), Nat.add_sub_cancel, q1]; rfl
          rw [hget_append, if_pos ⟨_, hget_mem e, rfl⟩, e]
        · rcases k4 j g q2 with ⟨i, hi'⟩ | h
          · exact (hi.dom i g (mc hi').2).2.1
          · have := hi.frm.size
            exact .inr (by omega)
        · rintro (h | h)
          · rcases k4 j g q2 with ⟨i, hi'⟩ | h'
            · exact (hi.dom i g (mc hi').2).2.2.1 h
            · have := (hi.sb g h).1; omega
          · exact q4 h
      · obtain ⟨_, q4, q5, q6⟩ := hi.dom i g q2
        refine ⟨⟨b, ?_⟩, q4, ?_, Nat.lt_of_lt_of_le q6 hfr.size⟩
        · rw [hget_append, if_neg, hget_del, if_neg (by rw [q1]; simp)]
          · exact q3
          · rintro ⟨⟨i', b'⟩, hm, rfl⟩
            obtain ⟨⟨j, c'⟩, hm', e⟩ := List.mem_map.1 hm
            simp only [Prod.mk.injEq] at e
            have := List.all_eq_true.1 hc4 _ hm'
            simp only at this
            rw [e.1] at this
            simp only at q3
            rw [q3] at this
            cases this
        · rintro (h | h)
          · exact q5 h
          · rcases (k5 g h).2 with h | ⟨i', h⟩ | h
            · exact q5 h
            · obtain ⟨q7, q8⟩ := mc h
              have := hi.inj _ _ _ q2 q8
              subst this
              rw [q7] at q1; cases q1
            · omega
    · rcases m2 hg with ⟨i1, b1, rfl, p1, p2⟩ | ⟨p1, p2, b1, p3⟩ <;> rcases m2 hg' with ⟨j1, c1, rfl, q1, q2⟩ | ⟨q1, q2, c1, q3⟩
      · rw [k2.inj _ _ _ p2 q2]
      · rcases k4 i1 g p2 with ⟨i', h⟩ | h
        · obtain ⟨q7, q8⟩ := mc h
          have := hi.inj _ _ _ q2 q8
          subst this
          rw [q7] at q1; cases q1
        · have := (hi.dom _ _ q2).2.2.2; omega
      · rcases k4 j1 g q2 with ⟨i', h⟩ | h
        · obtain ⟨q7, q8⟩ := mc h
          have := hi.inj _ _ _ p2 q8
          subst this
          rw [q7] at p1; cases p1
        · have := (hi.dom _ _ p2).2.2.2; omega
      · exact hi.inj _ _ _ p2 q2
    · rcases hb with h | h
      · exact ⟨Nat.lt_of_lt_of_le (hi.sb b h).1 hfr.size, (hi.sb b h).2⟩
      · refine ⟨(k5 b h).1, ?_⟩
        rcases (k5 b h).2 with h | ⟨i', h⟩ | h
        · exact (hi.sb b h).2
        · rcases (hi.dom _ _ (mc h).2).2.1 with h | h
          · exact .inr (.inl h)
          · exact .inr (.inr h)
        · have := hi.frm.size
          exact .inr (.inr (by omega))
  exact hKp _ _ ⟨μ2, S2, inv.put o.dst ((k1.ren off (fun i hi' g hg => by
    obtain ⟨b, hb⟩ := hr i hi'
    rw [m2K hb]; exact hg)).mono (SameOn.refl _ _) (fun _ h => .inr h) (fun _ _ h => h) (fun _ _ _ => rfl))⟩

end
end Go.Eng

namespace Go.Eng
section
variable {P : Program} {T : Tab} {C : Ctx} {σ σ' : St} {Ret : St → Prop} {k : List It}

/-- A SLICE HELD AGAINST nil: whichever it is, an empty one alone can be nil. -/
theorem cw_nileq (hT : TabOK P T) {all : Array Oper} {o : Oper} {l : List Oper} {t : TypeId} {x y : Operand} {ty e : TypeId} {rows : List (List AV)} (ho : o.op = .binOp .eql t x y ty) (hg : o.guard = none) (ht : T.und t = .sl e)
    (hx : evS σ x = (True, .sl rows)) (hy : evS σ y = (True, .nils)) (h : ∀ b, (b = true → rows = []) → Cw P C Ret (.ops all l :: k) (σ.put o.dst (.bool b))) : Cw P C Ret (.ops all (o :: l) :: k) σ := by
  intro a w ⟨μ, S, hi⟩
  have hv := hi.evS x (by rw [hx]; trivial)
  have hu := hi.evS y (by rw [hy]; trivial)
  rw [hx] at hv; rw [hy] at hu
  obtain ⟨A, cap, size, g, off, vals, e1, hc, hs', hA, hcell, hr⟩ := hv.inv_sl.inv_sl
  have e2 := hu.inv_nils
  have hty : P.underlying t = some (.slice e) := by have := hT.und t; rw [ht] at this; exact this
  show wpList P all _ (o :: l) a w
  unfold wpList
  rw [wanted_of hi (show guardOf all σ o.guard = some true from by rw [hg]; rfl)]
  refine .inl ?_
  unfold Oper.wp
  have hrun : (execOp a.eval o).run P w = .ok (.value (.bool A.isNone)) w := by
    simp only [execOp, ho, e1, e2, eqGuard_at_slice, pure_bind, Sem.run_bind, Lib.run_eql_slice_nil w t e A rows.length cap 0 0 hty, Result.andThen_ok]
    rfl
  rw [hrun]
  refine h A.isNone (fun hb => ?_) _ _ ⟨μ, S, hi.put o.dst (.pure (.bool _))⟩
  rcases Nat.eq_zero_or_pos rows.length with h0 | h0
  · exact List.eq_nil_of_length_eq_zero h0
  · rw [(hA h0).1] at hb; cases hb

/-! ### Less is said -/

def wk (x y : AV) : Prop := y = .any ∨ x = y ∨ (x = .nils ∧ (y = .sl [] ∨ ∃ id s off, y = .osl id s off 0))

theorem Rd.wk {μ : Nat → Option Nat} {S : Nat → Prop} {w : World} {v : Value} {x y : AV} (h : Rd μ S w v x) (hw : wk x y) : Rd μ S w v y := by
  rcases hw with rfl | rfl | ⟨rfl, rfl | ⟨id, s, off, rfl⟩⟩
  · exact .any v
  · exact h
  · obtain rfl := h.inv_nils
    exact .pure (.sl none 0 0 [] 0 0 0 (fun _ _ => undef) rfl (Nat.le_refl _) (fun row h => by cases h) (fun h => by omega) (fun i j h => by omega) (fun i row h => by simp at h))
  · obtain rfl := h.inv_nils
    exact .osl id s off 0 0 none (Nat.le_refl _) (.inl ⟨rfl, rfl⟩)

theorem FnOK.wk {f : FuncId} {args : List AV} {H : List (Nat × Blk)} {post : AV → List (Nat × Blk) → Prop} (h : FnOK P f args H fun r H' => ∃ r', wk r r' ∧ post r' H') : FnOK P f args H post :=
  fun R0 μ w0 vs hl ha hH hR => (h R0 μ w0 vs hl ha hH hR).mono fun _ _ ⟨v, _, H', μ', S', h1, ⟨r', h2, h3⟩, h4, h5⟩ => ⟨v, r', H', μ', S', h1, h3, h4.wk h2, h5⟩

/-- A CONTRACT OUT OF A WALK. -/
theorem fn_of_cwW (hT : TabOK P T) {f : FuncId} {fn : Func} {c : Code} {args : List AV} {H : List (Nat × Blk)} {post : AV → List (Nat × Blk) → Prop}
    (hf : P.funcs[f]? = some fn) (hb : fn.body = some c)
    (h : ∀ C : Ctx, Cw P C (fun s => ∃ p r, resAV T s fn.results.toList = some (p, r) ∧ p ∧ ∃ r', Eng.wk r r' ∧ post r' s.hp) [.code c] ⟨args ++ List.replicate (fn.ntmps - args.length) .any, H⟩) : FnOK P f args H post :=
  .wk (fn_of_cw hT hf hb h)

def leWk : List AV → List AV → Prop
  | [], [] => True
  | x :: l, y :: m => wk x y ∧ leWk l m
  | _, _ => False

theorem leWk_get : ∀ {l m : List AV}, leWk l m → l.length = m.length ∧ ∀ (t : Nat) y, m[t]? = some y → ∃ x, l[t]? = some x ∧ wk x y
  | [], [], _ => ⟨rfl, fun t y h => by simp at h⟩
  | x :: l, y :: m, h => by
    obtain ⟨h1, h2⟩ := leWk_get h.2
    refine ⟨by simp [h1], fun t z hz => ?_⟩
    cases t with
    | zero =>
      simp only [List.getElem?_cons_zero, Option.some.injEq] at hz
      subst hz
      exact ⟨x, rfl, h.1⟩
    | succ t => simpa using h2 t z (by simpa using hz)
  | [], _ :: _, h => h.elim
  | _ :: _, [], h => h.elim

def emptyB : Blk → Prop
  | .cells _ _ rows => rows = []
  | .map _ => False
  | .iter .. => False
  | .cap .. => False
  | .pin .. => False

def subH (H : List (Nat × Blk)) : List (Nat × Blk) → Prop
  | [] => True
  | (i, b) :: r => (hget H i = some b ∨ (hget H i = none ∧ emptyB b)) ∧ subH H r

theorem subH_get {H : List (Nat × Blk)} : ∀ {K : List (Nat × Blk)} {i : Nat} {b : Blk}, subH H K → hget K i = some b → hget H i = some b ∨ (hget H i = none ∧ emptyB b)
  | (j, c) :: r, i, b, h, hb => by
    simp only [hget] at hb
    split at hb
    · rename_i e; subst e; injection hb with hb; subst hb; exact h.1
    · exact subH_get h.2 hb

/-- LESS IS SAID: slots are forgotten, blocks let go, a nil slice is one of a block that is to come. -/
theorem le_sub {l m : List AV} {H K : List (Nat × Blk)} (h : leWk l m) (hK : subH H K) (hc : closed K (refsL m) = true) : Le C ⟨l, H⟩ ⟨m, K⟩ := by
  intro a w ⟨μ, S, hi⟩
  obtain ⟨h1, h2⟩ := leWk_get h
  simp only [closed, Bool.and_eq_true] at hc
  have hr : ∀ i, i ∈ refsL m → (hget K i).isSome = true := fun i hi => List.all_eq_true.1 hc.1 i hi
  have hcl : ∀ i b, hget K i = some b → ∀ j, j ∈ refsB b → (hget K j).isSome = true := fun i b hb j hj => List.all_eq_true.1 (List.all_eq_true.1 hc.2 _ (hget_mem hb)) j hj
  let μ2 : Nat → Option Nat := fun i => if (hget K i).isSome = true then μ i else none
  have m2 : ∀ {i g}, μ2 i = some g → μ i = some g ∧ (hget K i).isSome = true := fun {i g} hg => by
    simp only [μ2] at hg; split at hg
    · exact ⟨hg, by assumption⟩
    · cases hg
  refine ⟨μ2, S, by rw [hi.size]; exact h1, hi.defers, fun t y hy => ?_, fun i b hb => ?_, fun i g hg => ?_, fun i j g hg hg' => hi.inj i j g (m2 hg).1 (m2 hg').1, hi.frm, hi.sb⟩
  · obtain ⟨x, hx, hw⟩ := h2 t y hy
    refine ((hi.tm t x hx).wk hw).less fun i hi' g hg => ?_
    simp only [μ2]; rw [if_pos (hr i (refsL_mem hy hi'))]; exact hg
  · rcases subH_get hK hb with h | ⟨h, he⟩
    · refine (hi.hp i b h).less (by simp only [μ2]; rw [hb]; rfl) fun j hj g hg => ?_
      simp only [μ2]; rw [if_pos (hcl i b hb j hj)]; exact hg
    · cases b with
      | cells e s rows =>
        refine .inl ⟨he, ?_⟩
        simp only [μ2]; rw [hb]
        cases e : μ i with
        | none => rfl
        | some g =>
          obtain ⟨⟨c, h'⟩, _⟩ := hi.dom i g e
          simp only at h'
          rw [h] at h'; cases h'
      | map kvs => exact he.elim
      | iter kvs seen => exact he.elim
      | cap id' s N => exact he.elim
      | pin id' g' t n => exact he.elim
  · obtain ⟨k1, k2⟩ := m2 hg
    obtain ⟨_, k3⟩ := hi.dom i g k1
    exact ⟨Option.isSome_iff_exists.1 k2, k3⟩

/-! ### What is held is written no more -/

mutual
def frz (id s : Nat) (rows : List (List AV)) : AV → AV
  | .osl i s' off len => if i = id then (if s' = s ∧ off + len ≤ rows.length then .sl ((rows.drop off).take len) else .any) else .osl i s' off len
  | .ptr i s' row off => if i = id then (if s' = s ∧ row < rows.length then .rp (rows.getD row []) off else .any) else .ptr i s' row off
  | .mp i => if i = id then .any else .mp i
  | .exs i s' o n c => if i = id then .any else .exs i s' o n c
  | .agg cells => .agg (frzL id s rows cells)
  | .tup vs => .tup (frzL id s rows vs)
  | .fn f caps => .fn f (frzL id s rows caps)
  | .cnd c v => .cnd c (frz id s rows v)
  | x => x
def frzL (id s : Nat) (rows : List (List AV)) : List AV → List AV
  | [] => []
  | x :: r => frz id s rows x :: frzL id s rows r
end

theorem frzL_map (id s : Nat) (rows : List (List AV)) : ∀ l, frzL id s rows l = l.map (frz id s rows)
  | [] => rfl
  | x :: r => by simp [frzL, frzL_map id s rows r]

def frzH (id s : Nat) (rows : List (List AV)) : List (Nat × Blk) → List (Nat × Blk)
  | [] => []
  | (i, .cells e z R) :: r => if i = id then frzH id s rows r else (i, .cells e z (R.map (frzL id s rows))) :: frzH id s rows r
  | (i, .map kvs) :: r => if i = id then frzH id s rows r else (i, .map kvs) :: frzH id s rows r
  | (i, .iter kvs seen) :: r => if i = id then frzH id s rows r else (i, .iter kvs seen) :: frzH id s rows r
  | (i, .cap j z N) :: r => if i = id then frzH id s rows r else (i, if j = id then .cells 0 0 [] else .cap j z N) :: frzH id s rows r
  | (i, .pin j g z N) :: r => if i = id then frzH id s rows r else (i, if j = id then .cells 0 0 [] else .pin j g z N) :: frzH id s rows r

def frzB (id s : Nat) (rows : List (List AV)) : Blk → Blk
  | .cells e z R => .cells e z (R.map (frzL id s rows))
  | .map kvs => .map kvs
  | .iter kvs seen => .iter kvs seen
  | .cap j z N => if j = id then .cells 0 0 [] else .cap j z N
  | .pin j g z N => if j = id then .cells 0 0 [] else .pin j g z N

theorem hget_frzH (id s : Nat) (rows : List (List AV)) (i : Nat) : ∀ H, hget (frzH id s rows H) i = if i = id then none else (hget H i).map (frzB id s rows)
  | [] => by simp [frzH, hget]
  | (j, .cells e z R) :: r => by
    have ih := hget_frzH id s rows i r
    unfold frzH
    by_cases h : j = id
    · subst h
      rw [if_pos rfl, ih]
      by_cases h2 : i = j
      · rw [if_pos h2, if_pos h2]
      · rw [if_neg h2, if_neg h2]; simp only [hget]; rw [if_neg (fun h => h2 h.symm)]
    · rw [if_neg h]
      simp only [hget]
      by_cases h2 : j = i
      · subst h2; rw [if_pos rfl, if_neg h, if_pos rfl]; rfl
      · rw [if_neg h2, if_neg h2]; exact ih
  | (j, .map kvs) :: r => by
    have ih := hget_frzH id s rows i r
    unfold frzH
    by_cases h : j = id
    · subst h
      rw [if_pos rfl, ih]
      by_cases h2 : i = j
      · rw [if_pos h2, if_pos h2]
      · rw [if_neg h2, if_neg h2]; simp only [hget]; rw [if_neg (fun h => h2 h.symm)]
    · rw [if_neg h]
      simp only [hget]
      by_cases h2 : j = i
      · subst h2; rw [if_pos rfl, if_neg h, if_pos rfl]; rfl
      · rw [if_neg h2, if_neg h2]; exact ih
  | (j, .iter kvs seen) :: r => by
    have ih := hget_frzH id s rows i r
    unfold frzH
    by_cases h : j = id
    · subst h
      rw [if_pos rfl, ih]
      by_cases h2 : i = j
      · rw [if_pos h2, if_pos h2]
      · rw [if_neg h2, if_neg h2]; simp only [hget]; rw [if_neg (fun h => h2 h.symm)]
    · rw [if_neg h]
      simp only [hget]
      by_cases h2 : j = i
      · subst h2; rw [if_pos rfl, if_neg h, if_pos rfl]; rfl
      · rw [if_neg h2, if_neg h2]; exact ih
  | (j, .cap k z N) :: r => by
    have ih := hget_frzH id s rows i r
    unfold frzH
    by_cases h : j = id
    · subst h
      rw [if_pos rfl, ih]
      by_cases h2 : i = j
      · rw [if_pos h2, if_pos h2]
      · rw [if_neg h2, if_neg h2]; simp only [hget]; rw [if_neg (fun h => h2 h.symm)]
    · rw [if_neg h]
      simp only [hget]
      by_cases h2 : j = i
      · subst h2; rw [if_pos rfl, if_neg h, if_pos rfl]; rfl
      · rw [if_neg h2, if_neg h2]; exact ih
  | (j, .pin k q z N) :: r => by
    have ih := hget_frzH id s rows i r
    unfold frzH
    by_cases h : j = id
    · subst h
      rw [if_pos rfl, ih]
      by_cases h2 : i = j
      · rw [if_pos h2, if_pos h2]
      · rw [if_neg h2, if_neg h2]; simp only [hget]; rw [if_neg (fun h => h2 h.symm)]
    · rw [if_neg h]
      simp only [hget]
      by_cases h2 : j = i
      · subst h2; rw [if_pos rfl, if_neg h, if_pos rfl]; rfl
      · rw [if_neg h2, if_neg h2]; exact ih

theorem RdP.frz_eq {S : Nat → Prop} {w : World} {v : Value} {x : AV} (h : RdP S w v x) (id s : Nat) (rows : List (List AV)) : frz id s rows x = x := by
  have key : ∀ (l : List AV), (∀ (j : Nat) x, l[j]? = some x → frz id s rows x = x) → frzL id s rows l = l := by
    intro l
    induction l with
    | nil => intro _; rfl
    | cons y r ih =>
      intro h
      simp only [frzL]
      rw [h 0 y rfl, ih (fun j x hj => h (j + 1) x (by simpa using hj))]
  induction h with
  | fn f vals caps hl hr ih => simp only [frz]; rw [key caps ih]
  | agg cs cells hl hr ih => simp only [frz]; rw [key cells ih]
  | _ => rfl

theorem frz_list {id s : Nat} {rows : List (List AV)} {R' : Value → AV → Prop} {vals : Nat → Value} {cells : List AV} (h : ∀ j x, cells[j]? = some x → R' (vals j) (frz id s rows x)) :
    ∀ j x, (frzL id s rows cells)[j]? = some x → R' (vals j) x := by
  intro j x hx
  rw [frzL_map, List.getElem?_map] at hx
  cases e : cells[j]? with
  | none => rw [e] at hx; cases hx
  | some y =>
    rw [e] at hx; simp only [Option.map_some, Option.some.injEq] at hx; subst hx
    exact h j y e

/-- WHAT IS HELD UNDER A NUMBER IS WRITTEN NO MORE. -/
theorem inv_freeze {l : List AV} {H : List (Nat × Blk)} {id e s : Nat} {rows : List (List AV)} (hb : hget H id = some (.cells e s rows)) (hp : (rows.all fun row => row.all AV.pureB) = true) {μ : Nat → Option Nat} {S : Nat → Prop} {a : Act} {w : World} (hi : Inv C μ S ⟨l, H⟩ a w) :
    Inv C (upd μ id none) (fun b => S b ∨ μ id = some b) ⟨l.map (frz id s rows), frzH id s rows H⟩ a w := by
  have hB := hi.hp id _ hb
  have hpure : ∀ (i : Nat) row, rows[i]? = some row → ∀ (j : Nat) x, row[j]? = some x → x.pureB = true := fun i row hi j x hj => List.all_eq_true.1 (List.all_eq_true.1 hp row (List.mem_of_getElem? hi)) x (List.mem_of_getElem? hj)
  let S2 : Nat → Prop := fun b => S b ∨ μ id = some b
  let μ2 : Nat → Option Nat := upd μ id none
  have hS : ∀ b, S b → S2 b := fun b h => .inl h
  have rd : ∀ {v : Value} {x : AV}, Rd μ S w v x → Rd μ2 S2 w v (frz id s rows x) := by
    intro v x h
    induction h with
    | any v => exact .any v
    | pure h => rw [h.frz_eq]; exact .pure (h.mono (SameOn.refl _ _) hS)
    | agg cs cells hl hr ih => simp only [frz]; exact .agg cs _ (by rw [frzL_map, List.length_map]; exact hl) (frz_list (R' := fun v x => Rd μ2 S2 w v x) (vals := fun j => cs.getD j undef) ih)
    | tup cs cells hl hr ih => simp only [frz]; exact .tup cs _ (by rw [frzL_map, List.length_map]; exact hl) (frz_list (R' := fun v x => Rd μ2 S2 w v x) (vals := fun j => cs.getD j undef) ih)
    | fn f vals cells hl hr ih => simp only [frz]; exact .fn f vals _ (by rw [frzL_map, List.length_map]; exact hl) (frz_list (R' := fun v x => Rd μ2 S2 w v x) (vals := fun j => vals.getD j undef) ih)
    | ptr i size row o g hg =>
      simp only [frz]
      split
      · rename_i he
        subst he
        split
        · rename_i hc
          obtain ⟨rfl, hrow⟩ := hc
          rcases hB with ⟨rfl, _⟩ | ⟨g', c, k1, k2, k3, k4, k5⟩
          · simp at hrow
          · rw [hg] at k1; injection k1 with k1; subst k1
            have hr := row_get hrow
            have hlen := k4 _ (List.mem_of_getElem? hr)
            have hlt := row_lt (size := size) hr
            refine .pure (.rp g (row * size) o _ (fun j => c.getD (row * size + j) undef) (.inr hg) (fun j hj => ?_) (fun j x hx => ?_))
            · rw [cell_of k2, Array.getD_eq_getD_getElem?, Array.getElem?_eq_getElem (by omega)]; rfl
            · exact ((k5 _ _ hr j x hx).toP (hpure _ _ hr _ _ hx)).mono (SameOn.refl _ _) hS
        · exact .any _
      · rename_i he
        exact .ptr i size row o g (by simp only [μ2, upd]; rw [if_neg he]; exact hg)
    | osl i size o len cap A hc h =>
      simp only [frz]
      split
      · rename_i he
        subst he
        split
        · rename_i hcond
          obtain ⟨rfl, hle⟩ := hcond
          have hl : ((rows.drop o).take len).length = len := by simp; omega
          rcases h with ⟨rfl, h2⟩ | ⟨g, e', n, h1, rfl, h3, h4⟩
          · exact .pure (.sl A 0 cap _ size 0 0 (fun _ _ => undef) hl hc (fun row h => by simp at h) (fun h => by omega) (fun i j h => by omega) (fun i row h => by simp at h))
          · rcases hB with ⟨_, k2⟩ | ⟨g', c, k1, k2, k3, k4, k5⟩
            · rw [k2] at h1; cases h1
            · rw [k1] at h1; injection h1 with h1; subst h1
              refine .pure (.sl _ len cap _ size g' (o * size) (fun i j => c.getD ((o + i) * size + j) undef) hl hc (fun row h => k4 row (List.mem_of_mem_drop (List.mem_of_mem_take h))) (fun _ => ⟨rfl, .inr k1⟩) (fun i' j hi' hj => ?_) (fun i' row h j x hx => ?_))
              · have hlt : (o + i') * size + size ≤ rows.length * size := by
                  have := Nat.mul_le_mul_right size (show o + i' + 1 ≤ rows.length by omega)
                  rwa [Nat.succ_mul] at this
                rw [show o * size + (i' * size + j) = (o + i') * size + j from by rw [Nat.add_mul]; omega, cell_of k2, Array.getD_eq_getD_getElem?, Array.getElem?_eq_getElem (by omega)]
                rfl
              · rw [List.getElem?_take] at h
                split at h
                · rw [List.getElem?_drop] at h
                  exact ((k5 _ row h j x hx).toP (hpure _ _ h _ _ hx)).mono (SameOn.refl _ _) hS
                · cases h
        · exact .any _
      · rename_i he
        refine .osl i size o len cap A hc ?_
        rcases h with h | ⟨g, e', n, h1, h2, h3, h4⟩
        · exact .inl h
        · exact .inr ⟨g, e', n, by simp only [μ2, upd]; rw [if_neg he]; exact h1, h2, h3, h4⟩
    | mp i g hg =>
      simp only [frz]
      split
      · exact .any _
      · rename_i he
        exact .mp i g (by simp only [μ2, upd]; rw [if_neg he]; exact hg)
    | exs i size o len cap g e n hc hg hr hn =>
      simp only [frz]
      split
      · exact .any _
      · rename_i he
        exact .exs i size o len cap g e n hc (by simp only [μ2, upd]; rw [if_neg he]; exact hg) hr hn
    | cndT v x h ih => exact .cndT v _ ih
    | cndF x => exact .cndF _
  have m2 : ∀ {i g}, μ2 i = some g → i ≠ id ∧ μ i = some g := fun {i g} hg => by
    simp only [μ2, upd] at hg
    split at hg
    · cases hg
    · exact ⟨by assumption, hg⟩
  refine ⟨by simp [hi.size], hi.defers, fun t x hx => ?_, fun i b hb' => ?_, fun i g hg => ?_, fun i j g h1 h2 => hi.inj i j g (m2 h1).2 (m2 h2).2, hi.frm, fun b hb' => ?_⟩
  · simp only [List.getElem?_map] at hx
    cases e : l[t]? with
    | none => rw [e] at hx; cases hx
    | some y =>
      rw [e] at hx
      simp only [Option.map_some, Option.some.injEq] at hx
      subst hx
      exact rd (hi.tm t y e)
  · simp only at hb'
    rw [hget_frzH] at hb'
    split at hb'
    · cases hb'
    · rename_i he
      cases e1 : hget H i with
      | none => rw [e1] at hb'; cases hb'
      | some b0 =>
        rw [e1] at hb'
        simp only [Option.map_some, Option.some.injEq] at hb'
        subst hb'
        have hμ : μ2 i = μ i := by simp only [μ2, upd]; rw [if_neg he]
        have := hi.hp i b0 e1
        cases b0 with
        | cells e' z R =>
          rcases this with ⟨rfl, h2⟩ | ⟨g, c, h1, h2, h3, h4, h5⟩
          · exact .inl ⟨rfl, hμ.trans h2⟩
          · refine .inr ⟨g, c, hμ.trans h1, h2, by simpa using h3, fun row hrow => ?_, fun i' row hi' j x hx => ?_⟩
            · obtain ⟨r, hr, rfl⟩ := List.mem_map.1 hrow
              rw [frzL_map, List.length_map]; exact h4 r hr
            · rw [List.getElem?_map] at hi'
              cases e2 : R[i']? with
              | none => rw [e2] at hi'; cases hi'
              | some r =>
                rw [e2] at hi'; simp only [Option.map_some, Option.some.injEq] at hi'; subst hi'
                exact frz_list (R' := fun v x => Rd μ2 S2 w v x) (vals := fun j => c.getD (i' * z + j) undef) (fun j x hx => rd (h5 i' r e2 j x hx)) j x hx
        | map kvs =>
          obtain ⟨g, es, clk, vals, h1, h2, h3, h4⟩ := this
          exact ⟨g, es, clk, vals, hμ.trans h1, h2, h3, fun p hp' => (h4 p hp').mono (SameOn.refl _ _) hS⟩
        | iter kvs seen =>
          obtain ⟨g, es, clk, vals, had, h1, h2, h4⟩ := this
          obtain ⟨m, k1, k2, k3⟩ := h2.lies
          exact ⟨g, es, clk, vals, had, hμ.trans h1, ⟨⟨m, k1, hS _ k2, k3⟩, h2.map, h2.last, h2.had⟩, fun p hp' => (h4 p hp').mono (SameOn.refl _ _) hS⟩
        | cap k z N =>
          obtain ⟨h1, g, e, h2, h3⟩ := this
          simp only [frzB]
          split
          · exact .inl ⟨rfl, hμ.trans h1⟩
          · rename_i hk
            refine ⟨hμ.trans h1, g, e, ?_, h3⟩
            simp only [upd]
            rw [if_neg hk]; exact h2
        | pin k g z N =>
          obtain ⟨h1, h2, h3⟩ := this
          simp only [frzB]
          split
          · exact .inl ⟨rfl, hμ.trans h1⟩
          · rename_i hk
            refine ⟨hμ.trans h1, ?_, h3⟩
            simp only [upd]
            rw [if_neg hk]; exact h2
  · obtain ⟨k1, k2⟩ := m2 hg
    obtain ⟨⟨b, h1⟩, h2, h3, h4⟩ := hi.dom i g k2
    refine ⟨⟨frzB id s rows b, ?_⟩, h2, ?_, h4⟩
    · simp only at h1 ⊢
      rw [hget_frzH, if_neg k1, h1]; rfl
    · rintro (h | h)
      · exact h3 h
      · exact k1 (hi.inj _ _ _ k2 h)
  · rcases hb' with h | h
    · exact hi.sb b h
    · obtain ⟨_, h2, _, h4⟩ := hi.dom id b h
      exact ⟨h4, .inr h2⟩

theorem le_freeze {l : List AV} {H : List (Nat × Blk)} {id e s : Nat} {rows : List (List AV)} (hb : hget H id = some (.cells e s rows)) (hp : (rows.all fun row => row.all AV.pureB) = true) :
    Le C ⟨l, H⟩ ⟨l.map (frz id s rows), frzH id s rows H⟩ := fun _ _ ⟨_, _, hi⟩ => ⟨_, _, inv_freeze hb hp hi⟩

theorem cw_freeze {l : List AV} {H : List (Nat × Blk)} (id : Nat) {e s : Nat} {rows : List (List AV)} (hb : hget H id = some (.cells e s rows)) (hp : (rows.all fun row => row.all AV.pureB) = true)
    (h : Cw P C Ret k ⟨l.map (frz id s rows), frzH id s rows H⟩) : Cw P C Ret k ⟨l, H⟩ := cw_le (le_freeze hb hp) h
end
end Go.Eng

namespace Go.Eng
section
variable {P : Program} {T : Tab} {C : Ctx} {σ σ' s : St} {Ret : St → Prop}

theorem callArgs_agree {c : Operand} {args : List Operand} (h : ∀ x, x ∈ locsO σ c ++ locsL σ args → AgreeAt σ s x) : callArgs s c args = callArgs σ c args := by
  unfold callArgs
  rw [evS_agree (fun x hx => h x (List.mem_append_left _ hx)), evSL_agree (fun x hx => h x (List.mem_append_right _ hx))]

/-- what a call does in a region -/
def spCall (ops : Array Oper) (σ : St) (o : Oper) (c : Operand) (args : List Operand) (r : AV) : Sp := ⟨o.dst, r, [], locsG ops o.guard ++ (locsO σ c ++ locsL σ args)⟩

theorem spCall_app (ops : Array Oper) (σ : St) (o : Oper) (c : Operand) (args : List Operand) (r : AV) : (spCall ops σ o c args r).app σ = σ.put o.dst r := by simp [Sp.app, spCall]

/-- what holds at every state that agrees -/
theorem rob_trip {ops : Array Oper} {o : Oper} {x : AV} {rd : List Loc} {b : Bool} (hg : guardOf ops σ o.guard = some b) (hg0 : b = true ∨ ∃ y, x = .cnd false y)
    (h : b = true → ∀ s, (∀ l, l ∈ rd → AgreeAt σ s l) → Trip P C o s (s.put o.dst x)) : Rob P C ops o ⟨o.dst, x, [], locsG ops o.guard ++ rd⟩ σ := by
  intro s ha _ a w K Q hr hK
  have hg' : guardOf ops s o.guard = some b := by rw [guard_agree (fun x hx => ha x (List.mem_append_left _ hx))]; exact hg
  obtain ⟨μ, S, hi⟩ := hr
  rw [wanted_of hi hg']
  cases b with
  | true => exact .inl (h rfl s (fun l hl => ha l (List.mem_append_right _ hl)) a w K Q ⟨μ, S, hi⟩ hK)
  | false =>
    rcases hg0 with h | ⟨y, rfl⟩
    · cases h
    · exact hK _ _ ⟨μ, S, hi.put o.dst (.cndF y)⟩

theorem rob_call {ops : Array Oper} {o : Oper} {c : Operand} {args : Array Operand} {ats : Array TypeId} (ho : o.op = .call { callee := .value c, args, argTypes := ats }) (hg : o.guard = none) {p : Prop} {f : FuncId} {xs : List AV}
    (h : callArgs σ c args.toList = some (p, f, xs)) (hp : p) (hc : Callable P f) (hx : refsL xs = []) {r : AV} (hr : refs r = []) (hf : FnOK P f xs [] fun r' _ => r' = r) : Rob P C ops o (spCall ops σ o c args.toList r) σ :=
  rob_trip (b := true) (by rw [hg]; rfl) (.inl rfl) fun _ _ ha => trip_call ho (by rw [callArgs_agree ha]; exact h) hp hc hx hr hf

/-! ### Piece by piece -/

/-- new blocks bear numbers that are free -/
def FreshAll : List Sp → St → Prop
  | [], _ => True
  | p :: ps, σ => (∀ b, b ∈ p.new → Loc.blk b.1 ∉ p.rd → hget σ.hp b.1 = none) ∧ FreshAll ps (p.app σ)

theorem FreshAll.get : ∀ {ps : List Sp} {σ : St}, FreshAll ps σ → ∀ (i : Nat) p, ps[i]? = some p → ∀ b, b ∈ p.new → Loc.blk b.1 ∉ p.rd → hget (upto ps i σ).hp b.1 = none
  | [], _, _, i, p, h, _, _, _ => by simp at h
  | q :: ps, σ, hf, 0, p, h, b, hb, hn => by
    simp only [List.getElem?_cons_zero, Option.some.injEq] at h
    subst h
    exact hf.1 b hb hn
  | q :: ps, σ, hf, i + 1, p, h, b, hb, hn => hf.2.get i p (by simpa using h) b hb hn

theorem FreshAll.append : ∀ {ps qs : List Sp} {σ : St}, FreshAll ps σ → FreshAll qs (appAll ps σ) → FreshAll (ps ++ qs) σ
  | [], _, _, _, h => h
  | _ :: _, _, _, h, h2 => ⟨h.1, h.2.append h2⟩

theorem FreshAll.of_nil : ∀ {ps : List Sp} {σ : St}, (∀ p, p ∈ ps → p.new = []) → FreshAll ps σ
  | [], _, _ => trivial
  | p :: ps, _, h => ⟨fun b hb _ => (by rw [h p (by simp)] at hb; cases hb), FreshAll.of_nil fun q hq => h q (by simp [hq])⟩

/-- from operation 'k + acc.length' of a segment that began at 'k' -/
def SegFrom (P : Program) (C : Ctx) (ops : Array Oper) (Q : Exit → Act → World → Prop) (k n : Nat) (acc : Skel) (l : List Oper) (σ : St) : Prop :=
  ∃ l1 l2 ps, l = l1 ++ l2 ∧ l1.length = ps.length ∧ RobChain P C ops l1 ps σ ∧ FreshAll ps σ ∧ (segOK ops k (acc ++ skel ps) && dstOK n (acc ++ skel ps)) = true ∧ DrawOK P C ops Q (k + acc.length + ps.length) (appAll ps σ)

theorem chain_append {ops : Array Oper} : ∀ {l1 l2 : List Oper} {p1 p2 : List Sp} {σ : St}, l1.length = p1.length → RobChain P C ops l1 p1 σ → RobChain P C ops l2 p2 (appAll p1 σ) → RobChain P C ops (l1 ++ l2) (p1 ++ p2) σ
  | [], _, [], _, _, _, _, h => h
  | _ :: l1, _, _ :: p1, _, _, hl, h, h2 => ⟨h.1, chain_append (by simpa using hl) h.2 h2⟩
  | [], _, _ :: _, _, _, hl, _, _ => by simp at hl
  | _ :: _, _, [], _, _, hl, _, _ => by simp at hl

theorem appAll_append : ∀ (p1 p2 : List Sp) (σ : St), appAll (p1 ++ p2) σ = appAll p2 (appAll p1 σ)
  | [], _, _ => rfl
  | _ :: p1, p2, _ => appAll_append p1 p2 _

theorem seg_add {ops : Array Oper} {Q : Exit → Act → World → Prop} {k n : Nat} {acc : Skel} {l1 l : List Oper} {ps : List Sp} (hl : l1.length = ps.length) (hc : RobChain P C ops l1 ps σ) (hn : FreshAll ps σ)
    (h : SegFrom P C ops Q k n (acc ++ skel ps) l (appAll ps σ)) : SegFrom P C ops Q k n acc (l1 ++ l) σ := by
  obtain ⟨m1, m2, qs, rfl, h2, h3, h4, h5, h6⟩ := h
  have e : acc ++ skel ps ++ skel qs = acc ++ skel (ps ++ qs) := by simp [skel]
  refine ⟨l1 ++ m1, m2, ps ++ qs, by simp, by simp [hl, h2], chain_append hl hc h3, hn.append h4, by rw [← e]; exact h5, ?_⟩
  rw [appAll_append]
  have e2 : k + (acc ++ skel ps).length + qs.length = k + acc.length + (ps ++ qs).length := by simp [skel]; omega
  rw [← e2]; exact h6

theorem seg_run (hT : TabOK P T) {ops : Array Oper} {Q : Exit → Act → World → Prop} {k n : Nat} {acc : Skel} {l l' : List Oper} {p : Prop} {ps : List Sp} (h : runD T ops l σ = some (p, ps, l', σ')) (hp : p) {sk : Skel} (hs : skel ps = sk)
    (hk : SegFrom P C ops Q k n (acc ++ sk) l' σ') : SegFrom P C ops Q k n acc l σ := by
  subst hs
  obtain ⟨h1, h2, h3⟩ := runD_len h
  obtain ⟨l1, k1, k2⟩ := runD_sound (P := P) (C := C) hT ops l σ h hp (l2 := []) (ps2 := []) trivial (by simp)
  simp only [List.append_nil] at k2
  subst k1
  refine seg_add (by simpa using h1) k2 (.of_nil fun p hp => ?_) (by rw [h2]; exact hk)
  obtain ⟨i, hi⟩ := List.getElem?_of_mem hp
  exact h3 i p hi

theorem seg_robN {ops : Array Oper} {Q : Exit → Act → World → Prop} {k n : Nat} {acc : Skel} {o : Oper} {l : List Oper} {q : Sp} (hq : Rob P C ops o q σ) (hn : ∀ b, b ∈ q.new → Loc.blk b.1 ∉ q.rd → hget σ.hp b.1 = none) {sk : List Loc × List Loc} (hs : (q.wr, q.rd) = sk) (ha : q.app σ = σ')
    (hk : SegFrom P C ops Q k n (acc ++ [sk]) l σ') : SegFrom P C ops Q k n acc (o :: l) σ := by
  subst hs ha
  exact seg_add (l1 := [o]) (ps := [q]) rfl ⟨hq, trivial⟩ ⟨hn, trivial⟩ hk

theorem seg_rob {ops : Array Oper} {Q : Exit → Act → World → Prop} {k n : Nat} {acc : Skel} {o : Oper} {l : List Oper} {q : Sp} (hq : Rob P C ops o q σ) (hn : q.new = []) {sk : List Loc × List Loc} (hs : (q.wr, q.rd) = sk) (ha : q.app σ = σ')
    (hk : SegFrom P C ops Q k n (acc ++ [sk]) l σ') : SegFrom P C ops Q k n acc (o :: l) σ := by
  subst hs ha
  exact seg_add (l1 := [o]) (ps := [q]) rfl ⟨hq, trivial⟩ (.of_nil fun p hp => by rw [List.mem_singleton.1 hp]; exact hn) hk

/-- A CALL IN A REGION THAT DRAWS. -/
theorem seg_call {ops : Array Oper} {Q : Exit → Act → World → Prop} {k n : Nat} {acc : Skel} {o : Oper} {l : List Oper} {c : Operand} {args : Array Operand} {ats : Array TypeId} (ho : o.op = .call { callee := .value c, args, argTypes := ats }) (hg : o.guard = none) {p : Prop} {f : FuncId} {xs : List AV}
    (h : callArgs σ c args.toList = some (p, f, xs)) (hp : p) (hc : Callable P f) (hx : refsL xs = []) {r : AV} (hf : FnOK P f xs [] fun r' _ => r' = r) (hr : refs r = []) {sk : List Loc × List Loc} (hs : ((spCall ops σ o c args.toList r).wr, (spCall ops σ o c args.toList r).rd) = sk)
    (ha : σ.put o.dst r = σ') (hk : SegFrom P C ops Q k n (acc ++ [sk]) l σ') : SegFrom P C ops Q k n acc (o :: l) σ :=
  seg_rob (rob_call ho hg h hp hc hx hr hf) rfl hs (by rw [spCall_app]; exact ha) hk

theorem seg_end {ops : Array Oper} {Q : Exit → Act → World → Prop} {k n : Nat} {acc : Skel} {l : List Oper} (hc : (segOK ops k acc && dstOK n acc) = true) {j : Nat} (hj : k + acc.length = j) (h : DrawOK P C ops Q j σ) : SegFrom P C ops Q k n acc l σ := by
  subst hj
  exact ⟨[], l, [], rfl, rfl, trivial, trivial, by simpa [skel] using hc, h⟩

theorem seg_start {ops : Array Oper} {Q : Exit → Act → World → Prop} {k : Nat} {l : List Oper} (hl : ops.toList.drop k = l) (h : SegFrom P C ops Q k σ.tm.length [] l σ) : DrawOK P C ops Q k σ := by
  subst hl
  obtain ⟨l1, l2, ps, h1, h2, h3, h4, h5, h6⟩ := h
  rw [Bool.and_eq_true] at h5
  simp only [List.nil_append] at h5
  refine draw_seg (l := l1) (ps := ps) h5.1 h2 (fun i hi => ?_) (fun i q t hq hd => ?_) (fun i q hq b hb hn => h4.get i q hq b hb hn) h3 (by simpa using h6)
  · rw [← Array.getElem?_toList, ← List.getElem?_drop, h1, List.getElem?_append_left (by omega)]
  · have := List.all_eq_true.1 h5.2 (q.wr, q.rd) (List.mem_map.2 ⟨q, List.mem_of_getElem? hq, rfl⟩)
    have := List.all_eq_true.1 this (.tm t) (wr_tm hd)
    simpa using this

/-- one operation that all others wait for, and that waits for all before it -/
theorem draw_step (hT : TabOK P T) {ops : Array Oper} {Q : Exit → Act → World → Prop} {k : Nat} {o : Oper} (ho : ops[k]? = some o) (hc : Region.ready .any ops (doneTo ops.size k) = [k]) (hg : o.guard = none) {p : Prop} (h : stepOp T σ o.dst o.op = some (p, σ')) (hp : p)
    {j : Nat} (hj : k + 1 = j) (hk : DrawOK P C ops Q j σ') : DrawOK P C ops Q k σ := by
  subst hj
  refine draw_one ho hc (fun a w K Q' hr hK => ?_) hk
  obtain ⟨μ, S, hi⟩ := hr
  rw [wanted_of hi (show guardOf ops σ o.guard = some true from by rw [hg]; rfl)]
  exact .inl (step_sound hT o h hp a w K Q' ⟨μ, S, hi⟩ hK)

/-- a call that all others wait for -/
theorem draw_trip {ops : Array Oper} {Q : Exit → Act → World → Prop} {k : Nat} {o : Oper} (ho : ops[k]? = some o) (hc : Region.ready .any ops (doneTo ops.size k) = [k]) (hg : o.guard = none) (h : Trip P C o σ σ')
    {j : Nat} (hj : k + 1 = j) (hk : DrawOK P C ops Q j σ') : DrawOK P C ops Q k σ := by
  subst hj
  refine draw_one ho hc (fun a w K Q' hr hK => ?_) hk
  obtain ⟨μ, S, hi⟩ := hr
  rw [wanted_of hi (show guardOf ops σ o.guard = some true from by rw [hg]; rfl)]
  exact .inl (h a w K Q' ⟨μ, S, hi⟩ hK)
/-- a call whose arguments, and whose result, hold nothing of ours -/
theorem cw_call {k : List It} {all : Array Oper} {o : Oper} {l : List Oper} {c : Operand} {args : Array Operand} {ats : Array TypeId} (ho : o.op = .call { callee := .value c, args, argTypes := ats }) (hg : o.guard = none) {p : Prop} {f : FuncId} {xs : List AV}
    (h : callArgs σ c args.toList = some (p, f, xs)) (hp : p) (hc : Callable P f) (hx : refsL xs = []) {r : AV} (hf : FnOK P f xs [] fun r' _ => r' = r) (hr : refs r = []) (ha : σ.put o.dst r = σ') (hk : Cw P C Ret (.ops all l :: k) σ') : Cw P C Ret (.ops all (o :: l) :: k) σ := by
  subst ha
  exact cw_step (by rw [hg]; rfl) (trip_call ho h hp hc hx hr hf) hk

theorem cw_callG {k : List It} {all : Array Oper} {o : Oper} {l : List Oper} {c : Operand} {args : Array Operand} {ats : Array TypeId} (ids : List Nat) (off : Nat) (ho : o.op = .call { callee := .value c, args, argTypes := ats }) (hg : o.guard = none) {p : Prop} {f : FuncId} {xs : List AV}
    (h : callArgs σ c args.toList = some (p, f, xs)) (hp : p) (hc : Callable P f) {H K : List (Nat × Blk)} {r : AV} (hH : sub ids σ.hp = H)
    (hf : FnOK P f xs H fun r' H' => r' = r ∧ ∀ id b, hget K id = some b → hget H' id = some b)
    (hck : (refsL xs).all ids.contains = true) (hc1 : (H.all fun p => (refsB p.2).all ids.contains) = true) (hc2 : ((del ids σ.hp).all fun p => (refsB p.2).all fun i => !ids.contains i) = true)
    (hc3 : closed K (refs r) = true) (hc4 : (K.all fun p => (hget σ.hp (p.1 + off)).isNone) = true) (hτ : (⟨σ.tm.map (killL ids), renH off K ++ del ids σ.hp⟩ : St).put o.dst (ren off r) = σ')
    (hk : Cw P C Ret (.ops all l :: k) σ') : Cw P C Ret (.ops all (o :: l) :: k) σ :=
  cw_step (by rw [hg]; rfl) (trip_callG ho h hp hc ids off hH hck hc1 hc2 hc3 hc4 hf hτ) hk
/-- SO MANY OPERATIONS OF A LIST. -/
theorem cw_runN (hT : TabOK P T) (n : Nat) {k : List It} {all : Array Oper} {l l1 l2 : List Oper} {p : Prop} (h1 : l.take n = l1) (h2 : l.drop n = l2) (h : runL T all l1 σ = some (p, [], σ')) (hp : p) (hk : Cw P C Ret (.ops all l2 :: k) σ') : Cw P C Ret (.ops all l :: k) σ := by
  subst h1 h2
  intro a w hr
  have := runL_then (P := P) (C := C) hT all (l.drop n) (l.take n) σ (Q := aft (RetOf C Ret) (sem P C (RetOf C Ret) k)) h hp (fun a w hr => hk a w hr)
  rw [List.take_append_drop] at this
  exact this a w hr

/-- so many plain operations of a segment -/
theorem seg_runN (hT : TabOK P T) (m : Nat) {ops : Array Oper} {Q : Exit → Act → World → Prop} {k n : Nat} {acc : Skel} {l l1 l2 : List Oper} {p : Prop} {ps : List Sp} (h1 : l.take m = l1) (h2 : l.drop m = l2) (h : runD T ops l1 σ = some (p, ps, [], σ')) (hp : p) {sk : Skel} (hs : skel ps = sk)
    (hk : SegFrom P C ops Q k n (acc ++ sk) l2 σ') : SegFrom P C ops Q k n acc l σ := by
  subst hs h1 h2
  obtain ⟨g1, g2, g3⟩ := runD_len h
  obtain ⟨q1, k1, k2⟩ := runD_sound (P := P) (C := C) hT ops (l.take m) σ h hp (l2 := []) (ps2 := []) trivial (by simp)
  simp only [List.append_nil] at k1 k2
  subst k1
  have := seg_add (l1 := l.take m) (l := l.drop m) (by simpa using g1) k2 (.of_nil fun p hp => by
    obtain ⟨i, hi⟩ := List.getElem?_of_mem hp
    exact g3 i p hi) (by rw [g2]; exact hk)
  rwa [List.take_append_drop] at this
end
end Go.Eng

namespace Go.Eng
section
variable {P : Program}

theorem osl_pure {μ : Nat → Option Nat} {S : Nat → Prop} {w : World} {v : Value} {id s off len e : Nat} {rows : List (List AV)} (hv : Rd μ S w v (.osl id s off len)) (hB : BlkOK μ S w id (.cells e s rows))
    (hp : (rows.all fun row => row.all AV.pureB) = true) (hle : off + len ≤ rows.length) : RdP (fun b => S b ∨ μ id = some b) w v (.sl ((rows.drop off).take len)) := by
  have hpure : ∀ (i : Nat) row, rows[i]? = some row → ∀ (j : Nat) x, row[j]? = some x → x.pureB = true := fun i row hi j x hj => List.all_eq_true.1 (List.all_eq_true.1 hp row (List.mem_of_getElem? hi)) x (List.mem_of_getElem? hj)
  obtain ⟨A, cap, rfl, hc, h⟩ := hv.inv_osl
  have hl : ((rows.drop off).take len).length = len := by simp; omega
  rcases h with ⟨rfl, h2⟩ | ⟨g, e', n, h1, rfl, h3, h4⟩
  · exact .sl A 0 cap _ s 0 0 (fun _ _ => undef) hl hc (fun row h => by simp at h) (fun h => by omega) (fun i j h => by omega) (fun i row h => by simp at h)
  · rcases hB with ⟨_, k2⟩ | ⟨g', c, k1, k2, k3, k4, k5⟩
    · rw [k2] at h1; cases h1
    · rw [k1] at h1; injection h1 with h1; subst h1
      refine .sl _ len cap _ s g' (off * s) (fun i j => c.getD ((off + i) * s + j) undef) hl hc (fun row h => k4 row (List.mem_of_mem_drop (List.mem_of_mem_take h))) (fun _ => ⟨rfl, .inr k1⟩) (fun i' j hi' hj => ?_) (fun i' row h j x hx => ?_)
      · have hlt : (off + i') * s + s ≤ rows.length * s := by
          have := Nat.mul_le_mul_right s (show off + i' + 1 ≤ rows.length by omega)
          rwa [Nat.succ_mul] at this
        rw [show off * s + (i' * s + j) = (off + i') * s + j from by rw [Nat.add_mul]; omega, cell_of k2, Array.getD_eq_getD_getElem?, Array.getElem?_eq_getElem (by omega)]
        rfl
      · rw [List.getElem?_take] at h
        split at h
        · rw [List.getElem?_drop] at h
          exact ((k5 _ row h j x hx).toP (hpure _ _ h _ _ hx)).mono (SameOn.refl _ _) (fun _ h => .inl h)
        · cases h

/-- A SLICE THAT IS HANDED BACK TO BE HELD MAY AS WELL BE READ ALONE. -/
theorem FnOK.read {f : FuncId} {args : List AV} {H : List (Nat × Blk)} {id s e : Nat} {rows : List (List AV)} (h : FnOK P f args H fun r H' => r = .osl id s 0 rows.length ∧ ∀ i b, hget [(id, .cells e s rows)] i = some b → hget H' i = some b)
    (hp : (rows.all fun row => row.all AV.pureB) = true) : FnOK P f args H fun r _ => r = .sl rows := by
  intro R0 μ w0 vs hl ha hH hR
  refine (h R0 μ w0 vs hl ha hH hR).mono ?_
  rintro e' w' ⟨v, r, H', μ', S', rfl, ⟨rfl, hb⟩, h4, h5, h6, h7, h8⟩
  have hb := hb id (.cells e s rows) (by simp only [hget, if_true])
  have hrd := osl_pure h4 (h5.blk id _ hb) hp (by omega)
  simp only [List.drop_zero, List.take_length] at hrd
  refine ⟨v, _, [], fun _ => none, _, rfl, rfl, .pure hrd, ⟨fun i b h => by simp [hget] at h, fun i g h => (by cases h), fun i j g h => (by cases h), h5.glob.nil⟩, h6, fun i g h => (by cases h), fun b hb' => ?_⟩
  rcases hb' with h | h
  · exact h8 b h
  · refine ⟨(h5.dom id b h).2.2, ?_⟩
    rcases h7 id b h with h | h
    · exact .inr (.inl h)
    · exact .inr (.inr h)
end
end Go.Eng

namespace Go.Eng
section
variable {P : Program} {T : Tab} {C : Ctx} {σ σ' s : St} {Ret : St → Prop}

theorem le_cnd (d : Option Tmp) (r : AV) : Le C (s.put d r) (s.put d (.cnd true r)) := by
  intro a w ⟨μ, S, hi⟩
  cases d with
  | none => exact ⟨μ, S, hi⟩
  | some t =>
    refine ⟨μ, S, { hi with size := by have := hi.size; simp only [St.put, List.length_set] at this ⊢; exact this, tm := fun i x hx => ?_ }⟩
    by_cases e : t = i
    · subst e
      simp only [St.put, List.getElem?_set, if_true] at hx
      split at hx
      · rename_i hl
        injection hx with hx
        subst hx
        exact .cndT _ _ (hi.tm t r (by simp only [St.put, List.getElem?_set, if_true]; rw [if_pos hl]))
      · cases hx
    · refine hi.tm i x ?_
      simp only [St.put, List.getElem?_set, if_neg e] at hx ⊢
      exact hx

theorem Trip.cnd {o : Oper} {r : AV} (h : Trip P C o s (s.put o.dst r)) : Trip P C o s (s.put o.dst (.cnd true r)) :=
  fun a w K Q hr hK => h a w K Q hr fun a' w' h' => hK a' w' (le_cnd o.dst r a' w' h')

theorem rob_callC {ops : Array Oper} {o : Oper} {c : Operand} {args : Array Operand} {ats : Array TypeId} (ho : o.op = .call { callee := .value c, args, argTypes := ats }) {b : Bool} (hg : guardOf ops σ o.guard = some b) {p : Prop} {f : FuncId} {xs : List AV}
    (h : callArgs σ c args.toList = some (p, f, xs)) (hp : b = true → p) (hc : Callable P f) (hx : refsL xs = []) {r : AV} (hr : refs r = []) (hf : b = true → FnOK P f xs [] fun r' _ => r' = r) : Rob P C ops o (spCall ops σ o c args.toList (.cnd b r)) σ := by
  refine rob_trip (b := b) hg ?_ fun hb s ha => ?_
  · cases b with
    | true => exact .inl rfl
    | false => exact .inr ⟨r, rfl⟩
  · subst hb
    exact (trip_call ho (by rw [callArgs_agree ha]; exact h) (hp rfl) hc hx hr (hf rfl)).cnd

/-- A CALL BEHIND A GUARD, IN A REGION THAT DRAWS. -/
theorem seg_callC {ops : Array Oper} {Q : Exit → Act → World → Prop} {k n : Nat} {acc : Skel} {o : Oper} {l : List Oper} {c : Operand} {args : Array Operand} {ats : Array TypeId} (ho : o.op = .call { callee := .value c, args, argTypes := ats }) {b : Bool} (hg : guardOf ops σ o.guard = some b) {p : Prop} {f : FuncId} {xs : List AV}
    (h : callArgs σ c args.toList = some (p, f, xs)) (hp : b = true → p) (hc : Callable P f) (hx : refsL xs = []) {r : AV} (hf : b = true → FnOK P f xs [] fun r' _ => r' = r) (hr : refs r = []) {sk : List Loc × List Loc} (hs : ((spCall ops σ o c args.toList (.cnd b r)).wr, (spCall ops σ o c args.toList (.cnd b r)).rd) = sk)
    (ha : σ.put o.dst (.cnd b r) = σ') (hk : SegFrom P C ops Q k n (acc ++ [sk]) l σ') : SegFrom P C ops Q k n acc (o :: l) σ :=
  seg_rob (rob_callC ho hg h hp hc hx hr hf) rfl hs (by rw [spCall_app]; exact ha) hk

/-- a call behind a guard -/
theorem cw_callC {k : List It} {all : Array Oper} {o : Oper} {l : List Oper} {c : Operand} {args : Array Operand} {ats : Array TypeId} (ho : o.op = .call { callee := .value c, args, argTypes := ats }) {b : Bool} (hg : guardOf all σ o.guard = some b) {p : Prop} {f : FuncId} {xs : List AV}
    (h : callArgs σ c args.toList = some (p, f, xs)) (hp : b = true → p) (hc : Callable P f) (hx : refsL xs = []) {r : AV} (hf : b = true → FnOK P f xs [] fun r' _ => r' = r) (hr : refs r = []) (ha : σ.put o.dst (.cnd b r) = σ') (hk : Cw P C Ret (.ops all l :: k) σ') : Cw P C Ret (.ops all (o :: l) :: k) σ := by
  subst ha
  intro a w hrel
  show wpList P all _ (o :: l) a w
  unfold wpList
  obtain ⟨μ, S, hi⟩ := hrel
  rw [wanted_of hi hg]
  cases b with
  | false => exact hk _ _ ⟨μ, S, hi.put o.dst (.cndF r)⟩
  | true => exact .inl ((trip_call ho h (hp rfl) hc hx hr (hf rfl)).cnd a w _ _ ⟨μ, S, hi⟩ fun a' w' h' => hk a' w' h')
end
end Go.Eng

namespace Go.Eng
section
variable {P : Program} {T : Tab} {C : Ctx} {σ σ' s : St} {Ret : St → Prop}

mutual
theorem view_agree {h h' : List (Nat × Blk)} : ∀ (x : AV), (∀ id, id ∈ refs x → hget h' id = hget h id) → view h' x = view h x
  | .osl id s off len, he => by simp only [view]; rw [he id (by simp [refs])]
  | .ptr id s row off, he => by simp only [view]; rw [he id (by simp [refs])]
  | .mp id, he => by simp only [view]; rw [he id (by simp [refs])]
  | .fn f caps, he => by simp only [view]; rw [viewL_agree caps (fun id hid => he id (by simpa [refs] using hid))]
  | .agg cells, he => by simp only [view]; rw [viewL_agree cells (fun id hid => he id (by simpa [refs] using hid))]
  | .any, _ => rfl
  | .tup _, _ => rfl
  | .cnd .., _ => rfl
  | .int .., _ => rfl
  | .bool _, _ => rfl
  | .str _, _ => rfl
  | .exs .., _ => rfl
  | .nilp, _ => rfl
  | .nili, _ => rfl
  | .ifc, _ => rfl
  | .nils, _ => rfl
  | .nilm, _ => rfl
  | .sl _, _ => rfl
  | .rp .., _ => rfl
  | .rm _, _ => rfl
theorem viewL_agree {h h' : List (Nat × Blk)} : ∀ (l : List AV), (∀ id, id ∈ refsL l → hget h' id = hget h id) → viewL h' l = viewL h l
  | [], _ => rfl
  | x :: r, he => by
    simp only [viewL]
    rw [view_agree x (fun id hid => he id (by simp [refsL, hid])), viewL_agree r (fun id hid => he id (by simp [refsL, hid]))]
end

theorem evSL_refs {id : Nat} : ∀ {os : List Operand}, id ∈ refsL (evSL σ os).2 → Loc.blk id ∈ locsL σ os
  | [], h => by simp [evSL, refsL] at h
  | o :: r, h => by
    simp only [evSL, refsL, List.mem_append] at h
    simp only [locsL, List.mem_append]
    rcases h with h | h
    · refine .inl ?_
      have h' := strip_refs (ev σ o) id h
      cases o with
      | tmp t => exact List.mem_cons_of_mem _ (List.mem_map.2 ⟨id, h', rfl⟩)
      | const v =>
        simp only [ev, ofValue] at h'
        split at h' <;> simp [refs] at h'
      | func f => simp [ev, refs, refsL] at h'
      | global g => simp [ev, refs] at h'
    · exact .inr (evSL_refs h)

theorem refsL_append (l m : List AV) : refsL (l ++ m) = refsL l ++ refsL m := by
  induction l with
  | nil => rfl
  | cons x r ih => simp only [List.cons_append, refsL, ih, List.append_assoc]

theorem callArgs_refs {c : Operand} {args : List Operand} {p : Prop} {f : FuncId} {xs : List AV} (h : callArgs σ c args = some (p, f, xs)) {id : Nat} (hid : id ∈ refsL xs) : Loc.blk id ∈ locsO σ c ++ locsL σ args := by
  unfold callArgs at h
  split at h
  · rename_i q g caps he
    simp only [Option.some.injEq, Prod.mk.injEq] at h
    obtain ⟨_, _, rfl⟩ := h
    rw [refsL_append, List.mem_append] at hid
    rcases hid with hid | hid
    · exact List.mem_append_right _ (evSL_refs hid)
    · refine List.mem_append_left _ ?_
      have : id ∈ refsL (evSL σ [c]).2 := by
        simp only [evSL, he, refsL, refs, List.mem_append]
        exact .inl hid
      simpa [locsL] using evSL_refs this
  · cases h

theorem cw_view {k : List It} {all : Array Oper} {o : Oper} {l : List Oper} {c : Operand} {args : Array Operand} {ats : Array TypeId} (ho : o.op = .call { callee := .value c, args, argTypes := ats }) (hg : o.guard = none) {p q : Prop} {f : FuncId} {xs ys : List AV}
    (h : callArgs σ c args.toList = some (p, f, xs)) (hp : p) (hv : viewL σ.hp xs = some (q, ys)) (hq : q) (hc : Callable P f) {r : AV} (hf : FnOK P f ys [] fun r' _ => r' = r) (hr : r.scalar = true) (ha : σ.put o.dst r = σ') (hk : Cw P C Ret (.ops all l :: k) σ') : Cw P C Ret (.ops all (o :: l) :: k) σ := by
  subst ha
  exact cw_step (by rw [hg]; rfl) (trip_view ho h hp hv hq hc hr hf) hk

/-- a call that looks at what is held, behind a guard -/
theorem cw_viewC {k : List It} {all : Array Oper} {o : Oper} {l : List Oper} {c : Operand} {args : Array Operand} {ats : Array TypeId} (ho : o.op = .call { callee := .value c, args, argTypes := ats }) {b : Bool} (hg : guardOf all σ o.guard = some b) {p q : Prop} {f : FuncId} {xs ys : List AV}
    (h : callArgs σ c args.toList = some (p, f, xs)) (hp : b = true → p) (hv : viewL σ.hp xs = some (q, ys)) (hq : b = true → q) (hc : Callable P f) {r : AV} (hf : b = true → FnOK P f ys [] fun r' _ => r' = r) (hr : r.scalar = true) (ha : σ.put o.dst (.cnd b r) = σ') (hk : Cw P C Ret (.ops all l :: k) σ') : Cw P C Ret (.ops all (o :: l) :: k) σ := by
  subst ha
  intro a w hrel
  show wpList P all _ (o :: l) a w
  unfold wpList
  obtain ⟨μ, S, hi⟩ := hrel
  rw [wanted_of hi hg]
  cases b with
  | false => exact hk _ _ ⟨μ, S, hi.put o.dst (.cndF r)⟩
  | true => exact .inl ((trip_view ho h (hp rfl) hv (hq rfl) hc hr (hf rfl)).cnd a w _ _ ⟨μ, S, hi⟩ fun a' w' h' => hk a' w' h')

theorem viewed_agree {c : Operand} {args : List Operand} {p : Prop} {f : FuncId} {xs : List AV} (h : callArgs σ c args = some (p, f, xs)) (ha : ∀ x, x ∈ locsO σ c ++ locsL σ args → AgreeAt σ s x) : viewL s.hp xs = viewL σ.hp xs :=
  viewL_agree xs fun _ hid => ha _ (callArgs_refs h hid)

theorem rob_view {ops : Array Oper} {o : Oper} {c : Operand} {args : Array Operand} {ats : Array TypeId} (ho : o.op = .call { callee := .value c, args, argTypes := ats }) (hg : o.guard = none) {p q : Prop} {f : FuncId} {xs ys : List AV}
    (h : callArgs σ c args.toList = some (p, f, xs)) (hp : p) (hv : viewL σ.hp xs = some (q, ys)) (hq : q) (hc : Callable P f) {r : AV} (hr : r.scalar = true) (hf : FnOK P f ys [] fun r' _ => r' = r) : Rob P C ops o (spCall ops σ o c args.toList r) σ :=
  rob_trip (b := true) (by rw [hg]; rfl) (.inl rfl) fun _ _ ha => trip_view ho (by rw [callArgs_agree ha]; exact h) hp (by rw [viewed_agree h ha]; exact hv) hq hc hr hf

theorem rob_viewC {ops : Array Oper} {o : Oper} {c : Operand} {args : Array Operand} {ats : Array TypeId} (ho : o.op = .call { callee := .value c, args, argTypes := ats }) {b : Bool} (hg : guardOf ops σ o.guard = some b) {p q : Prop} {f : FuncId} {xs ys : List AV}
    (h : callArgs σ c args.toList = some (p, f, xs)) (hp : b = true → p) (hv : viewL σ.hp xs = some (q, ys)) (hq : b = true → q) (hc : Callable P f) {r : AV} (hr : r.scalar = true) (hf : b = true → FnOK P f ys [] fun r' _ => r' = r) : Rob P C ops o (spCall ops σ o c args.toList (.cnd b r)) σ := by
  refine rob_trip (b := b) hg ?_ fun hb s ha => ?_
  · cases b with
    | true => exact .inl rfl
    | false => exact .inr ⟨r, rfl⟩
  · subst hb
    exact (trip_view ho (by rw [callArgs_agree ha]; exact h) (hp rfl) (by rw [viewed_agree h ha]; exact hv) (hq rfl) hc hr (hf rfl)).cnd

theorem seg_view {ops : Array Oper} {Q : Exit → Act → World → Prop} {k n : Nat} {acc : Skel} {o : Oper} {l : List Oper} {c : Operand} {args : Array Operand} {ats : Array TypeId} (ho : o.op = .call { callee := .value c, args, argTypes := ats }) (hg : o.guard = none) {p q : Prop} {f : FuncId} {xs ys : List AV}
    (h : callArgs σ c args.toList = some (p, f, xs)) (hp : p) (hv : viewL σ.hp xs = some (q, ys)) (hq : q) (hc : Callable P f) {r : AV} (hf : FnOK P f ys [] fun r' _ => r' = r) (hr : r.scalar = true) {sk : List Loc × List Loc} (hs : ((spCall ops σ o c args.toList r).wr, (spCall ops σ o c args.toList r).rd) = sk)
    (ha : σ.put o.dst r = σ') (hk : SegFrom P C ops Q k n (acc ++ [sk]) l σ') : SegFrom P C ops Q k n acc (o :: l) σ :=
  seg_rob (rob_view ho hg h hp hv hq hc hr hf) rfl hs (by rw [spCall_app]; exact ha) hk

theorem seg_viewC {ops : Array Oper} {Q : Exit → Act → World → Prop} {k n : Nat} {acc : Skel} {o : Oper} {l : List Oper} {c : Operand} {args : Array Operand} {ats : Array TypeId} (ho : o.op = .call { callee := .value c, args, argTypes := ats }) {b : Bool} (hg : guardOf ops σ o.guard = some b) {p q : Prop} {f : FuncId} {xs ys : List AV}
    (h : callArgs σ c args.toList = some (p, f, xs)) (hp : b = true → p) (hv : viewL σ.hp xs = some (q, ys)) (hq : b = true → q) (hc : Callable P f) {r : AV} (hf : b = true → FnOK P f ys [] fun r' _ => r' = r) (hr : r.scalar = true) {sk : List Loc × List Loc} (hs : ((spCall ops σ o c args.toList (.cnd b r)).wr, (spCall ops σ o c args.toList (.cnd b r)).rd) = sk)
    (ha : σ.put o.dst (.cnd b r) = σ') (hk : SegFrom P C ops Q k n (acc ++ [sk]) l σ') : SegFrom P C ops Q k n acc (o :: l) σ :=
  seg_rob (rob_viewC ho hg h hp hv hq hc hr hf) rfl hs (by rw [spCall_app]; exact ha) hk

/-! ### New blocks, and what is not carried out, in a region that draws -/

theorem seg_skip (x : AV) {ops : Array Oper} {Q : Exit → Act → World → Prop} {k n : Nat} {acc : Skel} {o : Oper} {l : List Oper} (hg : guardOf ops σ o.guard = some false) {sk : List Loc × List Loc}
    (hs : ((⟨o.dst, .cnd false x, [], locsG ops o.guard ++ []⟩ : Sp).wr, locsG ops o.guard) = sk) (ha : σ.put o.dst (.cnd false x) = σ') (hk : SegFrom P C ops Q k n (acc ++ [sk]) l σ') : SegFrom P C ops Q k n acc (o :: l) σ :=
  seg_rob (rob_trip (rd := []) hg (.inr ⟨x, rfl⟩) (fun h => nomatch h)) rfl (by rw [← hs, List.append_nil]) (by rw [← ha]; simp [Sp.app]) hk

def newOp (T : Tab) (σ : St) (d : Nat) (op : Op) : Option (Prop × Blk × AV) :=
  match op with
  | .buildSlice t n parts =>
    match buildSliceOp T σ t n parts.toList with
    | some (p, e, rows) => some (p, .cells e (T.siz e) rows, .osl d (T.siz e) 0 n)
    | none => none
  | .alloc t => some (T.siz t ≠ 0 ∧ (T.zer t).length = T.siz t, .cells t (T.siz t) [T.zer t], .ptr d (T.siz t) 0 0)
  | .box t x =>
    match cellsAt T t (evS σ x).2 with
    | some xs => some ((evS σ x).1 ∧ xs.length = T.siz t ∧ xs.all AV.leaf = true, .cells t (T.siz t) [xs], .ptr d (T.siz t) 0 0)
    | none => none
  | .makeMap _ none => some (True, .map [], .mp d)
  | _ => none

theorem partsE_agree {e n : Nat} : ∀ {parts : List (Nat × Operand)}, (∀ q, q ∈ parts → evS s q.2 = evS σ q.2) → partsE T s e n parts = partsE T σ e n parts
  | [], _ => rfl
  | (j, o) :: r, h => by
    simp only [partsE]
    rw [h (j, o) (by simp), partsE_agree (fun q hq => h q (by simp [hq]))]

theorem newOp_agree {d : Nat} {op : Op} (h : ∀ x, x ∈ locsL σ op.operands.toList → AgreeAt σ s x) : newOp T s d op = newOp T σ d op := by
  have he : ∀ o, o ∈ op.operands.toList → evS s o = evS σ o := fun o ho => evS_agree fun x hx => h x (locsL_mem ho x hx)
  unfold newOp
  split
  · rename_i t n parts
    have : buildSliceOp T s t n parts.toList = buildSliceOp T σ t n parts.toList := by
      unfold buildSliceOp
      split
      · rw [partsE_agree (fun q hq => he q.2 (by
          simp only [Op.operands, List.toList_toArray]
          exact List.mem_map.2 ⟨q, hq, rfl⟩))]
      · rfl
    rw [this]
  · rfl
  · rw [he _ (by simp [Op.operands])]
  · rfl
  · rfl

theorem room_none {d : Nat} (h : hget s.hp d = none) : s.room d = (True, s) := by unfold St.room; rw [h]

theorem newOp_sound (hT : TabOK P T) {o : Oper} {d : Nat} (hd : o.dst = some d) {p : Prop} {b : Blk} {x : AV} (h : newOp T s d o.op = some (p, b, x)) (hp : p) (hf : hget s.hp d = none) :
    Trip P C o s (St.put ⟨s.tm, (d, b) :: s.hp⟩ (some d) x) := by
  have hr := room_none hf
  unfold newOp at h
  split at h
  · rename_i t n parts ho
    split at h
    · rename_i q e rows hb
      simp only [Option.some.injEq, Prod.mk.injEq] at h
      obtain ⟨rfl, rfl, rfl⟩ := h
      refine step_sound hT o (p := q ∧ True) ?_ ⟨hp, trivial⟩
      rw [hd, ho]
      simp only [stepOp, hr, hb]
    · cases h
  · rename_i t ho
    simp only [Option.some.injEq, Prod.mk.injEq] at h
    obtain ⟨rfl, rfl, rfl⟩ := h
    refine step_sound hT o (p := T.siz t ≠ 0 ∧ (T.zer t).length = T.siz t ∧ True) ?_ ⟨hp.1, hp.2, trivial⟩
    rw [hd, ho]
    simp only [stepOp, hr]
  · rename_i t y ho
    split at h
    · rename_i xs hx
      simp only [Option.some.injEq, Prod.mk.injEq] at h
      obtain ⟨rfl, rfl, rfl⟩ := h
      refine step_sound hT o (p := (evS s y).1 ∧ xs.length = T.siz t ∧ xs.all AV.leaf = true ∧ True) ?_ ⟨hp.1, hp.2.1, hp.2.2, trivial⟩
      rw [hd, ho]
      simp only [stepOp, hr, hx]
    · cases h
  · rename_i t ho
    simp only [Option.some.injEq, Prod.mk.injEq] at h
    obtain ⟨rfl, rfl, rfl⟩ := h
    refine step_sound hT o (p := True) ?_ trivial
    rw [hd, ho]
    simp only [stepOp, hr]
  · cases h

/-- A NEW BLOCK IN A REGION THAT DRAWS. -/
theorem seg_new (hT : TabOK P T) {ops : Array Oper} {Q : Exit → Act → World → Prop} {k n : Nat} {acc : Skel} {o : Oper} {l : List Oper} {d : Nat} (hd : o.dst = some d) (hg : guardOf ops σ o.guard = some true) {p : Prop} {b : Blk} {x : AV} (h : newOp T σ d o.op = some (p, b, x)) (hp : p) (hf : hget σ.hp d = none)
    {sk : List Loc × List Loc} (hs : ([Loc.tm d, Loc.blk d], locsG ops o.guard ++ locsL σ o.op.operands.toList) = sk) (ha : St.put ⟨σ.tm, (d, b) :: σ.hp⟩ (some d) x = σ') (hk : SegFrom P C ops Q k n (acc ++ [sk]) l σ') : SegFrom P C ops Q k n acc (o :: l) σ := by
  refine seg_robN (q := ⟨some d, x, [(d, b)], locsG ops o.guard ++ locsL σ o.op.operands.toList⟩) ?_ (fun c hc _ => by rw [List.mem_singleton.1 hc]; exact hf) (by rw [← hs]; rfl) (by rw [← ha]; rfl) hk
  intro s hagree hfree a w K Q' hr hK
  have hg' : guardOf ops s o.guard = some true := by rw [guard_agree (fun x hx => hagree x (List.mem_append_left _ hx))]; exact hg
  obtain ⟨μ, S, hi⟩ := hr
  rw [wanted_of hi hg']
  refine .inl ?_
  have hn : newOp T s d o.op = some (p, b, x) := by rw [newOp_agree (fun x hx => hagree x (List.mem_append_right _ hx))]; exact h
  have hfd : hget s.hp d = none := by
    by_cases h : Loc.blk d ∈ locsG ops o.guard ++ locsL σ o.op.operands.toList
    · exact (hagree _ h).trans hf
    · exact hfree (d, b) (by simp) h
  exact newOp_sound hT hd hn hp hfd a w K Q' ⟨μ, S, hi⟩ hK
attribute [go_sem] newOp
end
end Go.Eng

namespace Go.Eng
attribute [go_sem] go runL mkc stepOp pureOp evS ev evSL strip ofValue guardOf isCall St.put St.room hget hset hdel loadOp Eng.loadCells KD.isA storeOp cellsAt putAt
  pickAV binAV KD.isBool intBin addStr unAV fieldAddrAV fieldAV indexAddrAV indexAV natOf sliceAV lenAV buildAV partsS partsE fillAV buildSliceOp setRows appendOp srcRows
  kill refs refsL BlkFree HpFree srcId rowsLeaf AV.leaf resAV resL resOne one callArgs view viewL AV.pureB AV.scalar scalarL exitTo St.drop
  clearOp copyOp delOp putOp mapOf zeroAV KD.isI64 lookAV AV.deepB runD spPure locsO locsL locsG Op.operands Call.operands appAll Sp.app Sp.wr skel leAny setAll hsetAll ren renL renB renH Eng.sub Eng.del killL closed wk leWk emptyB subH frz frzL frzH spCall convAV
attribute [go_sem] List.getD_cons_zero List.getD_cons_succ List.set_cons_zero List.set_cons_succ List.getD_nil List.map_cons List.map_nil List.length_cons List.length_nil Option.map_some Option.map_none
  List.replicate_succ List.replicate_zero List.cons_append List.nil_append List.all_cons List.all_nil List.drop_succ_cons List.drop_zero List.take_succ_cons List.take_zero
  true_and and_true if_true if_false Option.bind_some Bool.false_eq_true Bool.and_true Bool.true_and Bool.and_self ne_eq Nat.reduceEqDiff List.toList_toArray Option.bind_some Option.toList Option.bind_none List.append_nil List.length_map List.append_toArray List.length_append List.take_length Nat.le_refl List.any_nil List.any_cons List.all_append Option.isSome_some Option.isSome_none Option.isNone_none Option.isNone_some List.all_nil List.contains_nil List.contains_cons Bool.or_false Nat.zero_add Nat.add_zero Int.toNat_natCast
attribute [go_sem] Nat.reduceLT Nat.reduceBEq Nat.reduceLeDiff Nat.reduceAdd Nat.reduceMul Nat.reduceSub Nat.reduceEqDiff Int.reduceNeg Int.reduceToNat Int.reduceAdd Int.reduceSub
end Go.Eng

namespace Go.Eng
section
variable {P : Program} {T : Tab} {C : Ctx} {σ σ' : St} {Ret : St → Prop} {k : List It}

/-- CODE IS OPENED AS FAR AS THE NEXT OPERATION, TEST, LOOP, OR END. -/
def goR : Nat → List It → Option (List It)
  | 0, k => some k
  | n + 1, k =>
    match k with
    | .code (.seq x y) :: k => goR n (.code x :: .code y :: k)
    | .code (.block id c) :: k => goR n (.code c :: .blk id :: k)
    | .code .skip :: k => goR n k
    | .blk _ :: k => goR n k
    | .code (.exit id) :: k =>
      match exitTo id k with
      | some k' => goR n k'
      | none => none
    | .code (.region _ ops false) :: k => goR n (.ops ops ops.toList :: k)
    | .ops _ [] :: k => goR n k
    | k => some k

theorem cw_goR : ∀ (n : Nat) {k k' : List It}, goR n k = some k' → Cw P C Ret k' σ → Cw P C Ret k σ
  | 0, k, k', h, hk => by
    simp only [goR, Option.some.injEq] at h
    subst h; exact hk
  | n + 1, k, k', h, hk => by
    unfold goR at h
    split at h
    · exact cw_seq (cw_goR n h hk)
    · exact cw_block (cw_goR n h hk)
    · exact cw_skip (cw_goR n h hk)
    · exact cw_blk (cw_goR n h hk)
    · split at h
      · rename_i k1 he
        exact cw_exit he (cw_goR n h hk)
      · cases h
    · exact cw_region (cw_goR n h hk)
    · exact cw_ops_nil (cw_goR n h hk)
    · simp only [Option.some.injEq] at h
      subst h; exact hk

theorem set_getD {l : List AV} {t : Nat} {x : AV} (h : l.getD t .any = x) (hx : x ≠ .any) : l.set t x = l := by
  apply List.ext_getElem?
  intro i
  rw [List.getElem?_set]
  split
  · rename_i e
    subst e
    rw [List.getD_eq_getElem?_getD] at h
    cases e : l[t]? with
    | none => rw [e] at h; exact absurd h.symm hx
    | some y =>
      rw [e] at h
      simp only [Option.getD_some] at h
      subst h
      rw [if_pos (List.getElem?_eq_some_iff.1 e).1]
  · rfl

/-- A TRUTH VALUE GETS A NAME. -/
theorem cw_name (t : Nat) {b : Bool} (h : σ.tm.getD t .any = .bool b) (hk : ∀ c, b = c → Cw P C Ret k ⟨σ.tm.set t (.bool c), σ.hp⟩) : Cw P C Ret k σ := by
  have := hk b rfl
  rwa [set_getD h (fun h => nomatch h)] at this

/-- in a region that draws -/
theorem seg_name (t : Nat) {b : Bool} {ops : Array Oper} {Q : Exit → Act → World → Prop} {k n : Nat} {acc : Skel} {l : List Oper} (h : σ.tm.getD t .any = .bool b) (hk : ∀ c, b = c → SegFrom P C ops Q k n acc l ⟨σ.tm.set t (.bool c), σ.hp⟩) : SegFrom P C ops Q k n acc l σ := by
  have := hk b rfl
  rwa [set_getD h (fun h => nomatch h)] at this
theorem cw_condT {c : Operand} {x y : Code} {b : Bool} {p : Prop} (hc : evS σ c = (p, .bool b)) (hp : p) (hb : b = true) (ht : Cw P C Ret (.code x :: k) σ) : Cw P C Ret (.code (.cond c x y) :: k) σ :=
  cw_cond hc hp (fun _ => ht) (fun h => by rw [hb] at h; cases h)
theorem cw_condF {c : Operand} {x y : Code} {b : Bool} {p : Prop} (hc : evS σ c = (p, .bool b)) (hp : p) (hb : b = false) (hf : Cw P C Ret (.code y :: k) σ) : Cw P C Ret (.code (.cond c x y) :: k) σ :=
  cw_cond hc hp (fun h => by rw [hb] at h; cases h) (fun _ => hf)

/-! ### nil slices as empty ones -/
mutual
def nrm : AV → AV
  | .nils => .sl []
  | .sl rows => .sl (nrmR rows)
  | .rp cells off => .rp (nrmL cells) off
  | .agg cells => .agg (nrmL cells)
  | .tup vs => .tup (nrmL vs)
  | .fn f caps => .fn f (nrmL caps)
  | x => x
def nrmL : List AV → List AV
  | [] => []
  | x :: r => nrm x :: nrmL r
def nrmR : List (List AV) → List (List AV)
  | [] => []
  | x :: r => nrmL x :: nrmR r
end

theorem nrmL_map : ∀ l, nrmL l = l.map nrm
  | [] => rfl
  | x :: r => by simp [nrmL, nrmL_map r]
theorem nrmR_map : ∀ l, nrmR l = l.map nrmL
  | [] => rfl
  | x :: r => by simp [nrmR, nrmR_map r]

theorem RdP.nrm {S : Nat → Prop} {w : World} {v : Value} {x : AV} (h : RdP S w v x) : RdP S w v (Eng.nrm x) := by
  have key : ∀ {l : List AV} {f : Nat → Value}, (∀ j x, l[j]? = some x → RdP S w (f j) (Eng.nrm x)) → ∀ j x, (nrmL l)[j]? = some x → RdP S w (f j) x := fun {l f} h j x hx => by
    rw [nrmL_map, List.getElem?_map] at hx
    cases e : l[j]? with
    | none => rw [e] at hx; cases hx
    | some y => rw [e] at hx; simp only [Option.map_some, Option.some.injEq] at hx; subst hx; exact h j y e
  induction h with
  | int k n => exact .int k n
  | bool b => exact .bool b
  | str s l h => exact .str s l h
  | nilp => exact .nilp
  | nili => exact .nili
  | ifc t p => exact .ifc t p
  | nils => exact .sl none 0 0 [] 0 0 0 (fun _ _ => undef) rfl (Nat.le_refl _) (fun row h => by simp at h) (fun h => by omega) (fun i j h => by omega) (fun i row h => by simp at h)
  | nilm => exact .nilm
  | sl A len cap rows size g off vals hl hc hsz hA hcell hr ih =>
    refine .sl A len cap (nrmR rows) size g off vals (by rw [nrmR_map, List.length_map]; exact hl) hc (fun row hrow => ?_) hA hcell (fun i row hi j x hx => ?_)
    · rw [nrmR_map] at hrow
      obtain ⟨r, hr', rfl⟩ := List.mem_map.1 hrow
      rw [nrmL_map, List.length_map]; exact hsz r hr'
    · rw [nrmR_map, List.getElem?_map] at hi
      cases e : rows[i]? with
      | none => rw [e] at hi; cases hi
      | some r =>
        rw [e] at hi; simp only [Option.map_some, Option.some.injEq] at hi; subst hi
        exact key (f := vals i) (ih i r e) j x hx
  | rp g o off cells vals hS hcell hr ih =>
    refine .rp g o off (nrmL cells) vals hS (fun j hj => hcell j (by rw [nrmL_map, List.length_map] at hj; exact hj)) (key ih)
  | rm g es clk kvs vals hS hg hm hr ih => exact .rm g es clk kvs vals hS hg hm hr
  | fn f vals caps hl hr ih => exact .fn f vals _ (by rw [nrmL_map, List.length_map]; exact hl) (key ih)
  | agg cs cells hl hr ih => exact .agg cs _ (by rw [nrmL_map, List.length_map]; exact hl) (key ih)

theorem Rd.nrm {μ : Nat → Option Nat} {S : Nat → Prop} {w : World} {v : Value} {x : AV} (h : Rd μ S w v x) : Rd μ S w v (Eng.nrm x) := by
  have key : ∀ {l : List AV} {f : Nat → Value}, (∀ j x, l[j]? = some x → Rd μ S w (f j) (Eng.nrm x)) → ∀ j x, (nrmL l)[j]? = some x → Rd μ S w (f j) x := fun {l f} h j x hx => by
    rw [nrmL_map, List.getElem?_map] at hx
    cases e : l[j]? with
    | none => rw [e] at hx; cases hx
    | some y => rw [e] at hx; simp only [Option.map_some, Option.some.injEq] at hx; subst hx; exact h j y e
  induction h with
  | any v => exact .any v
  | pure h => exact .pure h.nrm
  | agg cs cells hl hr ih => exact .agg cs _ (by rw [nrmL_map, List.length_map]; exact hl) (key ih)
  | tup vs xs hl hr ih => exact .tup vs _ (by rw [nrmL_map, List.length_map]; exact hl) (key ih)
  | fn f vals caps hl hr ih => exact .fn f vals _ (by rw [nrmL_map, List.length_map]; exact hl) (key ih)
  | ptr id size row off g hg => exact .ptr id size row off g hg
  | osl id size off len cap A hc h => exact .osl id size off len cap A hc h
  | mp id g hg => exact .mp id g hg
  | exs id size off len cap g e n hc hg hr hn => exact .exs id size off len cap g e n hc hg hr hn
  | cndT v x h ih => exact .cndT v x h
  | cndF x => exact .cndF x

/-- CALLED WITH NIL SLICES AS WITH EMPTY ONES. -/
theorem FnOK.nrm {f : FuncId} {args args' : List AV} {H : List (Nat × Blk)} {post : AV → List (Nat × Blk) → Prop} (hn : nrmL args = args') (h : FnOK P f args' H post) : FnOK P f args H post := by
  intro R0 μ w0 vs hl hr hH hR
  subst hn
  refine h R0 μ w0 vs (by rw [nrmL_map, List.length_map]; exact hl) (fun j x hx => ?_) hH hR
  rw [nrmL_map, List.getElem?_map] at hx
  cases e : args[j]? with
  | none => rw [e] at hx; cases hx
  | some y => rw [e] at hx; simp only [Option.map_some, Option.some.injEq] at hx; subst hx; exact (hr j y e).nrm
attribute [go_sem] goR
end
end Go.Eng

namespace Go.Eng
section
variable {P : Program} {T : Tab} {C : Ctx} {σ σ' : St} {Ret : St → Prop} {k : List It} {μ : Nat → Option Nat} {S : Nat → Prop} {a : Act} {w : World}

/-- AN OPERATION WHOSE GUARD IS FALSE -/
theorem cw_pass (x : AV) {all : Array Oper} {o : Oper} {l : List Oper} (hg : guardOf all σ o.guard = some false) (h : Cw P C Ret (.ops all l :: k) (σ.put o.dst (.cnd false x))) : Cw P C Ret (.ops all (o :: l) :: k) σ := by
  intro a w hr
  show wpList P all _ (o :: l) a w
  unfold wpList
  obtain ⟨μ, S, hi⟩ := hr
  rw [wanted_of hi hg]
  exact h _ _ ⟨μ, S, hi.put o.dst (.cndF _)⟩

/-- a block's rows, up to its end -/
theorem Inv.widen (hi : Inv C μ S σ a w) {id s e n g d N : Nat} {rows : List (List AV)} (hb : hget σ.hp id = some (.cells e s rows)) (hg : μ id = some g) (hr : rowSize w g = some (n, N * s)) (hs : s ≠ 0) (hf : hget σ.hp d = none) :
    rows.length ≤ N ∧ Inv C μ S ⟨σ.tm, (d, .cap id s N) :: hset σ.hp id (.cells e s (rows ++ List.replicate (N - rows.length) (List.replicate s .any)))⟩ a w := by
  rcases hi.hp id _ hb with ⟨_, k2⟩ | ⟨g', c, k1, k2, k3, k4, k5⟩
  · rw [k2] at hg; cases hg
  · rw [k1] at hg; injection hg with hg; subst hg
    have hcs : c.size = N * s := by
      have := hr
      rw [rowSize, k2] at this
      simp only [Option.some.injEq, Prod.mk.injEq] at this
      exact this.2
    have hle : rows.length ≤ N := Nat.le_of_mul_le_mul_right (by rw [← hcs]; exact k3) (Nat.pos_of_ne_zero hs)
    have hid : d ≠ id := by rintro rfl; rw [hb] at hf; cases hf
    refine ⟨hle, hi.size, hi.defers, hi.tm, fun i b hb' => ?_, fun i q hq => ?_, hi.inj, hi.frm, hi.sb⟩
    · simp only [hget] at hb'
      split at hb'
      · rename_i hd
        injection hb' with hb'
        subst hd hb'
        exact ⟨hi.fresh hf, g', n, k1, hr⟩
      · rw [hget_hset] at hb'
        split at hb'
        · rename_i hi2
          injection hb' with hb'
          subst hi2 hb'
          refine .inr ⟨g', c, k1, k2, by rw [List.length_append, List.length_replicate, hcs]; exact Nat.le_of_eq (by congr 1; omega), fun row hrow => ?_, fun i row hrow j x hx => ?_⟩
          · rcases List.mem_append.1 hrow with h | h
            · exact k4 row h
            · rw [(List.mem_replicate.1 h).2]; simp
          · by_cases hil : i < rows.length
            · rw [List.getElem?_append_left hil] at hrow
              exact k5 i row hrow j x hx
            · rw [List.getElem?_append_right (by omega), List.getElem?_replicate] at hrow
              split at hrow
              · injection hrow with hrow
                subst hrow
                rw [List.getElem?_replicate] at hx
                split at hx
                · injection hx with hx; subst hx; exact .any _
                · cases hx
              · cases hrow
        · exact hi.hp i b hb'
    · obtain ⟨⟨b, h1⟩, h2⟩ := hi.dom i q hq
      refine ⟨?_, h2⟩
      simp only [hget]
      split
      · exact ⟨_, rfl⟩
      · rw [hget_hset]
        split
        · exact ⟨_, rfl⟩
        · exact ⟨b, h1⟩

/-- HOW MUCH ROOM THERE IS: whatever it is. -/
theorem cw_cap (hT : TabOK P T) {all : Array Oper} {o : Oper} {l : List Oper} {x : Operand} {t e : TypeId} {d : Nat} (ho : o.op = .call { callee := .builtin .cap, args := #[x], argTypes := #[t] }) (hd : o.dst = some d) (hg : o.guard = none) (ht : T.und t = .sl e)
    {id s off len e' : Nat} {rows : List (List AV)} (hx : evS σ x = (True, .osl id s off len)) (hb : hget σ.hp id = some (.cells e' s rows)) (h0 : 0 < len) (hs : s ≠ 0) (hf : hget σ.hp d = none)
    (h : ∀ c : Nat, len ≤ c → rows.length ≤ off + c → Cw P C Ret (.ops all l :: k) (St.put ⟨σ.tm, (d, .cap id s (off + c)) :: hset σ.hp id (.cells e' s (rows ++ List.replicate (off + c - rows.length) (List.replicate s .any)))⟩ (some d) (.int .i64 c))) :
    Cw P C Ret (.ops all (o :: l) :: k) σ := by
  intro a w ⟨μ, S, hi⟩
  have hv := hi.evS x (by rw [hx]; trivial)
  rw [hx] at hv
  obtain ⟨A, cap, hv', hc, hor⟩ := hv.inv_osl
  have hty : P.underlying t = some (.slice e) := by have := hT.und t; rw [ht] at this; exact this
  rcases hor with ⟨h1, _⟩ | ⟨g, n, m, h1, _, h3, h4⟩
  · omega
  · obtain ⟨hle, hi'⟩ := hi.widen (d := d) (N := off + cap) hb h1 (by rw [h3, h4]) hs hf
    show wpList P all _ (o :: l) a w
    unfold wpList
    rw [wanted_of hi (show guardOf all σ o.guard = some true from by rw [hg]; rfl)]
    refine .inl ?_
    unfold Oper.wp
    have hrun : (execOp a.eval o).run P w = .ok (.value (.int .i64 cap)) w := by
      have hv2 : a.eval x = .slice A len cap := hv'
      simp [execOp, ho, hv2, resolve, invoke, builtin, Builtin.cap_, run_underlying hty, goInt]
    rw [hrun, Oper.upon_value, hd]
    exact h cap hc hle _ _ ⟨μ, S, hi'.put (some d) (.pure (.int _ _))⟩

/-- A SLICE BEYOND ITS LENGTH, where there is room. -/
theorem trip_reslice (hT : TabOK P T) {o : Oper} {x hi : Operand} {t e : TypeId} (ho : o.op = .slice t x none (some hi) none) (ht : T.und t = .sl e) {id s off len h j N : Nat} (hx : evS σ x = (True, .osl id s off len)) (hh : evS σ hi = (True, .int .i64 (h : Nat)))
    (hcap : hget σ.hp j = some (.cap id s N)) (hN : off + h ≤ N) (h0 : 0 < len) (hs : T.siz e = s) (hs0 : s ≠ 0) : Trip P C o σ (σ.put o.dst (.osl id s off h)) := by
  refine trip_value fun μ S a w hi' => ?_
  have hv := hi'.evS x (by rw [hx]; trivial)
  have hu := hi'.evS hi (by rw [hh]; trivial)
  rw [hx] at hv; rw [hh] at hu
  obtain ⟨A, cap, hv', hc, hor⟩ := hv.inv_osl
  have hu' := hu.inv_int
  have hty : P.underlying t = some (.slice e) := by have := hT.und t; rw [ht] at this; exact this
  rcases hor with ⟨h1, _⟩ | ⟨g, n, m, h1, hA, h3, h4⟩
  · omega
  · obtain ⟨_, g', e', k1, k2⟩ := hi'.hp j _ hcap
    rw [k1] at h1; injection h1 with h1; subst h1
    rw [h3] at k2
    simp only [Option.some.injEq, Prod.mk.injEq] at k2
    have hNc : off + cap = N := Nat.eq_of_mul_eq_mul_right (Nat.pos_of_ne_zero hs0) (h4.trans k2.2)
    subst hA
    have hrun : (Instr.sliceAt t (.slice (some ⟨g', off * s, none⟩) len cap) none (some (.int .i64 (h : Nat))) none).run P w = .ok (.slice (some ⟨g', off * s, none⟩) h cap) w := by
      have hb := run_bounds (P := P) (w := w) true len cap 0 h none (some (.int .i64 (h : Nat))) (show BoundIs none 0 0 from rfl) (show BoundIs (some (.int .i64 (h : Nat))) len h from ⟨.i64, rfl⟩) (Nat.zero_le _) (by omega)
      by_cases hc0 : cap = 0
      · subst hc0
        simp [Instr.sliceAt, Instr.slice, run_underlying hty, hb, sizeOf_of hT (t := e) (by rw [hs]; exact hs0)]
      · simp [Instr.sliceAt, Instr.slice, run_underlying hty, hb, sizeOf_of hT (t := e) (by rw [hs]; exact hs0), hc0, Addr.add]
    refine ⟨.slice (some ⟨g', off * s, none⟩) h cap, ?_, .osl id s off h cap _ (by omega) (.inr ⟨g', n, m, k1, rfl, h3, h4⟩)⟩
    have e1 : a.eval x = .slice (some ⟨g', off * s, none⟩) len cap := hv'
    have e2 : a.eval hi = .int .i64 (h : Nat) := hu'
    simp only [execOp, ho, e1, Option.map_none, Option.map_some, e2, Sem.run_bind, hrun]
    rfl

/-- zeros are appended beyond the room that there is: a new block -/
theorem run_append_zeros (hT : TabOK P T) {t u e ty : TypeId} (ht : P.underlying t = some (.slice e)) (hu : P.underlying u = some (.int .i64)) (hs : T.siz e ≠ 0) (hb : T.byt e ≠ 0) {A : Option Addr} {len cap : Nat} {R : List (List AV)} {olds : List Value}
    (ho : Src μ S w (T.siz e) (.slice A len cap) R olds) (hlen : R.length = len) (n : Nat) (hn : n ≠ 0) (hg : ¬ len + n ≤ cap) (hsz : (2 * (len + n) + 768) * T.byt e ≤ 281474976710656) :
    ∃ (nc : Nat) (z zs : Array Value), len + n ≤ nc ∧ z.size = (nc - (len + n)) * T.siz e ∧ (∀ (μ : Nat → Option Nat) (S : Nat → Prop) (w : World), RdR μ S w (T.siz e) zs (List.replicate n (T.zer e))) ∧
      (Builtin.append_ #[t, u] ty #[.slice A len cap, .int .i64 (n : Nat)]).run P w = .ok (.slice (some ⟨w.heap.size, 0, none⟩) (len + n) nc) (w.drew.alloc (.cells (olds.toArray ++ zs ++ z) e)) := by
  obtain ⟨i, hi, hi1, hi2, z, hz, _, hzs, _⟩ := hT.siz e hs
  obtain ⟨z0, r1, r2, r3⟩ := zeros_rdr hT (e := e) n hs
  have hzz : z0 = z := by
    have := r1 w
    simp [zeroValue, typeInfo, hi, hz] at this
    exact this.symm
  subst hzz
  have hnx := nextcap_le (len + n) cap (by omega)
  have hfit : Builtin.nextslicecap (len + n) cap * i.bytes ≤ 281474976710656 := by
    rw [hi2]
    exact Nat.le_trans (Nat.mul_le_mul_right _ hnx) hsz
  have hw1 : Src μ S w.drew (T.siz e) (.slice A len cap) R olds := ⟨ho.form, ho.len, ho.rlen, fun i row hi j x hx => (ho.rd i row hi j x hx).mono (fun _ _ => rfl) (fun _ h => h) (fun _ _ h => h) (fun _ _ _ => rfl)⟩
  have g1 := run_first (P := P) hw1
  rw [hlen] at g1
  have hb' : i.bytes ≠ 0 := by rw [hi2]; exact hb
  have hnb : n * i.bytes ≤ 281474976710656 := by
    rw [hi2]
    exact Nat.le_trans (Nat.mul_le_mul_right _ (by omega)) hsz
  have hbl : n ≤ 281474976710656 := Nat.le_trans (Nat.le_mul_of_pos_right n (Nat.pos_of_ne_zero hb')) hnb
  have hneed : len + n ≤ 281474976710656 := by
    have h1 : (len + n) * T.byt e ≤ 281474976710656 := Nat.le_trans (Nat.mul_le_mul_right _ (by omega)) hsz
    exact Nat.le_trans (Nat.le_mul_of_pos_right _ (Nat.pos_of_ne_zero hb)) h1
  have hwrap : IntKind.i64.wrap (n : Int) = n := wrap_small (by omega) (by omega)
  have hnn : ¬ ((n : Int) < 0) := by omega
  have hm1 : ¬ 281474976710656 < (n : Int) * (i.bytes : Int) := by
    have h0 : ((n * i.bytes : Nat) : Int) ≤ ((281474976710656 : Nat) : Int) := Int.ofNat_le.2 hnb
    rw [Int.natCast_mul] at h0
    omega
  have hm2 : ¬ 9223372036854775807 < (len : Int) + (n : Int) := by omega
  have hns : n * T.siz e ≠ 0 := Nat.mul_ne_zero hn hs
  refine ⟨grownCap w (len + n) cap e, Builtin.zeroCells z0.cells (grownCap w (len + n) cap e - (len + n)), Builtin.zeroCells z0.cells n, grownCap_ge w _ _ _, by simp [Builtin.zeroCells, hzs], fun μ S w => ?_, ?_⟩
  · have := r3 μ S w
    simp only [r2] at this
    rw [Builtin.zeroCells, r2]; exact this
  · simp [Builtin.append_, run_underlying ht, run_underlying hu, sizeOf, typeInfo, hi, hi1, hwrap, hnn, hm1, hm2, hg, hb', hns, show ¬ 281474976710656 < Builtin.nextslicecap (len + n) cap * i.bytes by omega, g1, Question.forced, zeroValue, hz, run_newRow, grownCap, asInt, asIntOf]

/-- ZEROS BEHIND WHAT IS HELD, BEYOND ITS ROOM: a new block; what is held stays. -/
theorem trip_growZ (hT : TabOK P T) {o : Oper} {x y : Operand} {t u e : TypeId} (ho : o.op = .call { callee := .builtin .append, args := #[x, y], argTypes := #[t, u] }) (ht : T.und t = .sl e) (hu : P.underlying u = some (.int .i64))
    {id s len n j N d e' : Nat} {R : List (List AV)} (hx : evS σ x = (True, .osl id s 0 len)) (hy : evS σ y = (True, .int .i64 (n : Nat))) (hcap : hget σ.hp j = some (.cap id s N)) (hN : N < len + n) (hn : n ≠ 0)
    (hb0 : hget σ.hp id = some (.cells e' s R)) (hR : len ≤ R.length) (hs : T.siz e = s) (hs0 : s ≠ 0) (hb : T.byt e ≠ 0) (hsz : (2 * (len + n) + 768) * T.byt e ≤ 281474976710656) (hd : hget σ.hp d = none) :
    Trip P C o σ (St.put ⟨σ.tm, (d, .cells e s (R.take len ++ List.replicate n (T.zer e))) :: σ.hp⟩ o.dst (.osl d s 0 (len + n))) := by
  subst hs
  intro a w K Q ⟨μ, S, hi⟩ hK
  have hv := hi.evS x (by rw [hx]; trivial)
  have hvy := hi.evS y (by rw [hy]; trivial)
  rw [hx] at hv; rw [hy] at hvy
  have hvy' := hvy.inv_int
  have hRl : rowsOf (T.siz e) (R.take len) := by
    rcases hi.hp id _ hb0 with ⟨rfl, _⟩ | ⟨g, c, _, _, _, k4, _⟩
    · intro row hrow; simp at hrow
    · exact fun row hrow => k4 row (List.mem_of_mem_take hrow)
  have hRt : (R.take len).length = len := by simp; omega
  obtain ⟨olds, hol⟩ := src_of hi (x := .osl id (T.siz e) 0 len) (rows := R.take len) (size := T.siz e) (by simp [srcRows, hb0]) hv hRl (fun _ _ _ _ h => by injection h with _ _ _ h; rw [hRt, h])
  obtain ⟨A, cap, hv', hc, hor⟩ := hv.inv_osl
  have hty : P.underlying t = some (.slice e) := by have := hT.und t; rw [ht] at this; exact this
  have hcN : cap ≤ N := by
    rcases hor with ⟨h1, h2⟩ | ⟨g, n', m, h1, _, h3, h4⟩
    · omega
    · obtain ⟨_, g', e2, k1, k2⟩ := hi.hp j _ hcap
      rw [k1] at h1; injection h1 with h1; subst h1
      rw [h3] at k2
      simp only [Option.some.injEq, Prod.mk.injEq] at k2
      have := Nat.eq_of_mul_eq_mul_right (Nat.pos_of_ne_zero hs0) (h4.trans k2.2)
      omega
  rw [hv'] at hol
  obtain ⟨nc, z, zs, h1, h2, h3, h4⟩ := run_append_zeros (ty := o.type) hT hty hu hs0 hb hol hRt n hn (by omega) hsz
  have hfr : (execOp a.eval o).run P w = .ok (.value (.slice (some ⟨w.heap.size, 0, none⟩) (len + n) nc)) (w.drew.alloc (.cells (olds.toArray ++ zs ++ z) e)) := by
    have e1 : a.eval x = .slice A len cap := hv'
    have e2 : a.eval y = .int .i64 (n : Nat) := hvy'
    simp [execOp, ho, e1, e2, resolve, invoke, builtin, h4, -Array.append_assoc]
  have hi1 := hi.drew
  have hnod : μ d = none := hi.fresh hd
  have hm : ∀ {v x}, Rd μ S w v x → Rd (upd μ d (some w.heap.size)) S (World.alloc w.drew (.cells (olds.toArray ++ zs ++ z) e)) v x := fun h =>
    (h.mono (w' := w.drew) (fun _ _ => rfl) (fun _ h => h) (fun _ _ h => h) (fun _ _ _ => rfl)).mono (fun b hb => alloc_get _ _ b (hi1.sb b hb).1) (fun _ h => h) (fun i' g hg => by
      unfold upd; rw [if_neg (by rintro rfl; rw [hnod] at hg; cases hg)]; exact hg) (fun i' g hg => rowSize_same (alloc_get _ _ g (hi1.dom i' g hg).2.2.2))
  have hzl : rowsOf (T.siz e) (List.replicate n (T.zer e)) := fun row hrow => (h3 μ S w).len row hrow
  have hzr := h3 (upd μ d (some w.heap.size)) S (World.alloc w.drew (.cells (olds.toArray ++ zs ++ z) e))
  have hzn : zs.size = n * T.siz e := by have := hzr.size; rwa [List.length_replicate] at this
  have hget : ∀ k, k < olds.length + zs.toList.length → (olds.toArray ++ zs ++ z).getD k undef = (olds ++ zs.toList).getD k undef := fun k hk => by
    rw [Array.getD_eq_getD_getElem?, List.getD_eq_getElem?_getD, Array.getElem?_append_left (by simpa using hk)]
    rw [← Array.getElem?_toList]
    simp
  have key := joined_rd (μ := upd μ d (some w.heap.size)) (S := S) (w := World.alloc w.drew (.cells (olds.toArray ++ zs ++ z) e)) (R := R.take len) (rows := List.replicate n (T.zer e)) (cs := olds.toArray ++ zs ++ z) (s := T.siz e) (olds := olds) (vs := zs.toList)
    hol.len hRl hzl (fun i row hi' j x hx => hm (hol.rd i row hi' j x hx)) (fun i row hi' j x hx => by
      have := hzr.rd i row hi' j x hx
      rwa [Array.getD_eq_getD_getElem?, ← Array.getElem?_toList, ← List.getD_eq_getElem?_getD] at this) (by simpa using hzr.size) hget
  have hsize : (olds.toArray ++ zs ++ z).size = nc * T.siz e := by
    simp only [Array.size_append, List.size_toArray, hol.len, hRt, hzn, h2, ← Nat.add_mul]
    congr 1; omega
  unfold Oper.wp
  rw [hfr]
  show K (a.put o.dst _) _
  refine hK _ _ ⟨_, S, Inv.put (hi1.new d hd _ (.cells e (T.siz e) (R.take len ++ List.replicate n (T.zer e))) (.inr ⟨w.heap.size, _, by simp [upd], alloc_drew_new w _, ?_, fun row hrow => ?_, key⟩)) o.dst (.osl d _ 0 _ nc _ h1 (.inr ⟨w.heap.size, e, nc * T.siz e, by simp [upd], by simp, ?_, by simp⟩))⟩
  · rw [List.length_append, hRt, List.length_replicate, hsize]
    exact Nat.mul_le_mul_right _ h1
  · rcases List.mem_append.1 hrow with h | h
    · exact hRl row h
    · exact hzl row h
  · unfold rowSize
    rw [alloc_drew_new]
    show some (e, _) = some (e, _)
    rw [hsize]

/-- TWO SLICES IN TWO BLOCKS DO NOT OVERLAP. -/
theorem trip_apart (hT : TabOK P T) {o : Oper} {c x y : Operand} {ats : Array TypeId} (ho : o.op = .call { callee := .value c, args := #[x, y], argTypes := ats }) {f : FuncId} {fn : Func} {tS tR e : TypeId} (hc : evS σ c = (True, .fn f []))
    (hf : P.funcs[f]? = some fn) (hname : (fn.name == "runtime.NumGoroutine") = false) (hbody : fn.body.isNone = true) (hnx : Extern.findNext fn = none) (hfind : Extern.find fn = some (Extern.SlicesOverlaps.overlaps #[tS, tS] #[tR])) (ht : T.und tS = .sl e) (hs : T.siz e ≠ 0)
    {i1 i2 s1 s2 o1 o2 l1 l2 e1 e2 z1 z2 : Nat} {R1 R2 : List (List AV)} (hx : evS σ x = (True, .osl i1 s1 o1 l1)) (hy : evS σ y = (True, .osl i2 s2 o2 l2)) (hne : i1 ≠ i2) (hl1 : 0 < l1) (hl2 : 0 < l2) (hz2 : s2 ≠ 0)
    (hb1 : hget σ.hp i1 = some (.cells e1 z1 R1)) (_hb2 : hget σ.hp i2 = some (.cells e2 z2 R2)) : Trip P C o σ (σ.put o.dst (.bool false)) := by
  refine trip_value fun μ S a w hi => ?_
  have hv := hi.evS x (by rw [hx]; trivial)
  have hu := hi.evS y (by rw [hy]; trivial)
  have hg := hi.evS c (by rw [hc]; trivial)
  rw [hx] at hv; rw [hy] at hu; rw [hc] at hg
  obtain ⟨A, ca, ha, hca, hor⟩ := hv.inv_osl
  obtain ⟨B, cb, hb, hcb, hor2⟩ := hu.inv_osl
  obtain ⟨vals, he, hl, _⟩ := hg.inv_fn
  have hv0 : vals = #[] := Array.eq_empty_of_size_eq_zero (by simpa using hl)
  subst hv0
  have hty : P.underlying tS = some (.slice e) := by have := hT.und tS; rw [ht] at this; exact this
  rcases hor with ⟨h, _⟩ | ⟨g1, n1, m1, k1, rfl, k3, k4⟩
  · omega
  rcases hor2 with ⟨h, _⟩ | ⟨g2, n2, m2, q1, rfl, q3, q4⟩
  · omega
  have hgne : g1 ≠ g2 := fun h => hne (hi.inj i1 i2 g1 k1 (h ▸ q1))
  have hfro : ∀ off, w.frozen? { block := g1, off } = false := fun off => by
    rcases hi.hp i1 _ hb1 with ⟨_, h⟩ | ⟨g', c', h1, h2, _⟩
    · rw [k1] at h; cases h
    · rw [k1] at h1; injection h1 with h1; subst h1
      simp [World.frozen?, h2]
  have hsh : ∀ {g n m}, rowSize w g = some (n, m) → w.shape? g = some (n, m) := fun {g n m} h => by
    unfold rowSize at h
    unfold World.shape?
    split at h
    · rename_i h'
      rw [h']; exact h
    · cases h
  have hm2 : m2 ≠ 0 := by
    rw [← q4]
    exact Nat.mul_ne_zero (by omega) hz2
  have hrun := Lib.run_overlaps_apart (P := P) w tS tR e hty (T.siz e) (fun w => sizeOf_of hT hs) ⟨g1, o1 * s1, none⟩ ⟨g2, o2 * s2, none⟩ l1 ca l2 cb hgne n1 n2 m1 m2 (hsh k3) (hsh q3) hm2 (hfro _) (hfro _)
  have hcall := run_callFunc_extern hf hname hbody hnx hfind #[a.eval x, a.eval y] w
  rw [ha, hb, hrun] at hcall
  refine ⟨.bool false, ?_, .pure (.bool _)⟩
  simp [execOp, ho, resolve, he, Deferred.ofValue, invoke, ha, hb, hcall]

/-- ROWS THAT NOBODY ASKS FOR ARE FORGOTTEN. -/
theorem le_shrink (n : Nat) {id e s : Nat} {rows : List (List AV)} (hb : hget σ.hp id = some (.cells e s rows)) : Le C σ ⟨σ.tm, hset σ.hp id (.cells e s (rows.take n))⟩ := by
  rintro a w ⟨μ, S, hi⟩
  refine ⟨μ, S, hi.size, hi.defers, hi.tm, fun i b hb' => ?_, fun i q hq => ?_, hi.inj, hi.frm, hi.sb⟩
  · simp only [hget_hset] at hb'
    split at hb'
    · rename_i h1
      injection hb' with hb'
      subst h1 hb'
      rcases hi.hp id _ hb with ⟨rfl, k2⟩ | ⟨g, c, k1, k2, k3, k4, k5⟩
      · exact .inl ⟨by simp, k2⟩
      · refine .inr ⟨g, c, k1, k2, Nat.le_trans (Nat.mul_le_mul_right _ (by rw [List.length_take]; omega)) k3, fun row hr => k4 row (List.mem_of_mem_take hr), fun i row hr j x hx => ?_⟩
        rw [List.getElem?_take] at hr
        split at hr
        · exact k5 i row hr j x hx
        · cases hr
    · exact hi.hp i b hb'
  · obtain ⟨⟨b, h1⟩, h2⟩ := hi.dom i q hq
    refine ⟨?_, h2⟩
    simp only [hget_hset]
    split
    · exact ⟨_, rfl⟩
    · exact ⟨b, h1⟩

/-- a nil slice, as an empty one -/
def nil1 : AV → AV
  | .nils => .sl []
  | x => x
theorem Rd.nil1 {v : Value} {x : AV} (h : Rd μ S w v x) : Rd μ S w v (nil1 x) := by
  cases x <;> try exact h
  exact h.nrm

/-- WHAT IS HANDED BACK IN SOME BLOCK is handed back in block 'k', nil slices as empty ones. -/
theorem FnOK.renum {f : FuncId} {args : List AV} {H : List (Nat × Blk)} {s e n : Nat} {rows rows' : List (List AV)} (k : Nat) (h : FnOK P f args H fun r H' => ∃ j, r = .osl j s 0 n ∧ hget H' j = some (.cells e s rows))
    (hr : rows.map (fun row => row.map nil1) = rows') (hp : ∀ row, row ∈ rows → ∀ x, x ∈ row → refs x = []) : FnOK P f args H fun r H' => r = .osl k s 0 n ∧ ∀ i b, hget [(k, .cells e s rows')] i = some b → hget H' i = some b := by
  subst hr
  intro R0 μ w0 vs hl ha hH hR
  refine (h R0 μ w0 vs hl ha hH hR).mono ?_
  rintro e' w' ⟨v, r, H', μ', S', rfl, ⟨j, rfl, hb⟩, h4, h5, h6, h7, h8⟩
  let ν : Nat → Option Nat := fun i => if i = k then μ' j else none
  have hν : ∀ {i g}, ν i = some g → i = k ∧ μ' j = some g := fun {i g} h => by
    simp only [ν] at h
    split at h
    · exact ⟨by assumption, h⟩
    · cases h
  have hνk : ν k = μ' j := by simp [ν]
  refine ⟨v, _, [(k, .cells e s (rows.map (fun row => row.map nil1)))], ν, S', rfl, ⟨rfl, fun i b h => h⟩, ?_, ⟨fun i b h => ?_, fun i g h => ?_, fun i i' g h h' => by rw [(hν h).1, (hν h').1], h5.glob.sub fun i g h => ⟨j, (hν h).2⟩⟩, h6, fun i g h => h7 j g (hν h).2, h8⟩
  · obtain ⟨A, cap, rfl, hc, hor⟩ := h4.inv_osl
    refine .osl k s 0 n cap A hc ?_
    rcases hor with h | ⟨g, e2, m, k1, k2, k3, k4⟩
    · exact .inl h
    · exact .inr ⟨g, e2, m, hνk.trans k1, k2, k3, k4⟩
  · simp only [hget] at h
    split at h
    · rename_i hk
      injection h with h
      subst hk h
      rcases h5.blk j _ hb with ⟨k1, k2⟩ | ⟨g, c, k1, k2, k3, k4, k5⟩
      · exact .inl ⟨by rw [k1]; rfl, hνk.trans k2⟩
      · refine .inr ⟨g, c, hνk.trans k1, k2, by rw [List.length_map]; exact k3, fun row hrow => ?_, fun i row hi q x hx => ?_⟩
        · obtain ⟨r0, h0, rfl⟩ := List.mem_map.1 hrow
          rw [List.length_map]; exact k4 r0 h0
        · rw [List.getElem?_map] at hi
          cases e0 : rows[i]? with
          | none => rw [e0] at hi; cases hi
          | some r0 =>
            rw [e0] at hi
            simp only [Option.map_some, Option.some.injEq] at hi
            subst hi
            rw [List.getElem?_map] at hx
            cases e1 : r0[q]? with
            | none => rw [e1] at hx; cases hx
            | some y =>
              rw [e1] at hx
              simp only [Option.map_some, Option.some.injEq] at hx
              subst hx
              exact ((k5 i r0 e0 q y e1).free (hp r0 (List.mem_of_getElem? e0) y (List.mem_of_getElem? e1))).nil1
    · cases h
  · obtain ⟨h1, h2⟩ := hν h
    subst h1
    exact ⟨⟨.cells e s (rows.map (fun row => row.map nil1)), by simp [hget]⟩, (h5.dom j g h2).2⟩
end
end Go.Eng

namespace Go.Eng
def tUnd : TypeId → KD
  | 2 => (.int .i64)
  | 3 => (.int .i64)
  | 4 => .bool
  | 5 => (.int .u8)
  | 6 => (.int .u8)
  | 7 => .struct
  | 8 => .struct
  | 9 => .str
  | 10 => .str
  | 11 => .str
  | 12 => (.int .u64)
  | 13 => .struct
  | 14 => .struct
  | 15 => (.ptr 223)
  | 16 => (.ptr 226)
  | 17 => (.ptr 235)
  | 18 => .struct
  | 19 => .struct
  | 21 => (.int .i32)
  | 22 => (.sl 27)
  | 23 => (.sl 5)
  | 24 => .struct
  | 25 => .struct
  | 26 => .struct
  | 27 => .struct
  | 28 => (.int .i64)
  | 33 => (.sl 25)
  | 39 => (.sl 46)
  | 41 => (.map 3 46)
  | 42 => (.map 3 46)
  | 44 => (.sl 115)
  | 45 => .struct
  | 46 => .struct
  | 68 => (.sl 28)
  | 69 => (.sl 3)
  | 70 => (.sl 72)
  | 71 => .struct
  | 72 => .struct
  | 91 => (.map 3 4)
  | 95 => (.sl 158)
  | 96 => .struct
  | 97 => .struct
  | 101 => (.sl 154)
  | 107 => (.ptr 27)
  | 112 => (.ptr 3)
  | 113 => (.sl 112)
  | 114 => .struct
  | 115 => .struct
  | 125 => (.sl 9)
  | 141 => (.ptr 143)
  | 142 => .struct
  | 143 => .struct
  | 153 => .struct
  | 154 => .struct
  | 157 => .struct
  | 158 => .struct
  | 163 => (.map 3 3)
  | 166 => (.ptr 25)
  | 181 => (.int .u64)
  | 192 => (.ptr 194)
  | 193 => .struct
  | 194 => .struct
  | 198 => (.int .i64)
  | 205 => (.int .u32)
  | 207 => (.int .u64)
  | 213 => (.int .u64)
  | 218 => (.ptr 213)
  | 222 => .struct
  | 223 => .struct
  | 228 => (.int .u8)
  | 229 => (.int .u8)
  | 231 => (.ptr 5)
  | 232 => (.int .i32)
  | 233 => (.int .i32)
  | _ => .other
def tSiz : TypeId → Nat
  | 2 => 1
  | 3 => 1
  | 4 => 1
  | 5 => 1
  | 6 => 1
  | 7 => 4
  | 8 => 4
  | 9 => 1
  | 10 => 1
  | 11 => 1
  | 12 => 1
  | 13 => 2
  | 14 => 2
  | 15 => 1
  | 16 => 1
  | 17 => 1
  | 18 => 1
  | 19 => 1
  | 21 => 1
  | 22 => 1
  | 23 => 1
  | 24 => 7
  | 25 => 7
  | 26 => 9
  | 27 => 9
  | 28 => 1
  | 33 => 1
  | 39 => 1
  | 41 => 1
  | 42 => 1
  | 44 => 1
  | 45 => 5
  | 46 => 5
  | 68 => 1
  | 69 => 1
  | 70 => 1
  | 71 => 8
  | 72 => 8
  | 91 => 1
  | 95 => 1
  | 96 => 3
  | 97 => 3
  | 101 => 1
  | 107 => 1
  | 112 => 1
  | 113 => 1
  | 114 => 2
  | 115 => 2
  | 125 => 1
  | 141 => 1
  | 142 => 9
  | 143 => 9
  | 153 => 2
  | 154 => 2
  | 157 => 8
  | 158 => 8
  | 163 => 1
  | 166 => 1
  | 181 => 1
  | 192 => 1
  | 193 => 6
  | 194 => 6
  | 198 => 1
  | 205 => 1
  | 207 => 1
  | 213 => 1
  | 218 => 1
  | 222 => 4
  | 223 => 4
  | 228 => 1
  | 229 => 1
  | 231 => 1
  | 232 => 1
  | 233 => 1
  | _ => 0
def tByt : TypeId → Nat
  | 2 => 8
  | 3 => 8
  | 4 => 1
  | 5 => 1
  | 6 => 1
  | 7 => 24
  | 8 => 24
  | 9 => 16
  | 10 => 16
  | 11 => 16
  | 12 => 8
  | 13 => 24
  | 14 => 24
  | 15 => 8
  | 16 => 8
  | 17 => 8
  | 18 => 8
  | 19 => 8
  | 21 => 4
  | 22 => 24
  | 23 => 24
  | 24 => 88
  | 25 => 88
  | 26 => 104
  | 27 => 104
  | 28 => 8
  | 33 => 24
  | 39 => 24
  | 41 => 8
  | 42 => 8
  | 44 => 24
  | 45 => 72
  | 46 => 72
  | 68 => 24
  | 69 => 24
  | 70 => 24
  | 71 => 96
  | 72 => 96
  | 91 => 8
  | 95 => 24
  | 96 => 56
  | 97 => 56
  | 101 => 24
  | 107 => 8
  | 112 => 8
  | 113 => 24
  | 114 => 24
  | 115 => 24
  | 125 => 24
  | 141 => 8
  | 142 => 120
  | 143 => 120
  | 153 => 16
  | 154 => 16
  | 157 => 96
  | 158 => 96
  | 163 => 8
  | 166 => 8
  | 181 => 8
  | 192 => 8
  | 193 => 64
  | 194 => 64
  | 198 => 8
  | 205 => 4
  | 207 => 8
  | 213 => 8
  | 218 => 8
  | 222 => 40
  | 223 => 40
  | 228 => 1
  | 229 => 1
  | 231 => 8
  | 232 => 4
  | 233 => 4
  | _ => 0
def tZer : TypeId → List AV
  | 2 => [.int .i64 0]
  | 3 => [.int .i64 0]
  | 4 => [.bool false]
  | 5 => [.int .u8 0]
  | 6 => [.int .u8 0]
  | 7 => [.int .i64 0, .int .i64 0, .bool false, .int .u8 0]
  | 8 => [.int .i64 0, .int .i64 0, .bool false, .int .u8 0]
  | 9 => [.str []]
  | 10 => [.str []]
  | 11 => [.str []]
  | 12 => [.int .u64 0]
  | 13 => [.str [], .int .u64 0]
  | 14 => [.str [], .int .u64 0]
  | 15 => [.nilp]
  | 16 => [.nilp]
  | 17 => [.nilp]
  | 18 => [.nilp]
  | 19 => [.nilp]
  | 21 => [.int .i32 0]
  | 22 => [.nils]
  | 23 => [.nils]
  | 24 => [.int .i64 0, .int .i64 0, .int .i64 0, .str [], .int .i64 0, .str [], .nils]
  | 25 => [.int .i64 0, .int .i64 0, .int .i64 0, .str [], .int .i64 0, .str [], .nils]
  | 26 => [.int .i64 0, .int .i64 0, .int .i64 0, .str [], .int .i64 0, .str [], .nils, .int .i64 0, .int .i64 0]
  | 27 => [.int .i64 0, .int .i64 0, .int .i64 0, .str [], .int .i64 0, .str [], .nils, .int .i64 0, .int .i64 0]
  | 28 => [.int .i64 0]
  | 33 => [.nils]
  | 39 => [.nils]
  | 41 => [.nilm]
  | 42 => [.nilm]
  | 44 => [.nils]
  | 45 => [.int .i64 0, .bool false, .nils, .nils, .int .i64 0]
  | 46 => [.int .i64 0, .bool false, .nils, .nils, .int .i64 0]
  | 68 => [.nils]
  | 69 => [.nils]
  | 70 => [.nils]
  | 71 => [.int .i64 0, .bool false, .nils, .nils, .int .i64 0, .bool false, .int .i64 0, .int .i64 0]
  | 72 => [.int .i64 0, .bool false, .nils, .nils, .int .i64 0, .bool false, .int .i64 0, .int .i64 0]
  | 91 => [.nilm]
  | 95 => [.nils]
  | 96 => [.nils, .int .i64 0, .nils]
  | 97 => [.nils, .int .i64 0, .nils]
  | 101 => [.nils]
  | 107 => [.nilp]
  | 112 => [.nilp]
  | 113 => [.nils]
  | 114 => [.str [], .int .i64 0]
  | 115 => [.str [], .int .i64 0]
  | 125 => [.nils]
  | 141 => [.nilp]
  | 142 => [.nils, .int .i64 0, .int .i64 0, .int .i64 0, .str [], .int .i64 0, .str [], .nils, .int .i64 0]
  | 143 => [.nils, .int .i64 0, .int .i64 0, .int .i64 0, .str [], .int .i64 0, .str [], .nils, .int .i64 0]
  | 153 => [.int .i64 0, .int .i64 0]
  | 154 => [.int .i64 0, .int .i64 0]
  | 157 => [.int .i64 0, .int .i64 0, .int .i64 0, .int .i64 0, .str [], .int .i64 0, .str [], .nils]
  | 158 => [.int .i64 0, .int .i64 0, .int .i64 0, .int .i64 0, .str [], .int .i64 0, .str [], .nils]
  | 163 => [.nilm]
  | 166 => [.nilp]
  | 181 => [.int .u64 0]
  | 192 => [.nilp]
  | 193 => [.nils, .int .i64 0, .int .i64 0, .nilm, .nilm, .nilm]
  | 194 => [.nils, .int .i64 0, .int .i64 0, .nilm, .nilm, .nilm]
  | 198 => [.int .i64 0]
  | 205 => [.int .u32 0]
  | 207 => [.int .u64 0]
  | 213 => [.int .u64 0]
  | 218 => [.nilp]
  | 222 => [.nilp, .nilp, .nilp, .str []]
  | 223 => [.nilp, .nilp, .nilp, .str []]
  | 228 => [.int .u8 0]
  | 229 => [.int .u8 0]
  | 231 => [.nilp]
  | 232 => [.int .i32 0]
  | 233 => [.int .i32 0]
  | _ => []
def tFl : TypeId → List (TypeId × Nat)
  | 7 => [(2, 0), (3, 1), (4, 2), (6, 3)]
  | 8 => [(2, 0), (3, 1), (4, 2), (6, 3)]
  | 13 => [(9, 0), (12, 1)]
  | 14 => [(9, 0), (12, 1)]
  | 18 => [(17, 0)]
  | 19 => [(17, 0)]
  | 24 => [(3, 0), (3, 1), (3, 2), (9, 3), (3, 4), (9, 5), (23, 6)]
  | 25 => [(3, 0), (3, 1), (3, 2), (9, 3), (3, 4), (9, 5), (23, 6)]
  | 26 => [(25, 0), (3, 7), (3, 8)]
  | 27 => [(25, 0), (3, 7), (3, 8)]
  | 45 => [(3, 0), (4, 1), (23, 2), (44, 3), (3, 4)]
  | 46 => [(3, 0), (4, 1), (23, 2), (44, 3), (3, 4)]
  | 71 => [(46, 0), (4, 5), (3, 6), (3, 7)]
  | 72 => [(46, 0), (4, 5), (3, 6), (3, 7)]
  | 96 => [(39, 0), (3, 1), (95, 2)]
  | 97 => [(39, 0), (3, 1), (95, 2)]
  | 114 => [(9, 0), (3, 1)]
  | 115 => [(9, 0), (3, 1)]
  | 142 => [(39, 0), (25, 1), (3, 8)]
  | 143 => [(39, 0), (25, 1), (3, 8)]
  | 153 => [(28, 0), (3, 1)]
  | 154 => [(28, 0), (3, 1)]
  | 157 => [(3, 0), (25, 1)]
  | 158 => [(3, 0), (25, 1)]
  | 193 => [(39, 0), (3, 1), (3, 2), (163, 3), (91, 4), (91, 5)]
  | 194 => [(39, 0), (3, 1), (3, 2), (163, 3), (91, 4), (91, 5)]
  | 222 => [(17, 0), (17, 1), (17, 2), (9, 3)]
  | 223 => [(17, 0), (17, 1), (17, 2), (9, 3)]
  | _ => []
def tFld (t : TypeId) (j : Nat) : Option (TypeId × Nat) := (tFl t)[j]?
def tab : Tab := ⟨tUnd, tSiz, tByt, tZer, tFld⟩
@[go_sem] theorem tab_und_2 : tab.und 2 = (.int .i64) := rfl
@[go_sem] theorem tab_siz_2 : tab.siz 2 = 1 := rfl
@[go_sem] theorem tab_byt_2 : tab.byt 2 = 8 := rfl
@[go_sem] theorem tab_zer_2 : tab.zer 2 = [.int .i64 0] := rfl
@[go_sem] theorem tab_und_3 : tab.und 3 = (.int .i64) := rfl
@[go_sem] theorem tab_siz_3 : tab.siz 3 = 1 := rfl
@[go_sem] theorem tab_byt_3 : tab.byt 3 = 8 := rfl
@[go_sem] theorem tab_zer_3 : tab.zer 3 = [.int .i64 0] := rfl
@[go_sem] theorem tab_und_4 : tab.und 4 = .bool := rfl
@[go_sem] theorem tab_siz_4 : tab.siz 4 = 1 := rfl
@[go_sem] theorem tab_byt_4 : tab.byt 4 = 1 := rfl
@[go_sem] theorem tab_zer_4 : tab.zer 4 = [.bool false] := rfl
@[go_sem] theorem tab_und_5 : tab.und 5 = (.int .u8) := rfl
@[go_sem] theorem tab_siz_5 : tab.siz 5 = 1 := rfl
@[go_sem] theorem tab_byt_5 : tab.byt 5 = 1 := rfl
@[go_sem] theorem tab_zer_5 : tab.zer 5 = [.int .u8 0] := rfl
@[go_sem] theorem tab_und_6 : tab.und 6 = (.int .u8) := rfl
@[go_sem] theorem tab_siz_6 : tab.siz 6 = 1 := rfl
@[go_sem] theorem tab_byt_6 : tab.byt 6 = 1 := rfl
@[go_sem] theorem tab_zer_6 : tab.zer 6 = [.int .u8 0] := rfl
@[go_sem] theorem tab_und_7 : tab.und 7 = .struct := rfl
@[go_sem] theorem tab_siz_7 : tab.siz 7 = 4 := rfl
@[go_sem] theorem tab_byt_7 : tab.byt 7 = 24 := rfl
@[go_sem] theorem tab_zer_7 : tab.zer 7 = [.int .i64 0, .int .i64 0, .bool false, .int .u8 0] := rfl
@[go_sem] theorem tab_fld_7_0 : tab.fld 7 0 = some (2, 0) := rfl
@[go_sem] theorem tab_fld_7_1 : tab.fld 7 1 = some (3, 1) := rfl
@[go_sem] theorem tab_fld_7_2 : tab.fld 7 2 = some (4, 2) := rfl
@[go_sem] theorem tab_fld_7_3 : tab.fld 7 3 = some (6, 3) := rfl
@[go_sem] theorem tab_und_8 : tab.und 8 = .struct := rfl
@[go_sem] theorem tab_siz_8 : tab.siz 8 = 4 := rfl
@[go_sem] theorem tab_byt_8 : tab.byt 8 = 24 := rfl
@[go_sem] theorem tab_zer_8 : tab.zer 8 = [.int .i64 0, .int .i64 0, .bool false, .int .u8 0] := rfl
@[go_sem] theorem tab_fld_8_0 : tab.fld 8 0 = some (2, 0) := rfl
@[go_sem] theorem tab_fld_8_1 : tab.fld 8 1 = some (3, 1) := rfl
@[go_sem] theorem tab_fld_8_2 : tab.fld 8 2 = some (4, 2) := rfl
@[go_sem] theorem tab_fld_8_3 : tab.fld 8 3 = some (6, 3) := rfl
@[go_sem] theorem tab_und_9 : tab.und 9 = .str := rfl
@[go_sem] theorem tab_siz_9 : tab.siz 9 = 1 := rfl
@[go_sem] theorem tab_byt_9 : tab.byt 9 = 16 := rfl
@[go_sem] theorem tab_zer_9 : tab.zer 9 = [.str []] := rfl
@[go_sem] theorem tab_und_10 : tab.und 10 = .str := rfl
@[go_sem] theorem tab_siz_10 : tab.siz 10 = 1 := rfl
@[go_sem] theorem tab_byt_10 : tab.byt 10 = 16 := rfl
@[go_sem] theorem tab_zer_10 : tab.zer 10 = [.str []] := rfl
@[go_sem] theorem tab_und_11 : tab.und 11 = .str := rfl
@[go_sem] theorem tab_siz_11 : tab.siz 11 = 1 := rfl
@[go_sem] theorem tab_byt_11 : tab.byt 11 = 16 := rfl
@[go_sem] theorem tab_zer_11 : tab.zer 11 = [.str []] := rfl
@[go_sem] theorem tab_und_12 : tab.und 12 = (.int .u64) := rfl
@[go_sem] theorem tab_siz_12 : tab.siz 12 = 1 := rfl
@[go_sem] theorem tab_byt_12 : tab.byt 12 = 8 := rfl
@[go_sem] theorem tab_zer_12 : tab.zer 12 = [.int .u64 0] := rfl
@[go_sem] theorem tab_und_13 : tab.und 13 = .struct := rfl
@[go_sem] theorem tab_siz_13 : tab.siz 13 = 2 := rfl
@[go_sem] theorem tab_byt_13 : tab.byt 13 = 24 := rfl
@[go_sem] theorem tab_zer_13 : tab.zer 13 = [.str [], .int .u64 0] := rfl
@[go_sem] theorem tab_fld_13_0 : tab.fld 13 0 = some (9, 0) := rfl
@[go_sem] theorem tab_fld_13_1 : tab.fld 13 1 = some (12, 1) := rfl
@[go_sem] theorem tab_und_14 : tab.und 14 = .struct := rfl
@[go_sem] theorem tab_siz_14 : tab.siz 14 = 2 := rfl
@[go_sem] theorem tab_byt_14 : tab.byt 14 = 24 := rfl
@[go_sem] theorem tab_zer_14 : tab.zer 14 = [.str [], .int .u64 0] := rfl
@[go_sem] theorem tab_fld_14_0 : tab.fld 14 0 = some (9, 0) := rfl
@[go_sem] theorem tab_fld_14_1 : tab.fld 14 1 = some (12, 1) := rfl
@[go_sem] theorem tab_und_15 : tab.und 15 = (.ptr 223) := rfl
@[go_sem] theorem tab_siz_15 : tab.siz 15 = 1 := rfl
@[go_sem] theorem tab_byt_15 : tab.byt 15 = 8 := rfl
@[go_sem] theorem tab_zer_15 : tab.zer 15 = [.nilp] := rfl
@[go_sem] theorem tab_und_16 : tab.und 16 = (.ptr 226) := rfl
@[go_sem] theorem tab_siz_16 : tab.siz 16 = 1 := rfl
@[go_sem] theorem tab_byt_16 : tab.byt 16 = 8 := rfl
@[go_sem] theorem tab_zer_16 : tab.zer 16 = [.nilp] := rfl
@[go_sem] theorem tab_und_17 : tab.und 17 = (.ptr 235) := rfl
@[go_sem] theorem tab_siz_17 : tab.siz 17 = 1 := rfl
@[go_sem] theorem tab_byt_17 : tab.byt 17 = 8 := rfl
@[go_sem] theorem tab_zer_17 : tab.zer 17 = [.nilp] := rfl
@[go_sem] theorem tab_und_18 : tab.und 18 = .struct := rfl
@[go_sem] theorem tab_siz_18 : tab.siz 18 = 1 := rfl
@[go_sem] theorem tab_byt_18 : tab.byt 18 = 8 := rfl
@[go_sem] theorem tab_zer_18 : tab.zer 18 = [.nilp] := rfl
@[go_sem] theorem tab_fld_18_0 : tab.fld 18 0 = some (17, 0) := rfl
@[go_sem] theorem tab_und_19 : tab.und 19 = .struct := rfl
@[go_sem] theorem tab_siz_19 : tab.siz 19 = 1 := rfl
@[go_sem] theorem tab_byt_19 : tab.byt 19 = 8 := rfl
@[go_sem] theorem tab_zer_19 : tab.zer 19 = [.nilp] := rfl
@[go_sem] theorem tab_fld_19_0 : tab.fld 19 0 = some (17, 0) := rfl
@[go_sem] theorem tab_und_21 : tab.und 21 = (.int .i32) := rfl
@[go_sem] theorem tab_siz_21 : tab.siz 21 = 1 := rfl
@[go_sem] theorem tab_byt_21 : tab.byt 21 = 4 := rfl
@[go_sem] theorem tab_zer_21 : tab.zer 21 = [.int .i32 0] := rfl
@[go_sem] theorem tab_und_22 : tab.und 22 = (.sl 27) := rfl
@[go_sem] theorem tab_siz_22 : tab.siz 22 = 1 := rfl
@[go_sem] theorem tab_byt_22 : tab.byt 22 = 24 := rfl
@[go_sem] theorem tab_zer_22 : tab.zer 22 = [.nils] := rfl
@[go_sem] theorem tab_und_23 : tab.und 23 = (.sl 5) := rfl
@[go_sem] theorem tab_siz_23 : tab.siz 23 = 1 := rfl
@[go_sem] theorem tab_byt_23 : tab.byt 23 = 24 := rfl
@[go_sem] theorem tab_zer_23 : tab.zer 23 = [.nils] := rfl
@[go_sem] theorem tab_und_24 : tab.und 24 = .struct := rfl
@[go_sem] theorem tab_siz_24 : tab.siz 24 = 7 := rfl
@[go_sem] theorem tab_byt_24 : tab.byt 24 = 88 := rfl
@[go_sem] theorem tab_zer_24 : tab.zer 24 = [.int .i64 0, .int .i64 0, .int .i64 0, .str [], .int .i64 0, .str [], .nils] := rfl
@[go_sem] theorem tab_fld_24_0 : tab.fld 24 0 = some (3, 0) := rfl
@[go_sem] theorem tab_fld_24_1 : tab.fld 24 1 = some (3, 1) := rfl
@[go_sem] theorem tab_fld_24_2 : tab.fld 24 2 = some (3, 2) := rfl
@[go_sem] theorem tab_fld_24_3 : tab.fld 24 3 = some (9, 3) := rfl
@[go_sem] theorem tab_fld_24_4 : tab.fld 24 4 = some (3, 4) := rfl
@[go_sem] theorem tab_fld_24_5 : tab.fld 24 5 = some (9, 5) := rfl
@[go_sem] theorem tab_fld_24_6 : tab.fld 24 6 = some (23, 6) := rfl
@[go_sem] theorem tab_und_25 : tab.und 25 = .struct := rfl
@[go_sem] theorem tab_siz_25 : tab.siz 25 = 7 := rfl
@[go_sem] theorem tab_byt_25 : tab.byt 25 = 88 := rfl
@[go_sem] theorem tab_zer_25 : tab.zer 25 = [.int .i64 0, .int .i64 0, .int .i64 0, .str [], .int .i64 0, .str [], .nils] := rfl
@[go_sem] theorem tab_fld_25_0 : tab.fld 25 0 = some (3, 0) := rfl
@[go_sem] theorem tab_fld_25_1 : tab.fld 25 1 = some (3, 1) := rfl
@[go_sem] theorem tab_fld_25_2 : tab.fld 25 2 = some (3, 2) := rfl
@[go_sem] theorem tab_fld_25_3 : tab.fld 25 3 = some (9, 3) := rfl
@[go_sem] theorem tab_fld_25_4 : tab.fld 25 4 = some (3, 4) := rfl
@[go_sem] theorem tab_fld_25_5 : tab.fld 25 5 = some (9, 5) := rfl
@[go_sem] theorem tab_fld_25_6 : tab.fld 25 6 = some (23, 6) := rfl
@[go_sem] theorem tab_und_26 : tab.und 26 = .struct := rfl
@[go_sem] theorem tab_siz_26 : tab.siz 26 = 9 := rfl
@[go_sem] theorem tab_byt_26 : tab.byt 26 = 104 := rfl
@[go_sem] theorem tab_zer_26 : tab.zer 26 = [.int .i64 0, .int .i64 0, .int .i64 0, .str [], .int .i64 0, .str [], .nils, .int .i64 0, .int .i64 0] := rfl
@[go_sem] theorem tab_fld_26_0 : tab.fld 26 0 = some (25, 0) := rfl
@[go_sem] theorem tab_fld_26_1 : tab.fld 26 1 = some (3, 7) := rfl
@[go_sem] theorem tab_fld_26_2 : tab.fld 26 2 = some (3, 8) := rfl
@[go_sem] theorem tab_und_27 : tab.und 27 = .struct := rfl
@[go_sem] theorem tab_siz_27 : tab.siz 27 = 9 := rfl
@[go_sem] theorem tab_byt_27 : tab.byt 27 = 104 := rfl
@[go_sem] theorem tab_zer_27 : tab.zer 27 = [.int .i64 0, .int .i64 0, .int .i64 0, .str [], .int .i64 0, .str [], .nils, .int .i64 0, .int .i64 0] := rfl
@[go_sem] theorem tab_fld_27_0 : tab.fld 27 0 = some (25, 0) := rfl
@[go_sem] theorem tab_fld_27_1 : tab.fld 27 1 = some (3, 7) := rfl
@[go_sem] theorem tab_fld_27_2 : tab.fld 27 2 = some (3, 8) := rfl
@[go_sem] theorem tab_und_28 : tab.und 28 = (.int .i64) := rfl
@[go_sem] theorem tab_siz_28 : tab.siz 28 = 1 := rfl
@[go_sem] theorem tab_byt_28 : tab.byt 28 = 8 := rfl
@[go_sem] theorem tab_zer_28 : tab.zer 28 = [.int .i64 0] := rfl
@[go_sem] theorem tab_und_33 : tab.und 33 = (.sl 25) := rfl
@[go_sem] theorem tab_siz_33 : tab.siz 33 = 1 := rfl
@[go_sem] theorem tab_byt_33 : tab.byt 33 = 24 := rfl
@[go_sem] theorem tab_zer_33 : tab.zer 33 = [.nils] := rfl
@[go_sem] theorem tab_und_39 : tab.und 39 = (.sl 46) := rfl
@[go_sem] theorem tab_siz_39 : tab.siz 39 = 1 := rfl
@[go_sem] theorem tab_byt_39 : tab.byt 39 = 24 := rfl
@[go_sem] theorem tab_zer_39 : tab.zer 39 = [.nils] := rfl
@[go_sem] theorem tab_und_41 : tab.und 41 = (.map 3 46) := rfl
@[go_sem] theorem tab_siz_41 : tab.siz 41 = 1 := rfl
@[go_sem] theorem tab_byt_41 : tab.byt 41 = 8 := rfl
@[go_sem] theorem tab_zer_41 : tab.zer 41 = [.nilm] := rfl
@[go_sem] theorem tab_und_42 : tab.und 42 = (.map 3 46) := rfl
@[go_sem] theorem tab_siz_42 : tab.siz 42 = 1 := rfl
@[go_sem] theorem tab_byt_42 : tab.byt 42 = 8 := rfl
@[go_sem] theorem tab_zer_42 : tab.zer 42 = [.nilm] := rfl
@[go_sem] theorem tab_und_44 : tab.und 44 = (.sl 115) := rfl
@[go_sem] theorem tab_siz_44 : tab.siz 44 = 1 := rfl
@[go_sem] theorem tab_byt_44 : tab.byt 44 = 24 := rfl
@[go_sem] theorem tab_zer_44 : tab.zer 44 = [.nils] := rfl
@[go_sem] theorem tab_und_45 : tab.und 45 = .struct := rfl
@[go_sem] theorem tab_siz_45 : tab.siz 45 = 5 := rfl
@[go_sem] theorem tab_byt_45 : tab.byt 45 = 72 := rfl
@[go_sem] theorem tab_zer_45 : tab.zer 45 = [.int .i64 0, .bool false, .nils, .nils, .int .i64 0] := rfl
@[go_sem] theorem tab_fld_45_0 : tab.fld 45 0 = some (3, 0) := rfl
@[go_sem] theorem tab_fld_45_1 : tab.fld 45 1 = some (4, 1) := rfl
@[go_sem] theorem tab_fld_45_2 : tab.fld 45 2 = some (23, 2) := rfl
@[go_sem] theorem tab_fld_45_3 : tab.fld 45 3 = some (44, 3) := rfl
@[go_sem] theorem tab_fld_45_4 : tab.fld 45 4 = some (3, 4) := rfl
@[go_sem] theorem tab_und_46 : tab.und 46 = .struct := rfl
@[go_sem] theorem tab_siz_46 : tab.siz 46 = 5 := rfl
@[go_sem] theorem tab_byt_46 : tab.byt 46 = 72 := rfl
@[go_sem] theorem tab_zer_46 : tab.zer 46 = [.int .i64 0, .bool false, .nils, .nils, .int .i64 0] := rfl
@[go_sem] theorem tab_fld_46_0 : tab.fld 46 0 = some (3, 0) := rfl
@[go_sem] theorem tab_fld_46_1 : tab.fld 46 1 = some (4, 1) := rfl
@[go_sem] theorem tab_fld_46_2 : tab.fld 46 2 = some (23, 2) := rfl
@[go_sem] theorem tab_fld_46_3 : tab.fld 46 3 = some (44, 3) := rfl
@[go_sem] theorem tab_fld_46_4 : tab.fld 46 4 = some (3, 4) := rfl
@[go_sem] theorem tab_und_68 : tab.und 68 = (.sl 28) := rfl
@[go_sem] theorem tab_siz_68 : tab.siz 68 = 1 := rfl
@[go_sem] theorem tab_byt_68 : tab.byt 68 = 24 := rfl
@[go_sem] theorem tab_zer_68 : tab.zer 68 = [.nils] := rfl
@[go_sem] theorem tab_und_69 : tab.und 69 = (.sl 3) := rfl
@[go_sem] theorem tab_siz_69 : tab.siz 69 = 1 := rfl
@[go_sem] theorem tab_byt_69 : tab.byt 69 = 24 := rfl
@[go_sem] theorem tab_zer_69 : tab.zer 69 = [.nils] := rfl
@[go_sem] theorem tab_und_70 : tab.und 70 = (.sl 72) := rfl
@[go_sem] theorem tab_siz_70 : tab.siz 70 = 1 := rfl
@[go_sem] theorem tab_byt_70 : tab.byt 70 = 24 := rfl
@[go_sem] theorem tab_zer_70 : tab.zer 70 = [.nils] := rfl
@[go_sem] theorem tab_und_71 : tab.und 71 = .struct := rfl
@[go_sem] theorem tab_siz_71 : tab.siz 71 = 8 := rfl
@[go_sem] theorem tab_byt_71 : tab.byt 71 = 96 := rfl
@[go_sem] theorem tab_zer_71 : tab.zer 71 = [.int .i64 0, .bool false, .nils, .nils, .int .i64 0, .bool false, .int .i64 0, .int .i64 0] := rfl
@[go_sem] theorem tab_fld_71_0 : tab.fld 71 0 = some (46, 0) := rfl
@[go_sem] theorem tab_fld_71_1 : tab.fld 71 1 = some (4, 5) := rfl
@[go_sem] theorem tab_fld_71_2 : tab.fld 71 2 = some (3, 6) := rfl
@[go_sem] theorem tab_fld_71_3 : tab.fld 71 3 = some (3, 7) := rfl
@[go_sem] theorem tab_und_72 : tab.und 72 = .struct := rfl
@[go_sem] theorem tab_siz_72 : tab.siz 72 = 8 := rfl
@[go_sem] theorem tab_byt_72 : tab.byt 72 = 96 := rfl
@[go_sem] theorem tab_zer_72 : tab.zer 72 = [.int .i64 0, .bool false, .nils, .nils, .int .i64 0, .bool false, .int .i64 0, .int .i64 0] := rfl
@[go_sem] theorem tab_fld_72_0 : tab.fld 72 0 = some (46, 0) := rfl
@[go_sem] theorem tab_fld_72_1 : tab.fld 72 1 = some (4, 5) := rfl
@[go_sem] theorem tab_fld_72_2 : tab.fld 72 2 = some (3, 6) := rfl
@[go_sem] theorem tab_fld_72_3 : tab.fld 72 3 = some (3, 7) := rfl
@[go_sem] theorem tab_und_91 : tab.und 91 = (.map 3 4) := rfl
@[go_sem] theorem tab_siz_91 : tab.siz 91 = 1 := rfl
@[go_sem] theorem tab_byt_91 : tab.byt 91 = 8 := rfl
@[go_sem] theorem tab_zer_91 : tab.zer 91 = [.nilm] := rfl
@[go_sem] theorem tab_und_95 : tab.und 95 = (.sl 158) := rfl
@[go_sem] theorem tab_siz_95 : tab.siz 95 = 1 := rfl
@[go_sem] theorem tab_byt_95 : tab.byt 95 = 24 := rfl
@[go_sem] theorem tab_zer_95 : tab.zer 95 = [.nils] := rfl
@[go_sem] theorem tab_und_96 : tab.und 96 = .struct := rfl
@[go_sem] theorem tab_siz_96 : tab.siz 96 = 3 := rfl
@[go_sem] theorem tab_byt_96 : tab.byt 96 = 56 := rfl
@[go_sem] theorem tab_zer_96 : tab.zer 96 = [.nils, .int .i64 0, .nils] := rfl
@[go_sem] theorem tab_fld_96_0 : tab.fld 96 0 = some (39, 0) := rfl
@[go_sem] theorem tab_fld_96_1 : tab.fld 96 1 = some (3, 1) := rfl
@[go_sem] theorem tab_fld_96_2 : tab.fld 96 2 = some (95, 2) := rfl
@[go_sem] theorem tab_und_97 : tab.und 97 = .struct := rfl
@[go_sem] theorem tab_siz_97 : tab.siz 97 = 3 := rfl
@[go_sem] theorem tab_byt_97 : tab.byt 97 = 56 := rfl
@[go_sem] theorem tab_zer_97 : tab.zer 97 = [.nils, .int .i64 0, .nils] := rfl
@[go_sem] theorem tab_fld_97_0 : tab.fld 97 0 = some (39, 0) := rfl
@[go_sem] theorem tab_fld_97_1 : tab.fld 97 1 = some (3, 1) := rfl
@[go_sem] theorem tab_fld_97_2 : tab.fld 97 2 = some (95, 2) := rfl
@[go_sem] theorem tab_und_101 : tab.und 101 = (.sl 154) := rfl
@[go_sem] theorem tab_siz_101 : tab.siz 101 = 1 := rfl
@[go_sem] theorem tab_byt_101 : tab.byt 101 = 24 := rfl
@[go_sem] theorem tab_zer_101 : tab.zer 101 = [.nils] := rfl
@[go_sem] theorem tab_und_107 : tab.und 107 = (.ptr 27) := rfl
@[go_sem] theorem tab_siz_107 : tab.siz 107 = 1 := rfl
@[go_sem] theorem tab_byt_107 : tab.byt 107 = 8 := rfl
@[go_sem] theorem tab_zer_107 : tab.zer 107 = [.nilp] := rfl
@[go_sem] theorem tab_und_112 : tab.und 112 = (.ptr 3) := rfl
@[go_sem] theorem tab_siz_112 : tab.siz 112 = 1 := rfl
@[go_sem] theorem tab_byt_112 : tab.byt 112 = 8 := rfl
@[go_sem] theorem tab_zer_112 : tab.zer 112 = [.nilp] := rfl
@[go_sem] theorem tab_und_113 : tab.und 113 = (.sl 112) := rfl
@[go_sem] theorem tab_siz_113 : tab.siz 113 = 1 := rfl
@[go_sem] theorem tab_byt_113 : tab.byt 113 = 24 := rfl
@[go_sem] theorem tab_zer_113 : tab.zer 113 = [.nils] := rfl
@[go_sem] theorem tab_und_114 : tab.und 114 = .struct := rfl
@[go_sem] theorem tab_siz_114 : tab.siz 114 = 2 := rfl
@[go_sem] theorem tab_byt_114 : tab.byt 114 = 24 := rfl
@[go_sem] theorem tab_zer_114 : tab.zer 114 = [.str [], .int .i64 0] := rfl
@[go_sem] theorem tab_fld_114_0 : tab.fld 114 0 = some (9, 0) := rfl
@[go_sem] theorem tab_fld_114_1 : tab.fld 114 1 = some (3, 1) := rfl
@[go_sem] theorem tab_und_115 : tab.und 115 = .struct := rfl
@[go_sem] theorem tab_siz_115 : tab.siz 115 = 2 := rfl
@[go_sem] theorem tab_byt_115 : tab.byt 115 = 24 := rfl
@[go_sem] theorem tab_zer_115 : tab.zer 115 = [.str [], .int .i64 0] := rfl
@[go_sem] theorem tab_fld_115_0 : tab.fld 115 0 = some (9, 0) := rfl
@[go_sem] theorem tab_fld_115_1 : tab.fld 115 1 = some (3, 1) := rfl
@[go_sem] theorem tab_und_125 : tab.und 125 = (.sl 9) := rfl
@[go_sem] theorem tab_siz_125 : tab.siz 125 = 1 := rfl
@[go_sem] theorem tab_byt_125 : tab.byt 125 = 24 := rfl
@[go_sem] theorem tab_zer_125 : tab.zer 125 = [.nils] := rfl
@[go_sem] theorem tab_und_141 : tab.und 141 = (.ptr 143) := rfl
@[go_sem] theorem tab_siz_141 : tab.siz 141 = 1 := rfl
@[go_sem] theorem tab_byt_141 : tab.byt 141 = 8 := rfl
@[go_sem] theorem tab_zer_141 : tab.zer 141 = [.nilp] := rfl
@[go_sem] theorem tab_und_142 : tab.und 142 = .struct := rfl
@[go_sem] theorem tab_siz_142 : tab.siz 142 = 9 := rfl
@[go_sem] theorem tab_byt_142 : tab.byt 142 = 120 := rfl
@[go_sem] theorem tab_zer_142 : tab.zer 142 = [.nils, .int .i64 0, .int .i64 0, .int .i64 0, .str [], .int .i64 0, .str [], .nils, .int .i64 0] := rfl
@[go_sem] theorem tab_fld_142_0 : tab.fld 142 0 = some (39, 0) := rfl
@[go_sem] theorem tab_fld_142_1 : tab.fld 142 1 = some (25, 1) := rfl
@[go_sem] theorem tab_fld_142_2 : tab.fld 142 2 = some (3, 8) := rfl
@[go_sem] theorem tab_und_143 : tab.und 143 = .struct := rfl
@[go_sem] theorem tab_siz_143 : tab.siz 143 = 9 := rfl
@[go_sem] theorem tab_byt_143 : tab.byt 143 = 120 := rfl
@[go_sem] theorem tab_zer_143 : tab.zer 143 = [.nils, .int .i64 0, .int .i64 0, .int .i64 0, .str [], .int .i64 0, .str [], .nils, .int .i64 0] := rfl
@[go_sem] theorem tab_fld_143_0 : tab.fld 143 0 = some (39, 0) := rfl
@[go_sem] theorem tab_fld_143_1 : tab.fld 143 1 = some (25, 1) := rfl
@[go_sem] theorem tab_fld_143_2 : tab.fld 143 2 = some (3, 8) := rfl
@[go_sem] theorem tab_und_153 : tab.und 153 = .struct := rfl
@[go_sem] theorem tab_siz_153 : tab.siz 153 = 2 := rfl
@[go_sem] theorem tab_byt_153 : tab.byt 153 = 16 := rfl
@[go_sem] theorem tab_zer_153 : tab.zer 153 = [.int .i64 0, .int .i64 0] := rfl
@[go_sem] theorem tab_fld_153_0 : tab.fld 153 0 = some (28, 0) := rfl
@[go_sem] theorem tab_fld_153_1 : tab.fld 153 1 = some (3, 1) := rfl
@[go_sem] theorem tab_und_154 : tab.und 154 = .struct := rfl
@[go_sem] theorem tab_siz_154 : tab.siz 154 = 2 := rfl
@[go_sem] theorem tab_byt_154 : tab.byt 154 = 16 := rfl
@[go_sem] theorem tab_zer_154 : tab.zer 154 = [.int .i64 0, .int .i64 0] := rfl
@[go_sem] theorem tab_fld_154_0 : tab.fld 154 0 = some (28, 0) := rfl
@[go_sem] theorem tab_fld_154_1 : tab.fld 154 1 = some (3, 1) := rfl
@[go_sem] theorem tab_und_157 : tab.und 157 = .struct := rfl
@[go_sem] theorem tab_siz_157 : tab.siz 157 = 8 := rfl
@[go_sem] theorem tab_byt_157 : tab.byt 157 = 96 := rfl
@[go_sem] theorem tab_zer_157 : tab.zer 157 = [.int .i64 0, .int .i64 0, .int .i64 0, .int .i64 0, .str [], .int .i64 0, .str [], .nils] := rfl
@[go_sem] theorem tab_fld_157_0 : tab.fld 157 0 = some (3, 0) := rfl
@[go_sem] theorem tab_fld_157_1 : tab.fld 157 1 = some (25, 1) := rfl
@[go_sem] theorem tab_und_158 : tab.und 158 = .struct := rfl
@[go_sem] theorem tab_siz_158 : tab.siz 158 = 8 := rfl
@[go_sem] theorem tab_byt_158 : tab.byt 158 = 96 := rfl
@[go_sem] theorem tab_zer_158 : tab.zer 158 = [.int .i64 0, .int .i64 0, .int .i64 0, .int .i64 0, .str [], .int .i64 0, .str [], .nils] := rfl
@[go_sem] theorem tab_fld_158_0 : tab.fld 158 0 = some (3, 0) := rfl
@[go_sem] theorem tab_fld_158_1 : tab.fld 158 1 = some (25, 1) := rfl
@[go_sem] theorem tab_und_163 : tab.und 163 = (.map 3 3) := rfl
@[go_sem] theorem tab_siz_163 : tab.siz 163 = 1 := rfl
@[go_sem] theorem tab_byt_163 : tab.byt 163 = 8 := rfl
@[go_sem] theorem tab_zer_163 : tab.zer 163 = [.nilm] := rfl
@[go_sem] theorem tab_und_166 : tab.und 166 = (.ptr 25) := rfl
@[go_sem] theorem tab_siz_166 : tab.siz 166 = 1 := rfl
@[go_sem] theorem tab_byt_166 : tab.byt 166 = 8 := rfl
@[go_sem] theorem tab_zer_166 : tab.zer 166 = [.nilp] := rfl
@[go_sem] theorem tab_und_181 : tab.und 181 = (.int .u64) := rfl
@[go_sem] theorem tab_siz_181 : tab.siz 181 = 1 := rfl
@[go_sem] theorem tab_byt_181 : tab.byt 181 = 8 := rfl
@[go_sem] theorem tab_zer_181 : tab.zer 181 = [.int .u64 0] := rfl
@[go_sem] theorem tab_und_192 : tab.und 192 = (.ptr 194) := rfl
@[go_sem] theorem tab_siz_192 : tab.siz 192 = 1 := rfl
@[go_sem] theorem tab_byt_192 : tab.byt 192 = 8 := rfl
@[go_sem] theorem tab_zer_192 : tab.zer 192 = [.nilp] := rfl
@[go_sem] theorem tab_und_193 : tab.und 193 = .struct := rfl
@[go_sem] theorem tab_siz_193 : tab.siz 193 = 6 := rfl
@[go_sem] theorem tab_byt_193 : tab.byt 193 = 64 := rfl
@[go_sem] theorem tab_zer_193 : tab.zer 193 = [.nils, .int .i64 0, .int .i64 0, .nilm, .nilm, .nilm] := rfl
@[go_sem] theorem tab_fld_193_0 : tab.fld 193 0 = some (39, 0) := rfl
@[go_sem] theorem tab_fld_193_1 : tab.fld 193 1 = some (3, 1) := rfl
@[go_sem] theorem tab_fld_193_2 : tab.fld 193 2 = some (3, 2) := rfl
@[go_sem] theorem tab_fld_193_3 : tab.fld 193 3 = some (163, 3) := rfl
@[go_sem] theorem tab_fld_193_4 : tab.fld 193 4 = some (91, 4) := rfl
@[go_sem] theorem tab_fld_193_5 : tab.fld 193 5 = some (91, 5) := rfl
@[go_sem] theorem tab_und_194 : tab.und 194 = .struct := rfl
@[go_sem] theorem tab_siz_194 : tab.siz 194 = 6 := rfl
@[go_sem] theorem tab_byt_194 : tab.byt 194 = 64 := rfl
@[go_sem] theorem tab_zer_194 : tab.zer 194 = [.nils, .int .i64 0, .int .i64 0, .nilm, .nilm, .nilm] := rfl
@[go_sem] theorem tab_fld_194_0 : tab.fld 194 0 = some (39, 0) := rfl
@[go_sem] theorem tab_fld_194_1 : tab.fld 194 1 = some (3, 1) := rfl
@[go_sem] theorem tab_fld_194_2 : tab.fld 194 2 = some (3, 2) := rfl
@[go_sem] theorem tab_fld_194_3 : tab.fld 194 3 = some (163, 3) := rfl
@[go_sem] theorem tab_fld_194_4 : tab.fld 194 4 = some (91, 4) := rfl
@[go_sem] theorem tab_fld_194_5 : tab.fld 194 5 = some (91, 5) := rfl
@[go_sem] theorem tab_und_198 : tab.und 198 = (.int .i64) := rfl
@[go_sem] theorem tab_siz_198 : tab.siz 198 = 1 := rfl
@[go_sem] theorem tab_byt_198 : tab.byt 198 = 8 := rfl
@[go_sem] theorem tab_zer_198 : tab.zer 198 = [.int .i64 0] := rfl
@[go_sem] theorem tab_und_205 : tab.und 205 = (.int .u32) := rfl
@[go_sem] theorem tab_siz_205 : tab.siz 205 = 1 := rfl
@[go_sem] theorem tab_byt_205 : tab.byt 205 = 4 := rfl
@[go_sem] theorem tab_zer_205 : tab.zer 205 = [.int .u32 0] := rfl
@[go_sem] theorem tab_und_207 : tab.und 207 = (.int .u64) := rfl
@[go_sem] theorem tab_siz_207 : tab.siz 207 = 1 := rfl
@[go_sem] theorem tab_byt_207 : tab.byt 207 = 8 := rfl
@[go_sem] theorem tab_zer_207 : tab.zer 207 = [.int .u64 0] := rfl
@[go_sem] theorem tab_und_213 : tab.und 213 = (.int .u64) := rfl
@[go_sem] theorem tab_siz_213 : tab.siz 213 = 1 := rfl
@[go_sem] theorem tab_byt_213 : tab.byt 213 = 8 := rfl
@[go_sem] theorem tab_zer_213 : tab.zer 213 = [.int .u64 0] := rfl
@[go_sem] theorem tab_und_218 : tab.und 218 = (.ptr 213) := rfl
@[go_sem] theorem tab_siz_218 : tab.siz 218 = 1 := rfl
@[go_sem] theorem tab_byt_218 : tab.byt 218 = 8 := rfl
@[go_sem] theorem tab_zer_218 : tab.zer 218 = [.nilp] := rfl
@[go_sem] theorem tab_und_222 : tab.und 222 = .struct := rfl
@[go_sem] theorem tab_siz_222 : tab.siz 222 = 4 := rfl
@[go_sem] theorem tab_byt_222 : tab.byt 222 = 40 := rfl
@[go_sem] theorem tab_zer_222 : tab.zer 222 = [.nilp, .nilp, .nilp, .str []] := rfl
@[go_sem] theorem tab_fld_222_0 : tab.fld 222 0 = some (17, 0) := rfl
@[go_sem] theorem tab_fld_222_1 : tab.fld 222 1 = some (17, 1) := rfl
@[go_sem] theorem tab_fld_222_2 : tab.fld 222 2 = some (17, 2) := rfl
@[go_sem] theorem tab_fld_222_3 : tab.fld 222 3 = some (9, 3) := rfl
@[go_sem] theorem tab_und_223 : tab.und 223 = .struct := rfl
@[go_sem] theorem tab_siz_223 : tab.siz 223 = 4 := rfl
@[go_sem] theorem tab_byt_223 : tab.byt 223 = 40 := rfl
@[go_sem] theorem tab_zer_223 : tab.zer 223 = [.nilp, .nilp, .nilp, .str []] := rfl
@[go_sem] theorem tab_fld_223_0 : tab.fld 223 0 = some (17, 0) := rfl
@[go_sem] theorem tab_fld_223_1 : tab.fld 223 1 = some (17, 1) := rfl
@[go_sem] theorem tab_fld_223_2 : tab.fld 223 2 = some (17, 2) := rfl
@[go_sem] theorem tab_fld_223_3 : tab.fld 223 3 = some (9, 3) := rfl
@[go_sem] theorem tab_und_228 : tab.und 228 = (.int .u8) := rfl
@[go_sem] theorem tab_siz_228 : tab.siz 228 = 1 := rfl
@[go_sem] theorem tab_byt_228 : tab.byt 228 = 1 := rfl
@[go_sem] theorem tab_zer_228 : tab.zer 228 = [.int .u8 0] := rfl
@[go_sem] theorem tab_und_229 : tab.und 229 = (.int .u8) := rfl
@[go_sem] theorem tab_siz_229 : tab.siz 229 = 1 := rfl
@[go_sem] theorem tab_byt_229 : tab.byt 229 = 1 := rfl
@[go_sem] theorem tab_zer_229 : tab.zer 229 = [.int .u8 0] := rfl
@[go_sem] theorem tab_und_231 : tab.und 231 = (.ptr 5) := rfl
@[go_sem] theorem tab_siz_231 : tab.siz 231 = 1 := rfl
@[go_sem] theorem tab_byt_231 : tab.byt 231 = 8 := rfl
@[go_sem] theorem tab_zer_231 : tab.zer 231 = [.nilp] := rfl
@[go_sem] theorem tab_und_232 : tab.und 232 = (.int .i32) := rfl
@[go_sem] theorem tab_siz_232 : tab.siz 232 = 1 := rfl
@[go_sem] theorem tab_byt_232 : tab.byt 232 = 4 := rfl
@[go_sem] theorem tab_zer_232 : tab.zer 232 = [.int .i32 0] := rfl
@[go_sem] theorem tab_und_233 : tab.und 233 = (.int .i32) := rfl
@[go_sem] theorem tab_siz_233 : tab.siz 233 = 1 := rfl
@[go_sem] theorem tab_byt_233 : tab.byt 233 = 4 := rfl
@[go_sem] theorem tab_zer_233 : tab.zer 233 = [.int .i32 0] := rfl
set_option maxHeartbeats 4000000 in
theorem tab_und_ok : ∀ t, KDOK Go.Proofs.Try.prog t (tUnd t) := by
  intro t
  unfold tUnd
  split
  · exact Go.Proofs.Try.underlying2
  · exact Go.Proofs.Try.underlying3
  · exact Go.Proofs.Try.underlying4
  · exact Go.Proofs.Try.underlying5
  · exact Go.Proofs.Try.underlying6
  · exact ⟨_, Go.Proofs.Try.underlying7, by intro f hf; simp at hf; rcases hf with rfl | rfl | rfl | rfl <;> kernel_rfl⟩
  · exact ⟨_, Go.Proofs.Try.underlying8, by intro f hf; simp at hf; rcases hf with rfl | rfl | rfl | rfl <;> kernel_rfl⟩
  · exact Go.Proofs.Try.underlying9
  · exact Go.Proofs.Try.underlying10
  · exact Go.Proofs.Try.underlying11
  · exact Go.Proofs.Try.underlying12
  · exact ⟨_, Go.Proofs.Try.underlying13, by intro f hf; simp at hf; rcases hf with rfl | rfl <;> kernel_rfl⟩
  · exact ⟨_, Go.Proofs.Try.underlying14, by intro f hf; simp at hf; rcases hf with rfl | rfl <;> kernel_rfl⟩
  · exact Go.Proofs.Try.underlying15
  · exact Go.Proofs.Try.underlying16
  · exact Go.Proofs.Try.underlying17
  · exact ⟨_, Go.Proofs.Try.underlying18, by intro f hf; simp at hf; rcases hf with rfl <;> kernel_rfl⟩
  · exact ⟨_, Go.Proofs.Try.underlying19, by intro f hf; simp at hf; rcases hf with rfl <;> kernel_rfl⟩
  · exact Go.Proofs.Try.underlying21
  · exact Go.Proofs.Try.underlying22
  · exact Go.Proofs.Try.underlying23
  · exact ⟨_, Go.Proofs.Try.underlying24, by intro f hf; simp at hf; rcases hf with rfl | rfl | rfl | rfl | rfl | rfl | rfl <;> kernel_rfl⟩
  · exact ⟨_, Go.Proofs.Try.underlying25, by intro f hf; simp at hf; rcases hf with rfl | rfl | rfl | rfl | rfl | rfl | rfl <;> kernel_rfl⟩
  · exact ⟨_, Go.Proofs.Try.underlying26, by intro f hf; simp at hf; rcases hf with rfl | rfl | rfl <;> kernel_rfl⟩
  · exact ⟨_, Go.Proofs.Try.underlying27, by intro f hf; simp at hf; rcases hf with rfl | rfl | rfl <;> kernel_rfl⟩
  · exact Go.Proofs.Try.underlying28
  · exact Go.Proofs.Try.underlying33
  · exact Go.Proofs.Try.underlying39
  · exact Go.Proofs.Try.underlying41
  · exact Go.Proofs.Try.underlying42
  · exact Go.Proofs.Try.underlying44
  · exact ⟨_, Go.Proofs.Try.underlying45, by intro f hf; simp at hf; rcases hf with rfl | rfl | rfl | rfl | rfl <;> kernel_rfl⟩
  · exact ⟨_, Go.Proofs.Try.underlying46, by intro f hf; simp at hf; rcases hf with rfl | rfl | rfl | rfl | rfl <;> kernel_rfl⟩
  · exact Go.Proofs.Try.underlying68
  · exact Go.Proofs.Try.underlying69
  · exact Go.Proofs.Try.underlying70
  · exact ⟨_, Go.Proofs.Try.underlying71, by intro f hf; simp at hf; rcases hf with rfl | rfl | rfl | rfl <;> kernel_rfl⟩
  · exact ⟨_, Go.Proofs.Try.underlying72, by intro f hf; simp at hf; rcases hf with rfl | rfl | rfl | rfl <;> kernel_rfl⟩
  · exact Go.Proofs.Try.underlying91
  · exact Go.Proofs.Try.underlying95
  · exact ⟨_, Go.Proofs.Try.underlying96, by intro f hf; simp at hf; rcases hf with rfl | rfl | rfl <;> kernel_rfl⟩
  · exact ⟨_, Go.Proofs.Try.underlying97, by intro f hf; simp at hf; rcases hf with rfl | rfl | rfl <;> kernel_rfl⟩
  · exact Go.Proofs.Try.underlying101
  · exact Go.Proofs.Try.underlying107
  · exact Go.Proofs.Try.underlying112
  · exact Go.Proofs.Try.underlying113
  · exact ⟨_, Go.Proofs.Try.underlying114, by intro f hf; simp at hf; rcases hf with rfl | rfl <;> kernel_rfl⟩
  · exact ⟨_, Go.Proofs.Try.underlying115, by intro f hf; simp at hf; rcases hf with rfl | rfl <;> kernel_rfl⟩
  · exact Go.Proofs.Try.underlying125
  · exact Go.Proofs.Try.underlying141
  · exact ⟨_, Go.Proofs.Try.underlying142, by intro f hf; simp at hf; rcases hf with rfl | rfl | rfl <;> kernel_rfl⟩
  · exact ⟨_, Go.Proofs.Try.underlying143, by intro f hf; simp at hf; rcases hf with rfl | rfl | rfl <;> kernel_rfl⟩
  · exact ⟨_, Go.Proofs.Try.underlying153, by intro f hf; simp at hf; rcases hf with rfl | rfl <;> kernel_rfl⟩
  · exact ⟨_, Go.Proofs.Try.underlying154, by intro f hf; simp at hf; rcases hf with rfl | rfl <;> kernel_rfl⟩
  · exact ⟨_, Go.Proofs.Try.underlying157, by intro f hf; simp at hf; rcases hf with rfl | rfl <;> kernel_rfl⟩
  · exact ⟨_, Go.Proofs.Try.underlying158, by intro f hf; simp at hf; rcases hf with rfl | rfl <;> kernel_rfl⟩
  · exact Go.Proofs.Try.underlying163
  · exact Go.Proofs.Try.underlying166
  · exact Go.Proofs.Try.underlying181
  · exact Go.Proofs.Try.underlying192
  · exact ⟨_, Go.Proofs.Try.underlying193, by intro f hf; simp at hf; rcases hf with rfl | rfl | rfl | rfl | rfl | rfl <;> kernel_rfl⟩
  · exact ⟨_, Go.Proofs.Try.underlying194, by intro f hf; simp at hf; rcases hf with rfl | rfl | rfl | rfl | rfl | rfl <;> kernel_rfl⟩
  · exact Go.Proofs.Try.underlying198
  · exact Go.Proofs.Try.underlying205
  · exact Go.Proofs.Try.underlying207
  · exact Go.Proofs.Try.underlying213
  · exact Go.Proofs.Try.underlying218
  · exact ⟨_, Go.Proofs.Try.underlying222, by intro f hf; simp at hf; rcases hf with rfl | rfl | rfl | rfl <;> kernel_rfl⟩
  · exact ⟨_, Go.Proofs.Try.underlying223, by intro f hf; simp at hf; rcases hf with rfl | rfl | rfl | rfl <;> kernel_rfl⟩
  · exact Go.Proofs.Try.underlying228
  · exact Go.Proofs.Try.underlying229
  · exact Go.Proofs.Try.underlying231
  · exact Go.Proofs.Try.underlying232
  · exact Go.Proofs.Try.underlying233
  · trivial
set_option maxHeartbeats 4000000 in
theorem tab_siz_ok : ∀ t, tSiz t ≠ 0 → ∃ i, (Go.Proofs.Try.prog).info? t = some i ∧ i.size = tSiz t ∧ i.bytes = tByt t ∧ ∃ z, i.zero = some z ∧ z.cells.toList.map ofValue = tZer t ∧ z.cells.size = tSiz t ∧
    (tUnd t).isA = some (match z with | .agg _ => true | _ => false) := by
  intro t h
  revert h
  unfold tSiz
  split
  · exact fun _ => ⟨Go.Proofs.Try.t2, by kernel_rfl, rfl, rfl, _, rfl, rfl, rfl, rfl⟩
  · exact fun _ => ⟨Go.Proofs.Try.t3, by kernel_rfl, rfl, rfl, _, rfl, rfl, rfl, rfl⟩
  · exact fun _ => ⟨Go.Proofs.Try.t4, by kernel_rfl, rfl, rfl, _, rfl, rfl, rfl, rfl⟩
  · exact fun _ => ⟨Go.Proofs.Try.t5, by kernel_rfl, rfl, rfl, _, rfl, rfl, rfl, rfl⟩
  · exact fun _ => ⟨Go.Proofs.Try.t6, by kernel_rfl, rfl, rfl, _, rfl, rfl, rfl, rfl⟩
  · exact fun _ => ⟨Go.Proofs.Try.t7, by kernel_rfl, rfl, rfl, _, rfl, rfl, rfl, rfl⟩
  · exact fun _ => ⟨Go.Proofs.Try.t8, by kernel_rfl, rfl, rfl, _, rfl, rfl, rfl, rfl⟩
  · exact fun _ => ⟨Go.Proofs.Try.t9, by kernel_rfl, rfl, rfl, _, rfl, rfl, rfl, rfl⟩
  · exact fun _ => ⟨Go.Proofs.Try.t10, by kernel_rfl, rfl, rfl, _, rfl, rfl, rfl, rfl⟩
  · exact fun _ => ⟨Go.Proofs.Try.t11, by kernel_rfl, rfl, rfl, _, rfl, rfl, rfl, rfl⟩
  · exact fun _ => ⟨Go.Proofs.Try.t12, by kernel_rfl, rfl, rfl, _, rfl, rfl, rfl, rfl⟩
  · exact fun _ => ⟨Go.Proofs.Try.t13, by kernel_rfl, rfl, rfl, _, rfl, rfl, rfl, rfl⟩
  · exact fun _ => ⟨Go.Proofs.Try.t14, by kernel_rfl, rfl, rfl, _, rfl, rfl, rfl, rfl⟩
  · exact fun _ => ⟨Go.Proofs.Try.t15, by kernel_rfl, rfl, rfl, _, rfl, rfl, rfl, rfl⟩
  · exact fun _ => ⟨Go.Proofs.Try.t16, by kernel_rfl, rfl, rfl, _, rfl, rfl, rfl, rfl⟩
  · exact fun _ => ⟨Go.Proofs.Try.t17, by kernel_rfl, rfl, rfl, _, rfl, rfl, rfl, rfl⟩
  · exact fun _ => ⟨Go.Proofs.Try.t18, by kernel_rfl, rfl, rfl, _, rfl, rfl, rfl, rfl⟩
  · exact fun _ => ⟨Go.Proofs.Try.t19, by kernel_rfl, rfl, rfl, _, rfl, rfl, rfl, rfl⟩
  · exact fun _ => ⟨Go.Proofs.Try.t21, by kernel_rfl, rfl, rfl, _, rfl, rfl, rfl, rfl⟩
  · exact fun _ => ⟨Go.Proofs.Try.t22, by kernel_rfl, rfl, rfl, _, rfl, rfl, rfl, rfl⟩
  · exact fun _ => ⟨Go.Proofs.Try.t23, by kernel_rfl, rfl, rfl, _, rfl, rfl, rfl, rfl⟩
  · exact fun _ => ⟨Go.Proofs.Try.t24, by kernel_rfl, rfl, rfl, _, rfl, rfl, rfl, rfl⟩
  · exact fun _ => ⟨Go.Proofs.Try.t25, by kernel_rfl, rfl, rfl, _, rfl, rfl, rfl, rfl⟩
  · exact fun _ => ⟨Go.Proofs.Try.t26, by kernel_rfl, rfl, rfl, _, rfl, rfl, rfl, rfl⟩
  · exact fun _ => ⟨Go.Proofs.Try.t27, by kernel_rfl, rfl, rfl, _, rfl, rfl, rfl, rfl⟩
  · exact fun _ => ⟨Go.Proofs.Try.t28, by kernel_rfl, rfl, rfl, _, rfl, rfl, rfl, rfl⟩
  · exact fun _ => ⟨Go.Proofs.Try.t33, by kernel_rfl, rfl, rfl, _, rfl, rfl, rfl, rfl⟩
  · exact fun _ => ⟨Go.Proofs.Try.t39, by kernel_rfl, rfl, rfl, _, rfl, rfl, rfl, rfl⟩
  · exact fun _ => ⟨Go.Proofs.Try.t41, by kernel_rfl, rfl, rfl, _, rfl, rfl, rfl, rfl⟩
  · exact fun _ => ⟨Go.Proofs.Try.t42, by kernel_rfl, rfl, rfl, _, rfl, rfl, rfl, rfl⟩
  · exact fun _ => ⟨Go.Proofs.Try.t44, by kernel_rfl, rfl, rfl, _, rfl, rfl, rfl, rfl⟩
  · exact fun _ => ⟨Go.Proofs.Try.t45, by kernel_rfl, rfl, rfl, _, rfl, rfl, rfl, rfl⟩
  · exact fun _ => ⟨Go.Proofs.Try.t46, by kernel_rfl, rfl, rfl, _, rfl, rfl, rfl, rfl⟩
  · exact fun _ => ⟨Go.Proofs.Try.t68, by kernel_rfl, rfl, rfl, _, rfl, rfl, rfl, rfl⟩
  · exact fun _ => ⟨Go.Proofs.Try.t69, by kernel_rfl, rfl, rfl, _, rfl, rfl, rfl, rfl⟩
  · exact fun _ => ⟨Go.Proofs.Try.t70, by kernel_rfl, rfl, rfl, _, rfl, rfl, rfl, rfl⟩
  · exact fun _ => ⟨Go.Proofs.Try.t71, by kernel_rfl, rfl, rfl, _, rfl, rfl, rfl, rfl⟩
  · exact fun _ => ⟨Go.Proofs.Try.t72, by kernel_rfl, rfl, rfl, _, rfl, rfl, rfl, rfl⟩
  · exact fun _ => ⟨Go.Proofs.Try.t91, by kernel_rfl, rfl, rfl, _, rfl, rfl, rfl, rfl⟩
  · exact fun _ => ⟨Go.Proofs.Try.t95, by kernel_rfl, rfl, rfl, _, rfl, rfl, rfl, rfl⟩
  · exact fun _ => ⟨Go.Proofs.Try.t96, by kernel_rfl, rfl, rfl, _, rfl, rfl, rfl, rfl⟩
  · exact fun _ => ⟨Go.Proofs.Try.t97, by kernel_rfl, rfl, rfl, _, rfl, rfl, rfl, rfl⟩
  · exact fun _ => ⟨Go.Proofs.Try.t101, by kernel_rfl, rfl, rfl, _, rfl, rfl, rfl, rfl⟩
  · exact fun _ => ⟨Go.Proofs.Try.t107, by kernel_rfl, rfl, rfl, _, rfl, rfl, rfl, rfl⟩
  · exact fun _ => ⟨Go.Proofs.Try.t112, by kernel_rfl, rfl, rfl, _, rfl, rfl, rfl, rfl⟩
  · exact fun _ => ⟨Go.Proofs.Try.t113, by kernel_rfl, rfl, rfl, _, rfl, rfl, rfl, rfl⟩
  · exact fun _ => ⟨Go.Proofs.Try.t114, by kernel_rfl, rfl, rfl, _, rfl, rfl, rfl, rfl⟩
  · exact fun _ => ⟨Go.Proofs.Try.t115, by kernel_rfl, rfl, rfl, _, rfl, rfl, rfl, rfl⟩
  · exact fun _ => ⟨Go.Proofs.Try.t125, by kernel_rfl, rfl, rfl, _, rfl, rfl, rfl, rfl⟩
  · exact fun _ => ⟨Go.Proofs.Try.t141, by kernel_rfl, rfl, rfl, _, rfl, rfl, rfl, rfl⟩
  · exact fun _ => ⟨Go.Proofs.Try.t142, by kernel_rfl, rfl, rfl, _, rfl, rfl, rfl, rfl⟩
  · exact fun _ => ⟨Go.Proofs.Try.t143, by kernel_rfl, rfl, rfl, _, rfl, rfl, rfl, rfl⟩
  · exact fun _ => ⟨Go.Proofs.Try.t153, by kernel_rfl, rfl, rfl, _, rfl, rfl, rfl, rfl⟩
  · exact fun _ => ⟨Go.Proofs.Try.t154, by kernel_rfl, rfl, rfl, _, rfl, rfl, rfl, rfl⟩
  · exact fun _ => ⟨Go.Proofs.Try.t157, by kernel_rfl, rfl, rfl, _, rfl, rfl, rfl, rfl⟩
  · exact fun _ => ⟨Go.Proofs.Try.t158, by kernel_rfl, rfl, rfl, _, rfl, rfl, rfl, rfl⟩
  · exact fun _ => ⟨Go.Proofs.Try.t163, by kernel_rfl, rfl, rfl, _, rfl, rfl, rfl, rfl⟩
  · exact fun _ => ⟨Go.Proofs.Try.t166, by kernel_rfl, rfl, rfl, _, rfl, rfl, rfl, rfl⟩
  · exact fun _ => ⟨Go.Proofs.Try.t181, by kernel_rfl, rfl, rfl, _, rfl, rfl, rfl, rfl⟩
  · exact fun _ => ⟨Go.Proofs.Try.t192, by kernel_rfl, rfl, rfl, _, rfl, rfl, rfl, rfl⟩
  · exact fun _ => ⟨Go.Proofs.Try.t193, by kernel_rfl, rfl, rfl, _, rfl, rfl, rfl, rfl⟩
  · exact fun _ => ⟨Go.Proofs.Try.t194, by kernel_rfl, rfl, rfl, _, rfl, rfl, rfl, rfl⟩
  · exact fun _ => ⟨Go.Proofs.Try.t198, by kernel_rfl, rfl, rfl, _, rfl, rfl, rfl, rfl⟩
  · exact fun _ => ⟨Go.Proofs.Try.t205, by kernel_rfl, rfl, rfl, _, rfl, rfl, rfl, rfl⟩
  · exact fun _ => ⟨Go.Proofs.Try.t207, by kernel_rfl, rfl, rfl, _, rfl, rfl, rfl, rfl⟩
  · exact fun _ => ⟨Go.Proofs.Try.t213, by kernel_rfl, rfl, rfl, _, rfl, rfl, rfl, rfl⟩
  · exact fun _ => ⟨Go.Proofs.Try.t218, by kernel_rfl, rfl, rfl, _, rfl, rfl, rfl, rfl⟩
  · exact fun _ => ⟨Go.Proofs.Try.t222, by kernel_rfl, rfl, rfl, _, rfl, rfl, rfl, rfl⟩
  · exact fun _ => ⟨Go.Proofs.Try.t223, by kernel_rfl, rfl, rfl, _, rfl, rfl, rfl, rfl⟩
  · exact fun _ => ⟨Go.Proofs.Try.t228, by kernel_rfl, rfl, rfl, _, rfl, rfl, rfl, rfl⟩
  · exact fun _ => ⟨Go.Proofs.Try.t229, by kernel_rfl, rfl, rfl, _, rfl, rfl, rfl, rfl⟩
  · exact fun _ => ⟨Go.Proofs.Try.t231, by kernel_rfl, rfl, rfl, _, rfl, rfl, rfl, rfl⟩
  · exact fun _ => ⟨Go.Proofs.Try.t232, by kernel_rfl, rfl, rfl, _, rfl, rfl, rfl, rfl⟩
  · exact fun _ => ⟨Go.Proofs.Try.t233, by kernel_rfl, rfl, rfl, _, rfl, rfl, rfl, rfl⟩
  · exact fun h => absurd rfl h
theorem tab_fl_ok : ∀ t, tFl t = [] ∨ ∃ F : Array Field, (Go.Proofs.Try.prog).underlying t = some (.struct F) ∧ F.toList.map (fun f => (f.type, f.offset)) = tFl t ∧ ∀ x, x ∈ tFl t → tSiz x.1 ≠ 0 := by
  intro t
  unfold tFl
  split
  · exact .inr ⟨_, Go.Proofs.Try.underlying7, rfl, by decide⟩
  · exact .inr ⟨_, Go.Proofs.Try.underlying8, rfl, by decide⟩
  · exact .inr ⟨_, Go.Proofs.Try.underlying13, rfl, by decide⟩
  · exact .inr ⟨_, Go.Proofs.Try.underlying14, rfl, by decide⟩
  · exact .inr ⟨_, Go.Proofs.Try.underlying18, rfl, by decide⟩
  · exact .inr ⟨_, Go.Proofs.Try.underlying19, rfl, by decide⟩
  · exact .inr ⟨_, Go.Proofs.Try.underlying24, rfl, by decide⟩
  · exact .inr ⟨_, Go.Proofs.Try.underlying25, rfl, by decide⟩
  · exact .inr ⟨_, Go.Proofs.Try.underlying26, rfl, by decide⟩
  · exact .inr ⟨_, Go.Proofs.Try.underlying27, rfl, by decide⟩
  · exact .inr ⟨_, Go.Proofs.Try.underlying45, rfl, by decide⟩
  · exact .inr ⟨_, Go.Proofs.Try.underlying46, rfl, by decide⟩
  · exact .inr ⟨_, Go.Proofs.Try.underlying71, rfl, by decide⟩
  · exact .inr ⟨_, Go.Proofs.Try.underlying72, rfl, by decide⟩
  · exact .inr ⟨_, Go.Proofs.Try.underlying96, rfl, by decide⟩
  · exact .inr ⟨_, Go.Proofs.Try.underlying97, rfl, by decide⟩
  · exact .inr ⟨_, Go.Proofs.Try.underlying114, rfl, by decide⟩
  · exact .inr ⟨_, Go.Proofs.Try.underlying115, rfl, by decide⟩
  · exact .inr ⟨_, Go.Proofs.Try.underlying142, rfl, by decide⟩
  · exact .inr ⟨_, Go.Proofs.Try.underlying143, rfl, by decide⟩
  · exact .inr ⟨_, Go.Proofs.Try.underlying153, rfl, by decide⟩
  · exact .inr ⟨_, Go.Proofs.Try.underlying154, rfl, by decide⟩
  · exact .inr ⟨_, Go.Proofs.Try.underlying157, rfl, by decide⟩
  · exact .inr ⟨_, Go.Proofs.Try.underlying158, rfl, by decide⟩
  · exact .inr ⟨_, Go.Proofs.Try.underlying193, rfl, by decide⟩
  · exact .inr ⟨_, Go.Proofs.Try.underlying194, rfl, by decide⟩
  · exact .inr ⟨_, Go.Proofs.Try.underlying222, rfl, by decide⟩
  · exact .inr ⟨_, Go.Proofs.Try.underlying223, rfl, by decide⟩
  · exact .inl rfl
theorem tab_fld_ok : ∀ t j ft off, tFld t j = some (ft, off) → ∃ F f, (Go.Proofs.Try.prog).underlying t = some (.struct F) ∧ F[j]? = some f ∧ f.type = ft ∧ f.offset = off ∧ tSiz ft ≠ 0 := by
  intro t j ft off h
  unfold tFld at h
  rcases tab_fl_ok t with e | ⟨F, h1, h2, h3⟩
  · rw [e] at h; simp at h
  · have h4 := h3 _ (List.mem_of_getElem? h)
    rw [← h2, List.getElem?_map, Array.getElem?_toList] at h
    cases e : F[j]? with
    | none => rw [e] at h; cases h
    | some f =>
      rw [e] at h
      simp only [Option.map_some, Option.some.injEq, Prod.mk.injEq] at h
      exact ⟨F, f, h1, e, h.1, h.2, h4⟩
theorem tabOK : TabOK Go.Proofs.Try.prog tab := ⟨tab_und_ok, tab_siz_ok, tab_fld_ok⟩
end Go.Eng

namespace La
open Go Go.Eng

structure Entry where
  name : List UInt8
  fid : Int
deriving DecidableEq, Inhabited

structure Node where
  fid : Int
  dir : Bool
  data : List UInt8
  entries : List Entry
  version : Int
deriving DecidableEq, Inhabited

structure Act where
  kind : Int
  fid : Int
  dir : Int
  name : List UInt8
  to : Int
  toName : List UInt8
  data : List UInt8
deriving DecidableEq, Inhabited

structure Rec where
  act : Act
  version : Int
  id : Int
deriving DecidableEq, Inhabited

def i (n : Int) : AV := .int .i64 n
def byteRow (b : UInt8) : List AV := [.int .u8 (b.toNat : Int)]
def bytesAV (d : List UInt8) : AV := .sl (d.map byteRow)
def intRow (n : Int) : List AV := [.int .i64 n]
def entryRow (e : Entry) : List AV := [.str e.name, .int .i64 e.fid]
def nodeRow (n : Node) : List AV := [.int .i64 n.fid, .bool n.dir, .sl (n.data.map byteRow), .sl (n.entries.map entryRow), .int .i64 n.version]
def actRow (a : Act) : List AV := [.int .i64 a.kind, .int .i64 a.fid, .int .i64 a.dir, .str a.name, .int .i64 a.to, .str a.toName, .sl (a.data.map byteRow)]
def recRow (r : Rec) : List AV := [.int .i64 r.act.kind, .int .i64 r.act.fid, .int .i64 r.act.dir, .str r.act.name, .int .i64 r.act.to, .str r.act.toName, .sl (r.act.data.map byteRow), .int .i64 r.version, .int .i64 r.id]

/-- rows of one form, of leaves that hold nothing -/
structure Fam {α : Type} (f : α → List AV) (n : Nat) : Prop where
  len : ∀ a, (f a).length = n
  leaf : ∀ a, (f a).all AV.leaf = true
  pure : ∀ a, (f a).all AV.pureB = true
  free : ∀ a, refsL (f a) = []

section
variable {α : Type} {f : α → List AV} {n : Nat}
theorem Fam.rowsOf (h : Fam f n) (l : List α) : Eng.rowsOf n (l.map f) := by
  intro row hr; obtain ⟨a, _, rfl⟩ := List.mem_map.1 hr; exact h.len a
theorem Fam.allLeaf (h : Fam f n) (l : List α) : ((l.map f).all fun row => row.all AV.leaf) = true := by
  rw [List.all_eq_true]; intro row hr; obtain ⟨a, _, rfl⟩ := List.mem_map.1 hr; exact h.leaf a
theorem Fam.allPure (h : Fam f n) (l : List α) : ((l.map f).all fun row => row.all AV.pureB) = true := by
  rw [List.all_eq_true]; intro row hr; obtain ⟨a, _, rfl⟩ := List.mem_map.1 hr; exact h.pure a
theorem Fam.noRef (h : Fam f n) (id : Nat) (l : List α) : ((l.map f).all fun row => row.all fun x => !(refs x).contains id) = true := by
  rw [List.all_eq_true]; intro row hr; obtain ⟨a, _, rfl⟩ := List.mem_map.1 hr
  rw [List.all_eq_true]; intro x hx
  obtain ⟨j, hj⟩ := List.getElem?_of_mem hx
  have : refs x = [] := by
    have h1 : ∀ i, i ∈ refs x → i ∈ refsL (f a) := fun i hi => refsL_mem hj hi
    rw [h.free a] at h1
    exact List.eq_nil_iff_forall_not_mem.2 fun i hi => by simpa using h1 i hi
  rw [this]; rfl
theorem Fam.refsB (h : Fam f n) (e s : Nat) (l : List α) : Eng.refsB (.cells e s (l.map f)) = [] := by
  simp only [Eng.refsB]
  induction l with
  | nil => rfl
  | cons a r ih => simp only [List.map_cons, List.flatMap_cons, h.free a, ih, List.nil_append]
theorem Fam.renL (h : ∀ a (off : Nat), Eng.renL off (f a) = f a) (off : Nat) (l : List α) : (l.map f).map (Eng.renL off) = l.map f := by
  induction l with
  | nil => rfl
  | cons a r ih => simp only [List.map_cons, h a off, ih]
theorem Fam.frzL (h : ∀ a (id s : Nat) (rows : List (List AV)), Eng.frzL id s rows (f a) = f a) (id s : Nat) (rows : List (List AV)) (l : List α) : (l.map f).map (Eng.frzL id s rows) = l.map f := by
  induction l with
  | nil => rfl
  | cons a r ih => simp only [List.map_cons, h a id s rows, ih]
end
@[go_sem, simp] theorem take_map_all {α : Type} (f : α → List AV) (l : List α) : (l.map f).take l.length = l.map f := List.take_of_length_le (by simp)

theorem take_succ_map {α : Type} [Inhabited α] (f : α → List AV) {l : List α} {i : Nat} (h : i < l.length) : (l.take (i + 1)).map f = (l.take i).map f ++ [f (l.getD i default)] := by
  rw [List.take_succ_eq_append_getElem h, List.map_append, List.getD_eq_getElem?_getD, List.getElem?_eq_getElem h]; rfl

theorem take_succ_getD {α : Type} [Inhabited α] {l : List α} {i : Nat} (h : i < l.length) : l.take (i + 1) = l.take i ++ [l.getD i default] := by
  rw [List.take_succ_eq_append_getElem h, List.getD_eq_getElem?_getD, List.getElem?_eq_getElem h]; rfl

theorem drop_getD {α : Type} [Inhabited α] {l : List α} {i : Nat} (h : i < l.length) : l.drop i = l.getD i default :: l.drop (i + 1) := by
  rw [List.drop_eq_getElem_cons h, List.getD_eq_getElem?_getD, List.getElem?_eq_getElem h]; rfl

/-- a place, as Go tells it -/
def idxI : Option Nat → Int
  | none => -1
  | some k => k

theorem findIdx_at {α : Type} {p : α → Bool} : ∀ {l : List α} {i : Nat} {x : α}, l[i]? = some x → (∀ y, y ∈ l.take i → p y = false) → p x = true → l.findIdx? p = some i
  | [], i, x, h, _, _ => by simp at h
  | y :: r, 0, x, h, _, hp => by
    simp only [List.getElem?_cons_zero, Option.some.injEq] at h
    subst h
    simp [List.findIdx?_cons, hp]
  | y :: r, i + 1, x, h, hn, hp => by
    have h0 := hn y (by simp)
    rw [List.findIdx?_cons, h0]
    simp only [Bool.false_eq_true, if_false]
    rw [findIdx_at (l := r) (i := i) (by simpa using h) (fun z hz => hn z (by simp [hz])) hp]
    rfl

/-- no list is long -/
def bigL : Nat := 100000000
structure Node.Small (n : Node) : Prop where
  data : n.data.length ≤ 100000000
  entries : n.entries.length ≤ 100000000
structure Small (l : List Node) : Prop where
  len : l.length ≤ 100000000
  each : ∀ n, n ∈ l → n.Small
theorem getD_mem {α : Type} [Inhabited α] {l : List α} {i : Nat} (h : i < l.length) : l.getD i default ∈ l := by
  rw [List.getD_eq_getElem?_getD, List.getElem?_eq_getElem h]; exact List.getElem_mem h

theorem Fam.getD {α : Type} [Inhabited α] {f : α → List AV} {l : List α} {i : Nat} (h : i < l.length) : (l.map f).getD i [] = f (l.getD i default) := by
  rw [List.getD_eq_getElem?_getD, List.getElem?_map, List.getD_eq_getElem?_getD, List.getElem?_eq_getElem h]; rfl

theorem fam_byteRow : Fam byteRow 1 := ⟨fun _ => rfl, fun _ => rfl, fun _ => rfl, fun _ => rfl⟩
@[go_sem, simp] theorem byteRow_rowsOf (l : List _) : Eng.rowsOf 1 (l.map byteRow) := fam_byteRow.rowsOf l
@[go_sem, simp] theorem byteRow_leaf (l : List _) : ((l.map byteRow).all fun row => row.all AV.leaf) = true := fam_byteRow.allLeaf l
@[go_sem, simp] theorem byteRow_pure (l : List _) : ((l.map byteRow).all fun row => row.all AV.pureB) = true := fam_byteRow.allPure l
@[go_sem, simp] theorem byteRow_noRef (id : Nat) (l : List _) : ((l.map byteRow).all fun row => row.all fun x => !(refs x).contains id) = true := fam_byteRow.noRef id l
@[go_sem, simp] theorem byteRow_refsB (e s : Nat) (l : List _) : refsB (.cells e s (l.map byteRow)) = [] := fam_byteRow.refsB e s l
@[go_sem, simp] theorem byteRow_renL (off : Nat) (l : List _) : (l.map byteRow).map (renL off) = l.map byteRow := Fam.renL (fun _ _ => rfl) off l
@[go_sem, simp] theorem byteRow_frzL (id s : Nat) (rows : List (List AV)) (l : List _) : (l.map byteRow).map (frzL id s rows) = l.map byteRow := Fam.frzL (fun _ _ _ _ => rfl) id s rows l
theorem fam_intRow : Fam intRow 1 := ⟨fun _ => rfl, fun _ => rfl, fun _ => rfl, fun _ => rfl⟩
@[go_sem, simp] theorem intRow_rowsOf (l : List _) : Eng.rowsOf 1 (l.map intRow) := fam_intRow.rowsOf l
@[go_sem, simp] theorem intRow_leaf (l : List _) : ((l.map intRow).all fun row => row.all AV.leaf) = true := fam_intRow.allLeaf l
@[go_sem, simp] theorem intRow_pure (l : List _) : ((l.map intRow).all fun row => row.all AV.pureB) = true := fam_intRow.allPure l
@[go_sem, simp] theorem intRow_noRef (id : Nat) (l : List _) : ((l.map intRow).all fun row => row.all fun x => !(refs x).contains id) = true := fam_intRow.noRef id l
@[go_sem, simp] theorem intRow_refsB (e s : Nat) (l : List _) : refsB (.cells e s (l.map intRow)) = [] := fam_intRow.refsB e s l
@[go_sem, simp] theorem intRow_renL (off : Nat) (l : List _) : (l.map intRow).map (renL off) = l.map intRow := Fam.renL (fun _ _ => rfl) off l
@[go_sem, simp] theorem intRow_frzL (id s : Nat) (rows : List (List AV)) (l : List _) : (l.map intRow).map (frzL id s rows) = l.map intRow := Fam.frzL (fun _ _ _ _ => rfl) id s rows l
theorem fam_entryRow : Fam entryRow 2 := ⟨fun _ => rfl, fun _ => rfl, fun _ => rfl, fun _ => rfl⟩
@[go_sem, simp] theorem entryRow_rowsOf (l : List _) : Eng.rowsOf 2 (l.map entryRow) := fam_entryRow.rowsOf l
@[go_sem, simp] theorem entryRow_leaf (l : List _) : ((l.map entryRow).all fun row => row.all AV.leaf) = true := fam_entryRow.allLeaf l
@[go_sem, simp] theorem entryRow_pure (l : List _) : ((l.map entryRow).all fun row => row.all AV.pureB) = true := fam_entryRow.allPure l
@[go_sem, simp] theorem entryRow_noRef (id : Nat) (l : List _) : ((l.map entryRow).all fun row => row.all fun x => !(refs x).contains id) = true := fam_entryRow.noRef id l
@[go_sem, simp] theorem entryRow_refsB (e s : Nat) (l : List _) : refsB (.cells e s (l.map entryRow)) = [] := fam_entryRow.refsB e s l
@[go_sem, simp] theorem entryRow_renL (off : Nat) (l : List _) : (l.map entryRow).map (renL off) = l.map entryRow := Fam.renL (fun _ _ => rfl) off l
@[go_sem, simp] theorem entryRow_frzL (id s : Nat) (rows : List (List AV)) (l : List _) : (l.map entryRow).map (frzL id s rows) = l.map entryRow := Fam.frzL (fun _ _ _ _ => rfl) id s rows l
theorem fam_nodeRow : Fam nodeRow 5 := ⟨fun _ => rfl, fun _ => rfl, fun _ => rfl, fun _ => rfl⟩
@[go_sem, simp] theorem nodeRow_rowsOf (l : List _) : Eng.rowsOf 5 (l.map nodeRow) := fam_nodeRow.rowsOf l
@[go_sem, simp] theorem nodeRow_leaf (l : List _) : ((l.map nodeRow).all fun row => row.all AV.leaf) = true := fam_nodeRow.allLeaf l
@[go_sem, simp] theorem nodeRow_pure (l : List _) : ((l.map nodeRow).all fun row => row.all AV.pureB) = true := fam_nodeRow.allPure l
@[go_sem, simp] theorem nodeRow_noRef (id : Nat) (l : List _) : ((l.map nodeRow).all fun row => row.all fun x => !(refs x).contains id) = true := fam_nodeRow.noRef id l
@[go_sem, simp] theorem nodeRow_refsB (e s : Nat) (l : List _) : refsB (.cells e s (l.map nodeRow)) = [] := fam_nodeRow.refsB e s l
@[go_sem, simp] theorem nodeRow_renL (off : Nat) (l : List _) : (l.map nodeRow).map (renL off) = l.map nodeRow := Fam.renL (fun _ _ => rfl) off l
@[go_sem, simp] theorem nodeRow_frzL (id s : Nat) (rows : List (List AV)) (l : List _) : (l.map nodeRow).map (frzL id s rows) = l.map nodeRow := Fam.frzL (fun _ _ _ _ => rfl) id s rows l
theorem fam_actRow : Fam actRow 7 := ⟨fun _ => rfl, fun _ => rfl, fun _ => rfl, fun _ => rfl⟩
@[go_sem, simp] theorem actRow_rowsOf (l : List _) : Eng.rowsOf 7 (l.map actRow) := fam_actRow.rowsOf l
@[go_sem, simp] theorem actRow_leaf (l : List _) : ((l.map actRow).all fun row => row.all AV.leaf) = true := fam_actRow.allLeaf l
@[go_sem, simp] theorem actRow_pure (l : List _) : ((l.map actRow).all fun row => row.all AV.pureB) = true := fam_actRow.allPure l
@[go_sem, simp] theorem actRow_noRef (id : Nat) (l : List _) : ((l.map actRow).all fun row => row.all fun x => !(refs x).contains id) = true := fam_actRow.noRef id l
@[go_sem, simp] theorem actRow_refsB (e s : Nat) (l : List _) : refsB (.cells e s (l.map actRow)) = [] := fam_actRow.refsB e s l
@[go_sem, simp] theorem actRow_renL (off : Nat) (l : List _) : (l.map actRow).map (renL off) = l.map actRow := Fam.renL (fun _ _ => rfl) off l
@[go_sem, simp] theorem actRow_frzL (id s : Nat) (rows : List (List AV)) (l : List _) : (l.map actRow).map (frzL id s rows) = l.map actRow := Fam.frzL (fun _ _ _ _ => rfl) id s rows l
theorem fam_recRow : Fam recRow 9 := ⟨fun _ => rfl, fun _ => rfl, fun _ => rfl, fun _ => rfl⟩
@[go_sem, simp] theorem recRow_rowsOf (l : List _) : Eng.rowsOf 9 (l.map recRow) := fam_recRow.rowsOf l
@[go_sem, simp] theorem recRow_leaf (l : List _) : ((l.map recRow).all fun row => row.all AV.leaf) = true := fam_recRow.allLeaf l
@[go_sem, simp] theorem recRow_pure (l : List _) : ((l.map recRow).all fun row => row.all AV.pureB) = true := fam_recRow.allPure l
@[go_sem, simp] theorem recRow_noRef (id : Nat) (l : List _) : ((l.map recRow).all fun row => row.all fun x => !(refs x).contains id) = true := fam_recRow.noRef id l
@[go_sem, simp] theorem recRow_refsB (e s : Nat) (l : List _) : refsB (.cells e s (l.map recRow)) = [] := fam_recRow.refsB e s l
@[go_sem, simp] theorem recRow_renL (off : Nat) (l : List _) : (l.map recRow).map (renL off) = l.map recRow := Fam.renL (fun _ _ => rfl) off l
@[go_sem, simp] theorem recRow_frzL (id s : Nat) (rows : List (List AV)) (l : List _) : (l.map recRow).map (frzL id s rows) = l.map recRow := Fam.frzL (fun _ _ _ _ => rfl) id s rows l
@[go_sem, simp] theorem byteRow_refsL (a) : refsL (byteRow a) = [] := fam_byteRow.free a
@[go_sem, simp] theorem intRow_refsL (a) : refsL (intRow a) = [] := fam_intRow.free a
@[go_sem, simp] theorem entryRow_refsL (a) : refsL (entryRow a) = [] := fam_entryRow.free a
@[go_sem, simp] theorem nodeRow_refsL (a) : refsL (nodeRow a) = [] := fam_nodeRow.free a
@[go_sem, simp] theorem actRow_refsL (a) : refsL (actRow a) = [] := fam_actRow.free a
@[go_sem, simp] theorem recRow_refsL (a) : refsL (recRow a) = [] := fam_recRow.free a
@[go_sem, simp] theorem bytes_of (l : List UInt8) : (l.map byteRow).map Eng.byteOf = l := by
  rw [List.map_map]
  have : Eng.byteOf ∘ byteRow = id := by
    funext b
    show UInt8.ofNat ((b.toNat : Int)).toNat = b
    simp
  rw [this, List.map_id]
@[go_sem, simp] theorem bytes_are (l : List UInt8) : ∀ row, row ∈ l.map byteRow → IsByte row := by
  intro row hr
  obtain ⟨b, _, rfl⟩ := List.mem_map.1 hr
  exact ⟨_, rfl⟩
@[go_sem, simp] theorem byteRow_is (b : UInt8) : IsByte (byteRow b) := ⟨_, rfl⟩
end La

namespace Go.Eng
open Go.ChangeShapes Go.WideShapes Go.RowKit
section
variable {H : Type} {enc : TypeId × Value → H} {P : Program}

theorem Frm.at {W W' : World} (h : Frm (fun _ => False) W W') {b : Nat} (hb : b < W.heap.size) : W'.heap[b]? = W.heap[b]? := h.block b hb (fun h => h)

theorem Frm.kept {W W' : World} (h : Frm (fun _ => False) W W') (may : MemPlace → Prop) : W.keptBut W' may := by
  refine ⟨h.os, h.output, fun i hi => ?_⟩
  rw [h.at hi]
  split
  · rename_i c t fr c' t' fr' h1 h2
    rw [h1] at h2
    simp only [Option.some.injEq, Obj.cells.injEq] at h2
    obtain ⟨rfl, rfl, rfl⟩ := h2
    exact ⟨rfl, rfl, rfl, fun _ _ => rfl⟩
  · rename_i es c es' c' h1 h2
    rw [h1] at h2
    simp only [Option.some.injEq, Obj.map.injEq] at h2
    obtain ⟨rfl, rfl⟩ := h2
    exact .inr ⟨rfl, rfl⟩
  · rfl

theorem trodAll_frm {W W' : World} (h : Frm (fun _ => False) W W') {b : Nat} {sp : Nat → Bool} {held : Bool} : ∀ {ts : List TypeId} {vs : List Value} {ds : List (DataW H)} {ps : List MemPlace},
    DataW.TrodAll enc P W b sp held ts vs ds ps → (∀ p ∈ ps, p.block < W.heap.size) → DataW.TrodAll enc P W' b sp held ts vs ds ps
  | [], [], [], _, h, _ => h
  | _ :: _, _ :: _, _ :: _, _, ⟨p, q, ⟨n, h1⟩, h2, e⟩, hl => by
    subst e
    refine ⟨p, q, ⟨n, DataW.trod_carry n _ _ _ h1 fun x hx => ?_⟩, trodAll_frm h h2 (fun x hx => hl x (List.mem_append_right _ hx)), rfl⟩
    have hb := hl x (List.mem_append_left _ hx)
    cases x with
    | cell b off => exact cell_same (h.at hb)
    | map b => exact h.at hb

/-- A LAW THAT ANSWERS TRUE AND LEAVES ALL AS IT WAS. -/
theorem post_true (hl : laidOutB P = true) (hm : mapsRowed P = true) (hz : ∀ t e, t < P.types.size → P.underlying t = some (.slice e) → 0 < P.cellsOf e) {f : Func} {s : ChangeSpec} {W W' : World} {args : Array Value} {ds gs : List (DataW H)} {before : List MemPlace} {tb : TypeId}
    (hts : ∀ t ∈ f.params.toList, t < P.types.size) (hv : s.vars = []) (hb : P.underlying tb = some .bool) (hr : f.resultTypes = #[tb])
    (hW : DataW.Whole enc P f.params.toList s.vars false W args.toList ds gs before) (hf : Frm (fun _ => False) W W')
    (h1 : (s.fn H (ds ++ gs)).results = [.lit (.bool true)]) (h2 : (s.fn H (ds ++ gs)).args = ds) (h3 : (s.fn H (ds ++ gs)).vars = []) :
    s.post enc P f false true false false W args (.bool true) W' := by
  have hW' := hW
  obtain ⟨p, q, hA, hV, rfl, hfz, hnd⟩ := hW
  rw [hv] at hV
  obtain ⟨rfl, rfl⟩ := trodVars_none hV
  have hlt : ∀ x ∈ p, x.block < W.heap.size := fun x hx => hA.lt x hx
  refine ⟨ds, [], p ++ [], [], p, [], hW', ?_, ?_, ?_, hf.kept _, fun h => nomatch h⟩
  · rw [h1, hr]
    exact trodAll_cons_mk (shut_bool hb _) trodAll_mk0
  · rw [h2]
    exact trodAll_frm hf (DataW.TrodAll.respare (kids_rows hl hm) hz hts hA (fun x hx => by simpa using hlt x hx)) hlt
  · rw [h3, hv]
    rfl
end
end Go.Eng

namespace La
open Go Go.Eng Go.Proofs

theorem mixed : (Try.prog).follows .mixedOrders = true := by kernel_rfl
theorem own : ownKnob Try.prog.godebug = none := by kernel_rfl
theorem laid : laidOutB Try.prog = true := by kernel_rfl
theorem rowed : mapsRowed Try.prog = true := by kernel_rfl
theorem full : ∀ t e, t < Try.prog.types.size → Try.prog.underlying t = some (.slice e) → 0 < Try.prog.cellsOf e := slices_full_of _ (by kernel_rfl)

theorem rows_as {l : List (List AV)} (L : List Int) (h : L.map (fun n => [AV.int .i64 n]) = l) : ∃ rows, l = rows ∧ rows.length = L.length ∧ ∀ i, i < L.length → rows.getD i [] = [.int .i64 (L.getD i 0)] := by
  subst h
  refine ⟨_, rfl, by simp, fun i hi => ?_⟩
  rw [List.getD_eq_getElem?_getD, List.getElem?_map, List.getD_eq_getElem?_getD, List.getElem?_eq_getElem hi]; rfl
end La

namespace La

/-- a binary search: the first place from which on 'lt' is false, if it is true before, and false behind -/
def bsearch (lt : Nat → Bool) : Nat → Nat → Nat → Nat
  | 0, lo, _ => lo
  | f + 1, lo, hi => if lo < hi then (if lt ((lo + hi) / 2) then bsearch lt f ((lo + hi) / 2 + 1) hi else bsearch lt f lo ((lo + hi) / 2)) else lo

theorem bsearch_fuel (lt : Nat → Bool) : ∀ (f g lo hi : Nat), hi - lo ≤ f → hi - lo ≤ g → bsearch lt f lo hi = bsearch lt g lo hi
  | 0, 0, _, _, _, _ => rfl
  | 0, g + 1, lo, hi, h, _ => by
    unfold bsearch
    rw [if_neg (by omega)]
  | f + 1, 0, lo, hi, _, h => by
    unfold bsearch
    rw [if_neg (by omega)]
  | f + 1, g + 1, lo, hi, h1, h2 => by
    unfold bsearch
    by_cases h : lo < hi
    · rw [if_pos h, if_pos h]
      by_cases hl : lt ((lo + hi) / 2) = true
      · rw [if_pos hl, if_pos hl]; exact bsearch_fuel lt f g _ _ (by omega) (by omega)
      · rw [if_neg hl, if_neg hl]; exact bsearch_fuel lt f g _ _ (by omega) (by omega)
    · rw [if_neg h, if_neg h]

theorem bsearch_spec (lt : Nat → Bool) (n : Nat) (hmono : ∀ i j, i ≤ j → j < n → lt j = true → lt i = true) : ∀ (f lo hi : Nat), hi - lo ≤ f → lo ≤ hi → hi ≤ n → (∀ i, i < lo → lt i = true) → (∀ i, hi ≤ i → i < n → lt i = false) →
    bsearch lt f lo hi ≤ n ∧ (∀ i, i < bsearch lt f lo hi → lt i = true) ∧ ∀ i, bsearch lt f lo hi ≤ i → i < n → lt i = false
  | 0, lo, hi, h, hle, hn, h1, h2 => by
    have : lo = hi := by omega
    subst this
    exact ⟨hn, h1, h2⟩
  | f + 1, lo, hi, h, hle, hn, h1, h2 => by
    unfold bsearch
    by_cases hlt : lo < hi
    · rw [if_pos hlt]
      by_cases hl : lt ((lo + hi) / 2) = true
      · rw [if_pos hl]
        exact bsearch_spec lt n hmono f _ _ (by omega) (by omega) hn (fun i hi' => hmono i ((lo + hi) / 2) (by omega) (by omega) hl) h2
      · rw [if_neg hl]
        refine bsearch_spec lt n hmono f _ _ (by omega) (by omega) (by omega) h1 fun i hi1 hi2 => ?_
        cases e : lt i with
        | false => rfl
        | true => exact absurd (hmono _ i hi1 hi2 e) hl
    · rw [if_neg hlt]
      have : lo = hi := by omega
      subst this
      exact ⟨hn, h1, h2⟩

theorem bsearch_le (lt : Nat → Bool) : ∀ (f lo hi : Nat), lo ≤ hi → lo ≤ bsearch lt f lo hi ∧ bsearch lt f lo hi ≤ hi
  | 0, lo, hi, h => ⟨Nat.le_refl _, h⟩
  | f + 1, lo, hi, h => by
    unfold bsearch
    by_cases hlt : lo < hi
    · rw [if_pos hlt]
      split
      · have := bsearch_le lt f ((lo + hi) / 2 + 1) hi (by omega); omega
      · have := bsearch_le lt f lo ((lo + hi) / 2) (by omega); omega
    · rw [if_neg hlt]; omega

/-- a fid's place -/
def placeOf (l : List Node) (fid : Int) : Nat := bsearch (fun i => decide ((l.getD i default).fid < fid)) l.length 0 l.length
def isAt (l : List Node) (fid : Int) : Bool := decide (placeOf l fid < l.length) && decide ((l.getD (placeOf l fid) default).fid = fid)
def findN (l : List Node) (fid : Int) : Option Node := if isAt l fid then some (l.getD (placeOf l fid) default) else none
def putN (l : List Node) (n : Node) : List Node := if isAt l n.fid then l.set (placeOf l n.fid) n else l.take (placeOf l n.fid) ++ n :: l.drop (placeOf l n.fid)
def dropN (l : List Node) (fid : Int) : List Node := l.filter fun n => !(n.fid == fid)

theorem placeOf_le (l : List Node) (fid : Int) : placeOf l fid ≤ l.length := (bsearch_le _ _ _ _ (Nat.zero_le _)).2

/-- nodes rise by fids -/
def Up (l : List Node) : Prop := l.Pairwise fun a b => a.fid < b.fid

theorem Up.lt {l : List Node} (h : Up l) {i j : Nat} (hij : i < j) (hj : j < l.length) : (l.getD i default).fid < (l.getD j default).fid := by
  have := List.pairwise_iff_getElem.1 h i j (by omega) hj hij
  rw [List.getD_eq_getElem?_getD, List.getD_eq_getElem?_getD, List.getElem?_eq_getElem (by omega), List.getElem?_eq_getElem hj]
  exact this

theorem Up.place {l : List Node} (h : Up l) (fid : Int) : (∀ i, i < placeOf l fid → (l.getD i default).fid < fid) ∧ ∀ i, placeOf l fid ≤ i → i < l.length → fid ≤ (l.getD i default).fid := by
  have := bsearch_spec (fun i => decide ((l.getD i default).fid < fid)) l.length (fun i j hij hj hl => by
    rcases Nat.lt_or_eq_of_le hij with h1 | rfl
    · have := h.lt h1 hj
      have h2 := of_decide_eq_true hl
      exact decide_eq_true (by omega)
    · exact hl) l.length 0 l.length (by omega) (by omega) (Nat.le_refl _) (fun i hi => by omega) (fun i h1 h2 => by omega)
  obtain ⟨_, h2, h3⟩ := this
  exact ⟨fun i hi => of_decide_eq_true (h2 i hi), fun i hi hl => by have := of_decide_eq_false (h3 i hi hl); omega⟩

theorem getD_of {l : List Node} {x : Node} {i : Nat} (h : l[i]? = some x) : l.getD i default = x := by rw [List.getD_eq_getElem?_getD, h]; rfl

theorem findN_some {l : List Node} (h : Up l) {fid : Int} {x : Node} : findN l fid = some x ↔ x ∈ l ∧ x.fid = fid := by
  obtain ⟨p1, p2⟩ := h.place fid
  unfold findN isAt
  constructor
  · intro hf
    split at hf
    · rename_i hc
      rw [Bool.and_eq_true] at hc
      have h1 := of_decide_eq_true hc.1
      have h2 := of_decide_eq_true hc.2
      injection hf with hf
      subst hf
      exact ⟨getD_mem h1, h2⟩
    · cases hf
  · rintro ⟨hx, rfl⟩
    obtain ⟨i, hi⟩ := List.getElem?_of_mem hx
    have hil : i < l.length := (List.getElem?_eq_some_iff.1 hi).1
    have hix := getD_of hi
    have hpi : placeOf l x.fid = i := by
      rcases Nat.lt_trichotomy (placeOf l x.fid) i with h1 | h1 | h1
      · have := p2 _ (Nat.le_refl _) (by omega)
        have h3 := h.lt h1 hil
        rw [hix] at h3
        omega
      · exact h1
      · have := p1 i h1
        rw [hix] at this
        omega
    rw [hpi, hix, if_pos (by simp [hil])]

theorem findN_none {l : List Node} (h : Up l) {fid : Int} : findN l fid = none ↔ ∀ x, x ∈ l → x.fid ≠ fid := by
  constructor
  · intro hf x hx hxf
    rw [(findN_some h).2 ⟨hx, hxf⟩] at hf; cases hf
  · intro hf
    cases e : findN l fid with
    | none => rfl
    | some x =>
      obtain ⟨h1, h2⟩ := (findN_some h).1 e
      exact absurd h2 (hf x h1)

theorem putN_up {l : List Node} (h : Up l) (n : Node) : Up (putN l n) ∧ ∀ x, x ∈ putN l n ↔ x = n ∨ (x ∈ l ∧ x.fid ≠ n.fid) := by
  obtain ⟨p1, p2⟩ := h.place n.fid
  have hle := placeOf_le l n.fid
  unfold putN
  generalize hp : placeOf l n.fid = p at *
  have hmem : ∀ x, x ∈ l ↔ x ∈ l.take p ∨ x ∈ l.drop p := fun x => by
    have := List.mem_append (a := x) (s := l.take p) (t := l.drop p)
    rw [List.take_append_drop] at this
    exact this
  have ht : ∀ x, x ∈ l.take p → x.fid < n.fid := fun x hx => by
    obtain ⟨i, hi⟩ := List.getElem?_of_mem hx
    rw [List.getElem?_take] at hi
    split at hi
    · rename_i hip
      have := p1 i hip
      rwa [getD_of hi] at this
    · cases hi
  have hd : ∀ x, x ∈ l.drop p → n.fid ≤ x.fid := fun x hx => by
    obtain ⟨i, hi⟩ := List.getElem?_of_mem hx
    rw [List.getElem?_drop] at hi
    have := p2 (p + i) (by omega) (List.getElem?_eq_some_iff.1 hi).1
    rwa [getD_of hi] at this
  by_cases hat : isAt l n.fid = true
  · rw [if_pos hat]
    unfold isAt at hat
    rw [Bool.and_eq_true] at hat
    have hpl : p < l.length := by have := of_decide_eq_true hat.1; omega
    have hpf : (l.getD p default).fid = n.fid := by have := of_decide_eq_true hat.2; rw [hp] at this; exact this
    have hset : l.set p n = l.take p ++ n :: l.drop (p + 1) := by
      rw [List.set_eq_take_append_cons_drop, if_pos hpl]
    have hdd : l.drop p = l.getD p default :: l.drop (p + 1) := drop_getD hpl
    have hd1 : ∀ x, x ∈ l.drop (p + 1) → n.fid < x.fid := fun x hx => by
      obtain ⟨i, hi⟩ := List.getElem?_of_mem hx
      rw [List.getElem?_drop] at hi
      have := h.lt (i := p) (j := p + 1 + i) (by omega) (List.getElem?_eq_some_iff.1 hi).1
      rw [getD_of hi, hpf] at this
      exact this
    rw [hset]
    refine ⟨?_, fun x => ?_⟩
    · refine List.pairwise_append.2 ⟨h.sublist (List.take_sublist _ _), List.pairwise_cons.2 ⟨hd1, h.sublist (List.drop_sublist _ _)⟩, fun a ha b hb => ?_⟩
      rcases List.mem_cons.1 hb with rfl | hb
      · exact ht a ha
      · have := ht a ha; have := hd1 b hb; omega
    · rw [hmem, hdd]
      simp only [List.mem_append, List.mem_cons]
      constructor
      · rintro (h1 | h1 | h1)
        · exact .inr ⟨.inl h1, by have := ht x h1; omega⟩
        · exact .inl h1
        · exact .inr ⟨.inr (.inr h1), by have := hd1 x h1; omega⟩
      · rintro (h1 | ⟨h1 | rfl | h1, h2⟩)
        · exact .inr (.inl h1)
        · exact .inl h1
        · exact absurd hpf h2
        · exact .inr (.inr h1)
  · rw [if_neg hat]
    have hd1 : ∀ x, x ∈ l.drop p → n.fid < x.fid := fun x hx => by
      obtain ⟨i, hi⟩ := List.getElem?_of_mem hx
      rw [List.getElem?_drop] at hi
      have hil : p + i < l.length := (List.getElem?_eq_some_iff.1 hi).1
      have h0 : ¬ (l.getD p default).fid = n.fid := by
        intro e
        apply hat
        unfold isAt
        rw [hp, Bool.and_eq_true]
        exact ⟨decide_eq_true (by omega), decide_eq_true e⟩
      have h1 := p2 p (Nat.le_refl _) (by omega)
      by_cases hi0 : i = 0
      · subst hi0
        rw [Nat.add_zero] at hi
        rw [getD_of hi] at h0 h1
        omega
      · have := h.lt (i := p) (j := p + i) (by omega) hil
        rw [getD_of hi] at this
        omega
    refine ⟨?_, fun x => ?_⟩
    · refine List.pairwise_append.2 ⟨h.sublist (List.take_sublist _ _), List.pairwise_cons.2 ⟨hd1, h.sublist (List.drop_sublist _ _)⟩, fun a ha b hb => ?_⟩
      rcases List.mem_cons.1 hb with rfl | hb
      · exact ht a ha
      · have := ht a ha; have := hd1 b hb; omega
    · rw [hmem]
      simp only [List.mem_append, List.mem_cons]
      constructor
      · rintro (h1 | h1 | h1)
        · exact .inr ⟨.inl h1, by have := ht x h1; omega⟩
        · exact .inl h1
        · exact .inr ⟨.inr h1, by have := hd1 x h1; omega⟩
      · rintro (h1 | ⟨h1 | h1, h2⟩)
        · exact .inr (.inl h1)
        · exact .inl h1
        · exact .inr (.inr h1)

theorem dropN_up {l : List Node} (h : Up l) (fid : Int) : Up (dropN l fid) ∧ ∀ x, x ∈ dropN l fid ↔ x ∈ l ∧ x.fid ≠ fid :=
  ⟨h.sublist List.filter_sublist, fun x => by unfold dropN; rw [List.mem_filter]; simp⟩

/-! ### What the law TreePuts asks -/
theorem puts_found {l : List Node} (h : Up l) (n : Node) : findN (putN l n) n.fid = some n := by
  obtain ⟨h1, h2⟩ := putN_up h n
  exact (findN_some h1).2 ⟨(h2 n).2 (.inl rfl), rfl⟩
theorem puts_dropped {l : List Node} (h : Up l) (n : Node) : findN (dropN (putN l n) n.fid) n.fid = none := by
  obtain ⟨h1, h2⟩ := putN_up h n
  obtain ⟨h3, h4⟩ := dropN_up h1 n.fid
  exact (findN_none h3).2 fun x hx => ((h4 x).1 hx).2
theorem puts_other {l : List Node} (h : Up l) (n : Node) {other : Int} (ho : other ≠ n.fid) : findN l other = findN (putN l n) other := by
  obtain ⟨h1, h2⟩ := putN_up h n
  cases e : findN l other with
  | none =>
    symm
    rw [findN_none h1]
    intro x hx
    rcases (h2 x).1 hx with rfl | ⟨hx, _⟩
    · exact Ne.symm ho
    · exact (findN_none h).1 e x hx
  | some x =>
    obtain ⟨k1, k2⟩ := (findN_some h).1 e
    symm
    exact (findN_some h1).2 ⟨(h2 x).2 (.inr ⟨k1, by rw [k2]; exact ho⟩), k2⟩
end La

namespace La
open Go Go.Eng Go.Proofs
set_option maxRecDepth 10000
set_option linter.unusedSimpArgs false
set_option linter.unusedVariables false

def cmpI (a b : Int) : Int := if a < b then -1 else if b < a then 1 else 0
theorem cmpI_lt (a b : Int) : decide (cmpI a b < 0) = decide (a < b) := by
  unfold cmpI
  split
  · rename_i h; simp [h]
  · rename_i h
    split
    · simp [h]
    · simp [h]
theorem cmpI_eq (a b : Int) : decide (cmpI a b = 0) = decide (a = b) := by
  unfold cmpI
  split
  · rename_i h
    have : a ≠ b := by omega
    simp [this]
  · rename_i h
    split
    · have : a ≠ b := by omega
      simp [this]
    · have : a = b := by omega
      simp [this]

theorem isNaN_ok (a : Int) : FnOK Try.prog 153 [.int .i64 a] [] (fun r _ => r = .bool false) := by
  refine fn_of_cwW tabOK (Go.Proofs.Try.func153) rfl (fun C => ?_)
  simp only [Go.Proofs.Try.ntmps153, Go.Proofs.Try.results153, go_sem]
  refine cw_go tabOK 99 (by simp only [go_sem]; try exact rfl) (by simp [go_sem]) ?_
  refine cw_ret ⟨_, _, (by simp only [go_sem]; try exact rfl), by simp [go_sem], _, .inr (.inl rfl), ?_⟩
  simp

theorem compare_ok (a b : Int) : FnOK Try.prog 108 [.int .i64 a, .int .i64 b] [] (fun r _ => r = .int .i64 (cmpI a b)) := by
  refine fn_of_cwW tabOK (Go.Proofs.Try.func108) rfl (fun C => ?_)
  simp only [Go.Proofs.Try.ntmps108, Go.Proofs.Try.results108, go_sem]
  refine cw_go tabOK 99 (by simp only [go_sem]; try exact rfl) (by simp [go_sem]) ?_
  refine cw_call rfl rfl (by simp only [go_sem]; try exact rfl) (by simp [go_sem]) ⟨_, Go.Proofs.Try.func153, by kernel_rfl, rfl⟩ (by simp [go_sem]) (isNaN_ok a) (by simp [go_sem]) (by simp only [go_sem]; exact rfl) ?_
  refine cw_go tabOK 99 (by simp only [go_sem]; try exact rfl) (by simp [go_sem]) ?_
  refine cw_call rfl rfl (by simp only [go_sem]; try exact rfl) (by simp [go_sem]) ⟨_, Go.Proofs.Try.func153, by kernel_rfl, rfl⟩ (by simp [go_sem]) (isNaN_ok b) (by simp [go_sem]) (by simp only [go_sem]; exact rfl) ?_
  refine cw_go tabOK 99 (by simp only [go_sem]; try exact rfl) (by simp [go_sem]) ?_
  refine cw_cond (by simp only [go_sem]; try exact rfl) trivial (fun h => ?_) (fun h => ?_)
  · cases h
  refine cw_go tabOK 99 (by simp only [go_sem]; try exact rfl) (by simp [go_sem]) ?_
  refine cw_cond (by simp only [go_sem]; try exact rfl) trivial (fun h => ?_) (fun h => ?_)
  · cases h
  refine cw_go tabOK 99 (by simp only [go_sem]; try exact rfl) (by simp [go_sem]) ?_
  refine cw_cond (by simp only [go_sem]; try exact rfl) trivial (fun h => ?_) (fun h => ?_)
  · refine cw_go tabOK 99 (by simp only [go_sem]; try exact rfl) (by simp [go_sem]) ?_
    refine cw_ret ⟨_, _, (by simp only [go_sem]; try exact rfl), by simp [go_sem], _, .inr (.inl rfl), ?_⟩
    simp_all [cmpI]
  refine cw_go tabOK 99 (by simp only [go_sem]; try exact rfl) (by simp [go_sem]) ?_
  refine cw_cond (by simp only [go_sem]; try exact rfl) trivial (fun h => ?_) (fun h => ?_)
  · refine cw_go tabOK 99 (by simp only [go_sem]; try exact rfl) (by simp [go_sem]) ?_
    refine cw_ret ⟨_, _, (by simp only [go_sem]; try exact rfl), by simp [go_sem], _, .inr (.inl rfl), ?_⟩
    simp_all [cmpI]
    all_goals omega
  refine cw_go tabOK 99 (by simp only [go_sem]; try exact rfl) (by simp [go_sem]) ?_
  refine cw_ret ⟨_, _, (by simp only [go_sem]; try exact rfl), by simp [go_sem], _, .inr (.inl rfl), ?_⟩
  simp_all [cmpI]
  all_goals omega

theorem whereCmp_ok (n : Node) (f : Int) : FnOK Try.prog 137 [.agg (nodeRow n), .int .i64 f] [] (fun r _ => r = .int .i64 (cmpI n.fid f)) := by
  unfold nodeRow
  refine fn_of_cwW tabOK (Go.Proofs.Try.func137) rfl (fun C => ?_)
  simp only [Go.Proofs.Try.ntmps137, Go.Proofs.Try.results137, go_sem]
  refine cw_go tabOK 99 (by simp only [go_sem]; try exact rfl) (by simp [go_sem]) ?_
  refine cw_call rfl rfl (by simp only [go_sem]; try exact rfl) (by simp [go_sem]) ⟨_, Go.Proofs.Try.func108, by kernel_rfl, rfl⟩ (by simp [go_sem]) (compare_ok n.fid f) (by simp [go_sem]) (by simp only [go_sem]; exact rfl) ?_
  refine cw_go tabOK 99 (by simp only [go_sem]; try exact rfl) (by simp [go_sem]) ?_
  refine cw_ret ⟨_, _, (by simp only [go_sem]; try exact rfl), by simp [go_sem], _, .inr (.inl rfl), ?_⟩
  rfl

theorem mid_ok {a b : Nat} (h : a + b ≤ 1000000000) : IntKind.i64.wrap ((IntKind.u64.wrap (IntKind.i64.wrap ((a : Int) + (b : Int)))).fdiv (2 ^ min 1 64)) = (((a + b) / 2 : Nat) : Int) := by
  have h1 : IntKind.i64.wrap ((a : Int) + (b : Int)) = ((a + b : Nat) : Int) := by rw [Eng.wrap_small (by omega) (by omega)]; omega
  have h2 : IntKind.u64.wrap ((a + b : Nat) : Int) = ((a + b : Nat) : Int) := by
    simp [IntKind.wrap, IntKind.signed, IntKind.bits]; omega
  rw [h1, h2]
  have h3 : (((a + b : Nat) : Int)).fdiv (2 ^ min 1 64) = (((a + b) / 2 : Nat) : Int) := by
    show (((a + b : Nat) : Int)).fdiv 2 = _
    rw [Int.fdiv_eq_ediv_of_nonneg _ (by omega)]
    omega
  rw [h3, Eng.wrap_small (by omega) (by omega)]

def ltAt (l : List Node) (f : Int) (i : Nat) : Bool := decide ((l.getD i default).fid < f)
theorem placeOf_eq (l : List Node) (f : Int) : placeOf l f = bsearch (ltAt l f) l.length 0 l.length := rfl
theorem bsearch_step (lt : Nat → Bool) {lo hi : Nat} (h : lo < hi) : bsearch lt (hi - lo) lo hi = if lt ((lo + hi) / 2) then bsearch lt (hi - ((lo + hi) / 2 + 1)) ((lo + hi) / 2 + 1) hi else bsearch lt ((lo + hi) / 2 - lo) lo ((lo + hi) / 2) := by
  obtain ⟨f, hf⟩ : ∃ f, hi - lo = f + 1 := ⟨hi - lo - 1, by omega⟩
  rw [hf]
  conv => lhs; unfold bsearch
  rw [if_pos h]
  split
  · exact bsearch_fuel lt _ _ _ _ (by omega) (by omega)
  · exact bsearch_fuel lt _ _ _ _ (by omega) (by omega)
theorem bsearch_end (lt : Nat → Bool) {lo hi : Nat} (h : ¬ lo < hi) : bsearch lt (hi - lo) lo hi = lo := by
  have : hi - lo = 0 := by omega
  rw [this]; rfl

theorem node_search (l : List Node) (f : Int) (hlen : l.length ≤ 100000000) : FnOK Try.prog 136 [.sl (l.map nodeRow), .int .i64 f, .fn 137 []] [] (fun r _ => r = .tup [.int .i64 (placeOf l f), .bool (isAt l f)]) := by
  refine fn_of_cwW tabOK (Go.Proofs.Try.func136) rfl (fun C => ?_)
  simp only [Go.Proofs.Try.ntmps136, Go.Proofs.Try.results136, go_sem]
  refine cw_go tabOK 99 (by simp only [go_sem]; try exact rfl) (by simp [go_sem]) ?_
  refine cw_loopS (fun i : Nat × Nat => i.1 ≤ i.2 ∧ i.2 ≤ l.length ∧ bsearch (ltAt l f) (i.2 - i.1) i.1 i.2 = placeOf l f) (fun i => i.2 - i.1) (fun i => [(9, .int .i64 i.1), (10, .int .i64 i.2), (11, .any), (15, .any), (16, .any), (17, .any), (18, .any), (19, .any), (20, .any), (21, .any), (22, .any), (23, .any), (24, .any), (25, .any), (26, .any), (27, .any), (28, .any), (29, .any), (30, .any), (31, .any), (32, .any), (33, .any), (34, .any)]) (fun _ => []) (0, l.length) ⟨by simp, by simp, rfl⟩ ?_ fun i hi => ?_
  · simp only [go_sem]
    exact le_sub (by simp [go_sem]) (by simp [go_sem]) (by simp [go_sem])
  obtain ⟨lo, hi'⟩ := i
  obtain ⟨h1, h2, h3⟩ := hi
  simp only at h1 h2 h3
  simp only [go_sem]
  refine cw_go tabOK 99 (by simp only [go_sem]; try exact rfl) (by simp [go_sem]) ?_
  refine cw_cond (by simp only [go_sem]; try exact rfl) trivial (fun h => ?_) (fun h => ?_)
  · have hlt : lo < hi' := by simp at h; omega
    have hml : (lo + hi') / 2 < l.length := by omega
    have hn := whereCmp_ok (l.getD ((lo + hi') / 2) default) f
    have hg : (l.map nodeRow).getD ((lo + hi') / 2) [] = nodeRow (l.getD ((lo + hi') / 2) default) := Fam.getD hml
    have hmid : IntKind.i64.wrap ((IntKind.u64.wrap (IntKind.i64.wrap ((lo : Int) + (hi' : Int)))).fdiv (2 ^ min 1 64)) = (((lo + hi') / 2 : Nat) : Int) := mid_ok (by omega)
    have hst := bsearch_step (ltAt l f) hlt
    have hlm : ltAt l f ((lo + hi') / 2) = decide ((l.getD ((lo + hi') / 2) default).fid < f) := rfl
    have hm1 : lo ≤ (lo + hi') / 2 := by omega
    have hm2 : (lo + hi') / 2 < hi' := by omega
    generalize l.getD ((lo + hi') / 2) default = n at hn hg hlm
    generalize (lo + hi') / 2 = m at *
    refine cw_go tabOK 99 (by simp only [go_sem, hmid, hg]; try exact rfl) ?_ ?_
    · simp [hmid, hg, hml, nodeRow]
    refine cw_call rfl rfl (by simp only [go_sem]; try exact rfl) (by simp [go_sem]) ⟨_, Go.Proofs.Try.func137, by kernel_rfl, rfl⟩ (by simp [go_sem]) (hn) (by simp [go_sem]) (by simp only [go_sem]; exact rfl) ?_
    refine cw_go tabOK 99 (by simp only [go_sem]; try exact rfl) (by simp [go_sem]) ?_
    refine cw_cond (by simp only [go_sem]; try exact rfl) trivial (fun h => ?_) (fun h => ?_)
    · rw [cmpI_lt, ← hlm] at h
      rw [h, if_pos rfl] at hst
      have hw : IntKind.i64.wrap ((m : Int) + 1) = ((m + 1 : Nat) : Int) := by rw [Eng.wrap_small (by omega) (by omega)]; omega
      refine cw_go tabOK 99 (by simp only [go_sem, hw]; try exact rfl) (by simp [go_sem, hw]) ?_
      refine cw_back ⟨(m + 1, hi'), ⟨by omega, h2, hst ▸ h3⟩, by simp; omega, le_sub ?_ ?_ ?_⟩
      · simp [go_sem]
      · simp [go_sem]
      · simp [go_sem]
    · rw [cmpI_lt, ← hlm] at h
      rw [h, if_neg (by simp)] at hst
      refine cw_go tabOK 99 (by simp only [go_sem]; try exact rfl) (by simp [go_sem]) ?_
      refine cw_back ⟨(lo, m), ⟨by omega, by omega, hst ▸ h3⟩, by simp; omega, le_sub ?_ ?_ ?_⟩
      · simp [go_sem]
      · simp [go_sem]
      · simp [go_sem]
  · have hge : ¬ lo < hi' := by simp at h; omega
    rw [bsearch_end _ hge] at h3
    subst h3
    refine cw_goR 99 (by simp only [go_sem]; try exact rfl) ?_
    refine cw_runN tabOK 5 (by simp only [go_sem]; exact rfl) (by simp only [go_sem]; exact rfl) (by simp only [go_sem]; try exact rfl) (by simp [go_sem]) ?_
    refine cw_name 39 (by simp only [go_sem]; exact rfl) (fun c39 h39 => ?_)
    simp only [go_sem]
    cases c39 with
    | true =>
      have hpl : placeOf l f < l.length := by have := of_decide_eq_true h39; omega
      have hn := whereCmp_ok (l.getD (placeOf l f) default) f
      have hg : (l.map nodeRow).getD (placeOf l f) [] = nodeRow (l.getD (placeOf l f) default) := Fam.getD hpl
      have hat : isAt l f = decide ((l.getD (placeOf l f) default).fid = f) := by simp [isAt, hpl]
      generalize l.getD (placeOf l f) default = n at hn hg hat
      refine cw_go tabOK 99 (by simp only [go_sem, hg]; try exact rfl) ?_ ?_
      · simp [hg, hpl, nodeRow]
      refine cw_callC rfl (by simp only [go_sem]; try exact rfl) (by simp only [go_sem]; try exact rfl) (by simp [go_sem]) ⟨_, Go.Proofs.Try.func137, by kernel_rfl, rfl⟩ (by simp [go_sem]) (fun hb => (hn)) (by simp [go_sem]) (by simp only [go_sem]; exact rfl) ?_
      refine cw_go tabOK 99 (by simp only [go_sem]; try exact rfl) (by simp [go_sem]) ?_
      refine cw_ret ⟨_, _, (by simp only [go_sem]; try exact rfl), by simp [go_sem], _, .inr (.inl rfl), ?_⟩
      have e : (cmpI n.fid f == 0) = decide (n.fid = f) := by rw [← cmpI_eq]; by_cases h0 : cmpI n.fid f = 0 <;> simp [h0]
      simp [hat, e]
    | false =>
      have hpl : ¬ placeOf l f < l.length := by have := of_decide_eq_false h39; omega
      have hat : isAt l f = false := by simp [isAt, hpl]
      refine cw_go tabOK 99 (by simp only [go_sem]; try exact rfl) (by simp [go_sem]) ?_
      refine cw_pass (.int .i64 0) rfl ?_
      simp only [go_sem]
      refine cw_go tabOK 99 (by simp only [go_sem]; try exact rfl) (by simp [go_sem]) ?_
      refine cw_ret ⟨_, _, (by simp only [go_sem]; try exact rfl), by simp [go_sem], _, .inr (.inl rfl), ?_⟩
      simp [hat]

theorem where_ok (l : List Node) (f : Int) (hlen : l.length ≤ 100000000) : FnOK Try.prog 87 [.sl (l.map nodeRow), .int .i64 f] [] (fun r _ => r = .tup [.int .i64 (placeOf l f), .bool (isAt l f)]) := by
  refine fn_of_cwW tabOK (Go.Proofs.Try.func87) rfl (fun C => ?_)
  simp only [Go.Proofs.Try.ntmps87, Go.Proofs.Try.results87, go_sem]
  refine cw_go tabOK 99 (by simp only [go_sem]; try exact rfl) (by simp [go_sem]) ?_
  refine cw_call rfl rfl (by simp only [go_sem]; try exact rfl) (by simp [go_sem]) ⟨_, Go.Proofs.Try.func136, by kernel_rfl, rfl⟩ (by simp [go_sem]) (node_search l f hlen) (by simp [go_sem]) (by simp only [go_sem]; exact rfl) ?_
  refine cw_go tabOK 99 (by simp only [go_sem]; try exact rfl) (by simp [go_sem]) ?_
  refine cw_ret ⟨_, _, (by simp only [go_sem]; try exact rfl), by simp [go_sem], _, .inr (.inl rfl), ?_⟩
  rfl
end La

namespace La
open Go Go.Eng Go.Proofs
set_option maxRecDepth 10000
set_option linter.unusedSimpArgs false

theorem clone_bytes (d : List UInt8) (hd : d.length ≤ 100000000) : FnOK Try.prog 128 [.sl (d.map byteRow)] [] (fun r _ => r = .sl (d.map byteRow)) := by
  refine fn_of_cwW tabOK (Go.Proofs.Try.func128) rfl (fun C => ?_)
  simp only [Go.Proofs.Try.ntmps128, Go.Proofs.Try.results128, go_sem]
  refine cw_go tabOK 99 (by simp only [go_sem]; try exact rfl) (by simp [go_sem]) ?_
  refine cw_nileq tabOK rfl rfl rfl (by first | rfl | (simp only [go_sem]; exact rfl)) (by first | rfl | (simp only [go_sem]; exact rfl)) (fun b hb => ?_)
  simp only [go_sem]
  refine cw_go tabOK 99 (by simp only [go_sem]; try exact rfl) (by simp [go_sem]) ?_
  refine cw_cond (by simp only [go_sem]; try exact rfl) trivial (fun h => ?_) (fun h => ?_)
  · refine cw_go tabOK 99 (by simp only [go_sem]; try exact rfl) (by simp [go_sem]) ?_
    refine cw_ret ⟨_, _, (by simp only [go_sem]; try exact rfl), by simp [go_sem], .sl [], .inr (.inr ⟨rfl, .inl rfl⟩), ?_⟩
    rw [hb h]
  · refine cw_go tabOK 99 (by simp only [go_sem]; try exact rfl) ?_ ?_
    · simp; omega
    refine cw_freeze 7 rfl (byteRow_pure _) ?_
    simp only [go_sem]
    refine cw_ret ⟨_, _, (by simp only [go_sem]; try exact rfl), by simp [go_sem], _, .inr (.inl rfl), ?_⟩
    simp

theorem clone_entries (d : List Entry) (hd : d.length ≤ 100000000) : FnOK Try.prog 135 [.sl (d.map entryRow)] [] (fun r _ => r = .sl (d.map entryRow)) := by
  refine fn_of_cwW tabOK (Go.Proofs.Try.func135) rfl (fun C => ?_)
  simp only [Go.Proofs.Try.ntmps135, Go.Proofs.Try.results135, go_sem]
  refine cw_go tabOK 99 (by simp only [go_sem]; try exact rfl) (by simp [go_sem]) ?_
  refine cw_nileq tabOK rfl rfl rfl (by first | rfl | (simp only [go_sem]; exact rfl)) (by first | rfl | (simp only [go_sem]; exact rfl)) (fun b hb => ?_)
  simp only [go_sem]
  refine cw_go tabOK 99 (by simp only [go_sem]; try exact rfl) (by simp [go_sem]) ?_
  refine cw_cond (by simp only [go_sem]; try exact rfl) trivial (fun h => ?_) (fun h => ?_)
  · refine cw_go tabOK 99 (by simp only [go_sem]; try exact rfl) (by simp [go_sem]) ?_
    refine cw_ret ⟨_, _, (by simp only [go_sem]; try exact rfl), by simp [go_sem], .sl [], .inr (.inr ⟨rfl, .inl rfl⟩), ?_⟩
    rw [hb h]
  · refine cw_go tabOK 99 (by simp only [go_sem]; try exact rfl) ?_ ?_
    · simp; omega
    refine cw_freeze 7 rfl (entryRow_pure _) ?_
    simp only [go_sem]
    refine cw_ret ⟨_, _, (by simp only [go_sem]; try exact rfl), by simp [go_sem], _, .inr (.inl rfl), ?_⟩
    simp

theorem own_okH (l : List Node) (hl : Small l) : FnOK Try.prog 86 [.sl (l.map nodeRow)] [] (fun r H => r = .osl 23 5 0 (l.map nodeRow).length ∧ ∀ i b, hget [(23, .cells 46 5 (l.map nodeRow))] i = some b → hget H i = some b) := by
  have hlen := hl.len
  refine fn_of_cwW tabOK (Go.Proofs.Try.func86) rfl (fun C => ?_)
  simp only [Go.Proofs.Try.ntmps86, Go.Proofs.Try.results86, go_sem]
  refine cw_go tabOK 99 (by simp only [go_sem]; try exact rfl) (by simp [go_sem]) ?_
  refine cw_loopS (fun i : Nat => i ≤ l.length) (fun i => l.length - i) (fun i => [(3, .osl 23 5 0 i), (5, .any), (8, .int .i64 i), (9, .any), (10, .any), (11, .any), (12, .any), (13, .any), (14, .any), (15, .any), (16, .any), (17, .any), (18, .any), (19, .any), (20, .any), (21, .any), (22, .any), (23, .any), (24, .any)])
    (fun i => [(23, .cells 46 5 ((l.take i).map nodeRow))]) 0 (by omega) ?_ fun i hi => ?_
  · simp only [go_sem]
    exact le_sub (by simp [go_sem]) (by simp [go_sem]) (by simp only [go_sem])
  simp only [go_sem]
  refine cw_go tabOK 99 (by simp only [go_sem]; try exact rfl) (by simp [go_sem]) ?_
  refine cw_cond (by simp only [go_sem]; try exact rfl) trivial (fun h => ?_) (fun h => ?_)
  · have hlt : i < l.length := by simp at h; omega
    have hn := hl.each _ (getD_mem hlt)
    have hg : (l.map nodeRow).getD i [] = nodeRow (l.getD i default) := Fam.getD hlt
    have hs := take_succ_map nodeRow hlt
    generalize l.getD i default = n at hn hg hs
    refine cw_go tabOK 99 (by simp only [go_sem, hg, nodeRow]; try exact rfl) ?_ ?_
    · simp [hlt, nodeRow]
    refine cw_draw mixed ?_
    refine seg_start rfl ?_
    refine seg_run tabOK (by simp only [go_sem]; try exact rfl) (by simp [go_sem]) (by simp only [go_sem]; exact rfl) ?_
    refine seg_call rfl rfl (by simp only [go_sem]; try exact rfl) (by simp [go_sem]) ⟨_, Go.Proofs.Try.func128, by kernel_rfl, rfl⟩ (by simp [go_sem]) (clone_bytes _ hn.data) (by simp [go_sem]) (by simp only [go_sem]; exact rfl) (by simp only [go_sem]; exact rfl) ?_
    refine seg_run tabOK (by simp only [go_sem]; try exact rfl) (by simp [go_sem]) (by simp only [go_sem]; exact rfl) ?_
    refine seg_call rfl rfl (by simp only [go_sem]; try exact rfl) (by simp [go_sem]) ⟨_, Go.Proofs.Try.func135, by kernel_rfl, rfl⟩ (by simp [go_sem]) (clone_entries _ hn.entries) (by simp [go_sem]) (by simp only [go_sem]; exact rfl) (by simp only [go_sem]; exact rfl) ?_
    refine seg_run tabOK (by simp only [go_sem]; try exact rfl) (by simp [go_sem]) (by simp only [go_sem]; exact rfl) ?_
    refine seg_end (by kernel_rfl) (by simp only [go_sem]; exact rfl) ?_
    refine draw_step tabOK rfl (by kernel_rfl) rfl (by simp only [go_sem]; try exact rfl) (by simp [go_sem]) rfl ?_
    refine seg_start rfl ?_
    refine seg_run tabOK (by simp only [go_sem]; try exact rfl) (by simp [go_sem]) (by simp only [go_sem]; exact rfl) ?_
    refine seg_end (by kernel_rfl) (by simp only [go_sem]; exact rfl) ?_
    refine draw_step tabOK rfl (by kernel_rfl) rfl (by simp only [go_sem]; try exact rfl) (by simp [go_sem]) rfl ?_
    refine draw_close (by kernel_rfl) ?_
    have ht : List.take i (List.map nodeRow (List.take i l)) = List.map nodeRow (List.take i l) := List.take_of_length_le (by simp; omega)
    have hw : IntKind.i64.wrap ((i : Int) + 1) = (i : Int) + 1 := wrap_small (by omega) (by omega)
    refine cw_go tabOK 99 (by simp only [go_sem, ht, hw]; try exact rfl) ?_ ?_
    · simp [rowsOf]; omega
    refine cw_back ⟨i + 1, by omega, by omega, le_sub ?_ ?_ ?_⟩
    · simp [go_sem]
    · simp [go_sem, hs, nodeRow]
    · simp only [go_sem]
  · have e : i = l.length := by simp at h; omega
    subst e
    refine cw_go tabOK 99 (by simp only [go_sem]; try exact rfl) (by simp [go_sem]) ?_
    refine cw_ret ⟨_, _, (by simp only [go_sem]; try exact rfl), by simp [go_sem], _, .inr (.inl rfl), ?_⟩
    simp [go_sem]

theorem own_ok (l : List Node) (hl : Small l) : FnOK Try.prog 86 [.sl (l.map nodeRow)] [] (fun r _ => r = .sl (l.map nodeRow)) := FnOK.read (own_okH l hl) (nodeRow_pure _)
end La
