/- The abstract machine, part M: regions that draw the order of their operations: one run in the order of the text serves every order. No condition. -/
import Derived.Test.YtldpfleilffanaaEngN
namespace Go.Eng
section
variable {P : Program} {T : Tab} {C : Ctx} {σ σ' : St}

inductive Loc where
  | tm (t : Nat)
  | blk (id : Nat)
  deriving DecidableEq

/-- what one operation does: it reads 'rd' alone, and adds a value and blocks -/
structure Sp where
  dst : Option Tmp
  val : AV
  new : List (Nat × Blk)
  rd : List Loc

def Sp.app (p : Sp) (σ : St) : St := St.put ⟨σ.tm, p.new ++ σ.hp⟩ p.dst p.val

def Sp.wr (p : Sp) : List Loc := (match p.dst with | some t => [Loc.tm t] | none => []) ++ p.new.map fun b => Loc.blk b.1

def AgreeAt (σ s : St) : Loc → Prop
  | .tm t => s.tm.getD t .any = σ.tm.getD t .any
  | .blk id => hget s.hp id = hget σ.hp id

/-- an operation, behind its guard -/
def TripG (P : Program) (C : Ctx) (ops : Array Oper) (o : Oper) (σ σ' : St) : Prop :=
  ∀ a w (K : Act → World → Prop) (Q : Exit → Act → World → Prop), Rel C σ a w → (∀ a' w', Rel C σ' a' w' → K a' w') →
    if Region.wanted o (yielded ops a.tmps) then o.wp P a w K Q ∨ (o.asks P a w ∧ LetsOut Q) else K (a.put o.dst undef) w

def Rob (P : Program) (C : Ctx) (ops : Array Oper) (o : Oper) (p : Sp) (σ : St) : Prop :=
  ∀ s, (∀ x, x ∈ p.rd → AgreeAt σ s x) → (∀ b, b ∈ p.new → hget s.hp b.1 = none) → TripG P C ops o s (p.app s)

def RobChain (P : Program) (C : Ctx) (ops : Array Oper) : List Oper → List Sp → St → Prop
  | [], [], _ => True
  | o :: l, p :: ps, σ => Rob P C ops o p σ ∧ RobChain P C ops l ps (p.app σ)
  | _, _, _ => False

def appAll : List Sp → St → St
  | [], σ => σ
  | p :: ps, σ => appAll ps (p.app σ)

/-! ### Values by what has been carried out -/

def canT (D : Nat → Bool) : Nat → List Sp → Nat → AV → AV
  | _, [], _, d => d
  | i, p :: r, t, d => if D i = true ∧ p.dst = some t then p.val else canT D (i + 1) r t d

def canH (D : Nat → Bool) : Nat → List Sp → Nat → Option Blk → Option Blk
  | _, [], _, d => d
  | i, p :: r, id, d => if D i = true ∧ (∃ b, b ∈ p.new ∧ b.1 = id) then hget p.new id else canH D (i + 1) r id d

theorem canT_congr {D E : Nat → Bool} {t : Nat} {d : AV} : ∀ (ps : List Sp) (i : Nat), (∀ j p, ps[j]? = some p → p.dst = some t → D (i + j) = E (i + j)) → canT D i ps t d = canT E i ps t d
  | [], _, _ => rfl
  | p :: r, i, h => by
    simp only [canT]
    have h0 : (D i = true ∧ p.dst = some t) ↔ (E i = true ∧ p.dst = some t) := by
      constructor <;> rintro ⟨h1, h2⟩
      · exact ⟨(h 0 p rfl h2).symm.trans h1, h2⟩
      · exact ⟨(h 0 p rfl h2).trans h1, h2⟩
    have ih := canT_congr (D := D) (E := E) (t := t) (d := d) r (i + 1) (fun j q hq hd => by
      have := h (j + 1) q (by simpa using hq) hd
      rwa [show i + (j + 1) = i + 1 + j from by omega] at this)
    by_cases hc : D i = true ∧ p.dst = some t
    · rw [if_pos hc, if_pos (h0.1 hc)]
    · rw [if_neg hc, if_neg (fun h => hc (h0.2 h)), ih]

theorem canH_congr {D E : Nat → Bool} {id : Nat} {d : Option Blk} : ∀ (ps : List Sp) (i : Nat), (∀ j p, ps[j]? = some p → (∃ b, b ∈ p.new ∧ b.1 = id) → D (i + j) = E (i + j)) → canH D i ps id d = canH E i ps id d
  | [], _, _ => rfl
  | p :: r, i, h => by
    simp only [canH]
    have h0 : (D i = true ∧ (∃ b, b ∈ p.new ∧ b.1 = id)) ↔ (E i = true ∧ (∃ b, b ∈ p.new ∧ b.1 = id)) := by
      constructor <;> rintro ⟨h1, h2⟩
      · exact ⟨(h 0 p rfl h2).symm.trans h1, h2⟩
      · exact ⟨(h 0 p rfl h2).trans h1, h2⟩
    have ih := canH_congr (D := D) (E := E) (id := id) (d := d) r (i + 1) (fun j q hq hd => by
      have := h (j + 1) q (by simpa using hq) hd
      rwa [show i + (j + 1) = i + 1 + j from by omega] at this)
    by_cases hc : D i = true ∧ (∃ b, b ∈ p.new ∧ b.1 = id)
    · rw [if_pos hc, if_pos (h0.1 hc)]
    · rw [if_neg hc, if_neg (fun h => hc (h0.2 h)), ih]

/-- one more is carried out: the only one that writes 't' -/
theorem canT_add {D E : Nat → Bool} {t : Nat} {d : AV} {m : Nat} {q : Sp} : ∀ (ps : List Sp) (i : Nat), ps[m]? = some q → q.dst = some t → E (i + m) = true → (∀ j p, ps[j]? = some p → p.dst = some t → j = m) → canT E i ps t d = q.val
  | [], _, h, _, _, _ => by simp at h
  | p :: r, i, h, hd, hE, hu => by
    simp only [canT]
    cases m with
    | zero =>
      simp only [List.getElem?_cons_zero, Option.some.injEq] at h
      subst h
      rw [if_pos ⟨hE, hd⟩]
    | succ m =>
      rw [if_neg (fun hc => absurd (hu 0 p rfl hc.2) (by omega))]
      exact canT_add (D := D) r (i + 1) (by simpa using h) hd (by rw [show i + 1 + m = i + (m + 1) from by omega]; exact hE) (fun j p' hj hd' => by
        have := hu (j + 1) p' (by simpa using hj) hd'
        omega)

theorem canH_add {D E : Nat → Bool} {id : Nat} {d : Option Blk} {m : Nat} {q : Sp} : ∀ (ps : List Sp) (i : Nat), ps[m]? = some q → (∃ b, b ∈ q.new ∧ b.1 = id) → E (i + m) = true → (∀ j p, ps[j]? = some p → (∃ b, b ∈ p.new ∧ b.1 = id) → j = m) → canH E i ps id d = hget q.new id
  | [], _, h, _, _, _ => by simp at h
  | p :: r, i, h, hd, hE, hu => by
    simp only [canH]
    cases m with
    | zero =>
      simp only [List.getElem?_cons_zero, Option.some.injEq] at h
      subst h
      rw [if_pos ⟨hE, hd⟩]
    | succ m =>
      rw [if_neg (fun hc => absurd (hu 0 p rfl hc.2) (by omega))]
      exact canH_add (D := D) r (i + 1) (by simpa using h) hd (by rw [show i + 1 + m = i + (m + 1) from by omega]; exact hE) (fun j p' hj hd' => by
        have := hu (j + 1) p' (by simpa using hj) hd'
        omega)

/-- what a state is when those of 'D' have been carried out -/
structure Desc (σ : St) (ps : List Sp) (D : Nat → Bool) (s : St) : Prop where
  len : s.tm.length = σ.tm.length
  tm : ∀ t, s.tm.getD t .any = canT D 0 ps t (σ.tm.getD t .any)
  hp : ∀ id, hget s.hp id = canH D 0 ps id (hget σ.hp id)

theorem hget_append (h k : List (Nat × Blk)) (id : Nat) : hget (h ++ k) id = if (∃ b, b ∈ h ∧ b.1 = id) then hget h id else hget k id := by
  induction h with
  | nil => simp
  | cons p r ih =>
    obtain ⟨i, c⟩ := p
    simp only [List.cons_append, hget]
    by_cases e : i = id
    · subst e
      simp
    · rw [if_neg e, if_neg e, ih]
      by_cases h2 : ∃ b, b ∈ r ∧ b.1 = id
      · rw [if_pos h2]
        obtain ⟨b, h3, h4⟩ := h2
        rw [if_pos ⟨b, List.mem_cons_of_mem _ h3, h4⟩]
      · rw [if_neg h2, if_neg]
        rintro ⟨b, h3, h4⟩
        rcases List.mem_cons.1 h3 with h5 | h5
        · subst h5; exact e h4
        · exact h2 ⟨b, h5, h4⟩

/-- the writes of a segment: each place once, and inside the frame -/
structure Apart (ps : List Sp) (n : Nat) : Prop where
  tm : ∀ (i j : Nat) (p q : Sp) t, ps[i]? = some p → ps[j]? = some q → p.dst = some t → q.dst = some t → i = j
  hp : ∀ (i j : Nat) (p q : Sp) id, ps[i]? = some p → ps[j]? = some q → (∃ b, b ∈ p.new ∧ b.1 = id) → (∃ b, b ∈ q.new ∧ b.1 = id) → i = j
  lt : ∀ (i : Nat) (p : Sp) t, ps[i]? = some p → p.dst = some t → t < n

theorem Desc.add {ps : List Sp} {D : Nat → Bool} {s : St} (h : Desc σ ps D s) (ha : Apart ps σ.tm.length) {m : Nat} {q : Sp} (hq : ps[m]? = some q) : Desc σ ps (fun j => D j || j == m) (q.app s) := by
  refine ⟨?_, fun t => ?_, fun id => ?_⟩
  · unfold Sp.app St.put
    cases q.dst <;> simp [h.len]
  · by_cases hd : q.dst = some t
    · rw [canT_add (D := D) ps 0 hq hd (by simp) (fun j p hj hd' => ha.tm j m p q t hj hq hd' hd)]
      have hlt := ha.lt m q t hq hd
      simp only [Sp.app, hd, St.put, List.getD_eq_getElem?_getD]
      rw [List.getElem?_set_self (by rw [h.len]; exact hlt)]
      rfl
    · have : (q.app s).tm.getD t .any = s.tm.getD t .any := by
        unfold Sp.app St.put
        cases e : q.dst with
        | none => rfl
        | some u =>
          simp only [List.getD_eq_getElem?_getD]
          rw [List.getElem?_set_ne (by rintro rfl; exact hd e)]
      rw [this, h.tm t]
      refine canT_congr ps 0 (fun j p hj hd' => ?_)
      have : j ≠ m := by rintro rfl; rw [hq] at hj; injection hj with hj; subst hj; exact hd hd'
      simp [this]
  · have e : hget (q.app s).hp id = hget (q.new ++ s.hp) id := by
      unfold Sp.app; rw [St.put_hp]
    rw [e, hget_append]
    by_cases hd : ∃ b, b ∈ q.new ∧ b.1 = id
    · rw [if_pos hd, canH_add (D := D) ps 0 hq hd (by simp) (fun j p hj hd' => ha.hp j m p q id hj hq hd' hd)]
    · rw [if_neg hd, h.hp id]
      refine canH_congr ps 0 (fun j p hj hd' => ?_)
      have : j ≠ m := by rintro rfl; rw [hq] at hj; injection hj with hj; subst hj; exact hd hd'
      simp [this]

theorem Desc.start (σ : St) (ps : List Sp) : Desc σ ps (fun _ => false) σ := by
  have h1 : ∀ (ps : List Sp) (i t : Nat) (d : AV), canT (fun _ => false) i ps t d = d := by
    intro ps
    induction ps with
    | nil => intro i t d; rfl
    | cons p r ih => intro i t d; simp [canT, ih]
  have h2 : ∀ (ps : List Sp) (i t : Nat) (d : Option Blk), canH (fun _ => false) i ps t d = d := by
    intro ps
    induction ps with
    | nil => intro i t d; rfl
    | cons p r ih => intro i t d; simp [canH, ih]
  exact ⟨rfl, fun t => (h1 _ _ _ _).symm, fun id => (h2 _ _ _ _).symm⟩

/-- two states of one description read the same -/
theorem rel_same {s s' : St} (hl : s.tm.length = s'.tm.length) (ht : ∀ t, s.tm.getD t .any = s'.tm.getD t .any) (hh : ∀ id, hget s.hp id = hget s'.hp id) : Le C s s' := by
  intro a w ⟨μ, S, hi⟩
  refine ⟨μ, S, by rw [hi.size, hl], hi.defers, fun t x hx => ?_, fun id b hb => hi.hp id b (by rw [hh]; exact hb), fun id g hg => ?_, hi.inj, hi.frm, hi.sb⟩
  · have hlt : t < s'.tm.length := by
      by_cases h : t < s'.tm.length
      · exact h
      · rw [List.getElem?_eq_none (by omega)] at hx; cases hx
    have e := ht t
    rw [List.getD_eq_getElem?_getD, List.getD_eq_getElem?_getD, hx, List.getElem?_eq_getElem (by omega)] at e
    simp only [Option.getD_some] at e
    exact hi.tm t x (by rw [List.getElem?_eq_getElem (by omega), e])
  · obtain ⟨⟨b, h1⟩, h2⟩ := hi.dom id g hg
    exact ⟨⟨b, by rw [← hh]; exact h1⟩, h2⟩

/-- the state behind the first 'i' in the text's order -/
def upto (ps : List Sp) (i : Nat) (σ : St) : St := appAll (ps.take i) σ

theorem upto_succ : ∀ (ps : List Sp) (i : Nat) (σ : St) {p : Sp}, ps[i]? = some p → upto ps (i + 1) σ = p.app (upto ps i σ)
  | [], i, σ, p, h => by simp at h
  | q :: r, 0, σ, p, h => by
    simp only [List.getElem?_cons_zero, Option.some.injEq] at h; subst h
    simp [upto, appAll]
  | q :: r, i + 1, σ, p, h => by
    have := upto_succ r i (q.app σ) (p := p) (by simpa using h)
    simpa [upto, appAll] using this

theorem desc_upto {ps : List Sp} (ha : Apart ps σ.tm.length) : ∀ i, i ≤ ps.length → Desc σ ps (fun j => decide (j < i)) (upto ps i σ)
  | 0, _ => by simpa [upto, appAll] using Desc.start σ ps
  | i + 1, h => by
    have hp : ps[i]? = some ps[i] := List.getElem?_eq_getElem (by omega)
    rw [upto_succ ps i σ hp]
    have := (desc_upto ha i (by omega)).add ha hp
    have e : (fun j => decide (j < i) || j == i) = fun j => decide (j < i + 1) := by
      funext j
      rw [Bool.eq_iff_iff]
      simp only [Bool.or_eq_true, decide_eq_true_eq, beq_iff_eq]
      omega
    rwa [e] at this

theorem chain_get {ops : Array Oper} : ∀ (l : List Oper) (ps : List Sp) (σ : St), RobChain P C ops l ps σ → ∀ i o p, l[i]? = some o → ps[i]? = some p → Rob P C ops o p (upto ps i σ)
  | [], [], _, _, i, o, p, h, _ => by simp at h
  | o' :: l, p' :: ps, σ, h, i, o, p, ho, hp => by
    cases i with
    | zero =>
      simp only [List.getElem?_cons_zero, Option.some.injEq] at ho hp
      subst ho hp
      simpa [upto, appAll] using h.1
    | succ i =>
      have := chain_get l ps (p'.app σ) h.2 i o p (by simpa using ho) (by simpa using hp)
      simpa [upto, appAll] using this
  | [], _ :: _, _, h, _, _, _, _, _ => h.elim
  | _ :: _, [], _, h, _, _, _, _, _ => h.elim

/-! ### Orders -/

def preds (ops : Array Oper) (i : Nat) : List Nat :=
  match ops[i]? with
  | some o => (o.after.toList.filter fun e => Region.binds .any e).map (·.on)
  | none => []

/-- 'j' comes behind 'i' in every order -/
def reach (ops : Array Oper) : Nat → Nat → Nat → Bool
  | 0, _, _ => false
  | f + 1, i, j => (preds ops j).any fun e => e == i || reach ops f i e

theorem reach_listed {ops : Array Oper} {listed : Array Bool} (hc : ∀ j, listed.getD j false = true → ∀ e, e ∈ preds ops j → listed.getD e false = true) :
    ∀ (f i j : Nat), reach ops f i j = true → (∀ e, e ∈ preds ops j → listed.getD e false = true) → listed.getD i false = true
  | 0, _, _, h, _ => by cases h
  | f + 1, i, j, h, hj => by
    simp only [reach, List.any_eq_true, Bool.or_eq_true, beq_iff_eq] at h
    obtain ⟨e, he, h1⟩ := h
    rcases h1 with rfl | h1
    · exact hj _ he
    · exact reach_listed hc f i e h1 (hc e (hj e he))

/-- what the check looks at: what is written, what is read -/
abbrev Skel := List (List Loc × List Loc)

def skel (ps : List Sp) : Skel := ps.map fun p => (p.wr, p.rd)

/-- what must come before operation 'j', as bits, out of the rows before it (the last one first) -/
def ancRow (ops : Array Oper) (j : Nat) (t : List Nat) : Nat := (preds ops j).foldl (fun m e => m ||| ((1 <<< e) ||| (if e < j then t.getD (j - 1 - e) 0 else 0))) 0

def ancGo (ops : Array Oper) : Nat → List Nat
  | 0 => []
  | j + 1 => ancRow ops j (ancGo ops j) :: ancGo ops j

def hit (n : Nat) (t : List Nat) (i j : Nat) : Bool := (t.getD (n - 1 - j) 0).testBit i

theorem reach_mono {ops : Array Oper} : ∀ (f g : Nat) {i j : Nat}, f ≤ g → reach ops f i j = true → reach ops g i j = true
  | 0, _, i, j, _, h => by cases h
  | f + 1, 0, i, j, hfg, _ => by omega
  | f + 1, g + 1, i, j, hfg, h => by
    simp only [reach, List.any_eq_true, Bool.or_eq_true, beq_iff_eq] at h ⊢
    obtain ⟨e, he, h1⟩ := h
    refine ⟨e, he, ?_⟩
    rcases h1 with h1 | h1
    · exact .inl h1
    · exact .inr (reach_mono f g (by omega) h1)

theorem anc_fold {F : Nat → Nat} {i : Nat} : ∀ (l : List Nat) (m : Nat), (l.foldl (fun m e => m ||| F e) m).testBit i = true → m.testBit i = true ∨ ∃ e, e ∈ l ∧ (F e).testBit i = true
  | [], m, h => .inl h
  | e :: l, m, h => by
    simp only [List.foldl_cons] at h
    rcases anc_fold l _ h with h | ⟨e', he, h⟩
    · rw [Nat.testBit_or, Bool.or_eq_true] at h
      rcases h with h | h
      · exact .inl h
      · exact .inr ⟨e, by simp, h⟩
    · exact .inr ⟨e', by simp [he], h⟩

theorem bit_one {i e : Nat} (h : (1 <<< e).testBit i = true) : i = e := by
  simp only [Nat.testBit_shiftLeft, Bool.and_eq_true, decide_eq_true_eq] at h
  obtain ⟨h1, h2⟩ := h
  have : i - e = 0 := by
    by_cases h3 : i - e = 0
    · exact h3
    · rw [show i - e = (i - e - 1) + 1 from by omega, Nat.testBit_succ] at h2
      simp at h2
  omega

theorem ancGo_sound (ops : Array Oper) : ∀ (n j i : Nat), j < n → ((ancGo ops n).getD (n - 1 - j) 0).testBit i = true → reach ops (j + 1) i j = true
  | 0, j, i, h, _ => by omega
  | n + 1, j, i, h, hb => by
    by_cases e : j = n
    · subst e
      simp only [ancGo, Nat.add_sub_cancel, Nat.sub_self, List.getD_cons_zero] at hb
      unfold ancRow at hb
      rcases anc_fold _ _ hb with h1 | ⟨e, he, h1⟩
      · simp at h1
      · simp only [reach, List.any_eq_true, Bool.or_eq_true, beq_iff_eq]
        refine ⟨e, he, ?_⟩
        rw [Nat.testBit_or, Bool.or_eq_true] at h1
        rcases h1 with h1 | h1
        · exact .inl (bit_one h1).symm
        · split at h1
          · rename_i hlt
            exact .inr (reach_mono (e + 1) j (by omega) (ancGo_sound ops j e i hlt h1))
          · simp at h1
    · have e1 : n + 1 - 1 - j = (n - 1 - j) + 1 := by omega
      rw [e1] at hb
      simp only [ancGo, List.getD_cons_succ] at hb
      exact ancGo_sound ops n j i (by omega) hb

theorem hit_reach {ops : Array Oper} {i j : Nat} (hj : j < ops.size) (h : hit ops.size (ancGo ops ops.size) i j = true) : reach ops ops.size i j = true :=
  reach_mono (j + 1) ops.size (by omega) (ancGo_sound ops ops.size j i hj h)

/-- THE CHECK OF A SEGMENT 'k .. k + sk.length': whatever order is drawn, each operation reads what it reads in the text's order. -/
def segOKt (ops : Array Oper) (k : Nat) (sk : Skel) (n : Nat) (t : List Nat) : Bool :=
  ((List.range ops.size).all fun i => (preds ops i).all fun e => decide (e < i)) &&
  ((List.range ops.size).all fun i => decide (i < k + sk.length) || (List.range sk.length).all fun s => hit n t (k + s) i) &&
  ((List.range sk.length).all fun i => (List.range sk.length).all fun j =>
    match sk[i]?, sk[j]? with
    | some p, some q => i == j || ((!(p.1.any fun x => q.1.contains x)) && (!(q.1.any fun x => p.2.contains x) || (if j < i then hit n t (k + j) (k + i) else hit n t (k + i) (k + j))))
    | _, _ => true) && decide (k + sk.length ≤ ops.size)

def segOK (ops : Array Oper) (k : Nat) (sk : Skel) : Bool := segOKt ops k sk ops.size (ancGo ops ops.size)

theorem wr_tm {p : Sp} {t : Nat} (h : p.dst = some t) : Loc.tm t ∈ p.wr := by simp [Sp.wr, h]
theorem wr_blk {p : Sp} {id : Nat} (h : ∃ b, b ∈ p.new ∧ b.1 = id) : Loc.blk id ∈ p.wr := by
  obtain ⟨b, hb, rfl⟩ := h
  exact List.mem_append_right _ (List.mem_map.2 ⟨b, hb, rfl⟩)

structure SegFacts (ops : Array Oper) (k : Nat) (ps : List Sp) : Prop where
  lt : ∀ i, i < ops.size → ∀ e, e ∈ preds ops i → e < i
  late : ∀ i, i < ops.size → k + ps.length ≤ i → ∀ s, s < ps.length → reach ops ops.size (k + s) i = true
  wr : ∀ (i j : Nat) p q x, ps[i]? = some p → ps[j]? = some q → x ∈ p.wr → x ∈ q.wr → i = j
  rd : ∀ (i j : Nat) p q x, ps[i]? = some p → ps[j]? = some q → x ∈ q.wr → x ∈ p.rd → i ≠ j → (j < i ∧ reach ops ops.size (k + j) (k + i) = true) ∨ (i < j ∧ reach ops ops.size (k + i) (k + j) = true)
  size : k + ps.length ≤ ops.size

theorem seg_facts {ops : Array Oper} {k : Nat} {ps : List Sp} (h : segOK ops k (skel ps) = true) : SegFacts ops k ps := by
  unfold segOK segOKt at h
  simp only [Bool.and_eq_true, decide_eq_true_eq] at h
  obtain ⟨⟨⟨h1, h2⟩, h3⟩, h4⟩ := h
  have hl : (skel ps).length = ps.length := by simp [skel]
  rw [hl] at h2 h3 h4
  have key : ∀ (i j : Nat) (p q : Sp), ps[i]? = some p → ps[j]? = some q → i = j ∨ ((∀ x, x ∈ p.wr → x ∉ q.wr) ∧ ((∀ x, x ∈ q.wr → x ∉ p.rd) ∨ (if j < i then reach ops ops.size (k + j) (k + i) else reach ops ops.size (k + i) (k + j)) = true)) := by
    intro i j p q hp hq
    have hi : i < ps.length := (List.getElem?_eq_some_iff.1 hp).1
    have hj : j < ps.length := (List.getElem?_eq_some_iff.1 hq).1
    have := List.all_eq_true.1 (List.all_eq_true.1 h3 i (List.mem_range.2 hi)) j (List.mem_range.2 hj)
    simp only [skel, List.getElem?_map, hp, hq, Option.map_some, Bool.or_eq_true, beq_iff_eq, Bool.and_eq_true, Bool.not_eq_true', List.any_eq_false, List.contains_iff_mem] at this
    rcases this with h | ⟨h5, h6⟩
    · exact .inl h
    · refine .inr ⟨fun x hx hx' => h5 x hx hx', ?_⟩
      rcases h6 with h6 | h6
      · exact .inl (fun x hx hx' => h6 x hx hx')
      · refine .inr ?_
        split at h6
        · rw [if_pos (by assumption)]; exact hit_reach (by omega) h6
        · rw [if_neg (by assumption)]; exact hit_reach (by omega) h6
  refine ⟨fun i hi e he => ?_, fun i hi hle s hs => ?_, fun i j p q x hp hq hx hx' => ?_, fun i j p q x hp hq hx hx' hne => ?_, h4⟩
  · have := List.all_eq_true.1 (List.all_eq_true.1 h1 i (List.mem_range.2 hi)) e he
    simpa using this
  · have := List.all_eq_true.1 h2 i (List.mem_range.2 hi)
    simp only [Bool.or_eq_true, decide_eq_true_eq] at this
    rcases this with h | h
    · omega
    · exact hit_reach hi (List.all_eq_true.1 h s (List.mem_range.2 hs))
  · rcases key i j p q hp hq with h | ⟨h, _⟩
    · exact h
    · exact absurd hx' (h x hx)
  · rcases key i j p q hp hq with h | ⟨_, h⟩
    · exact absurd h hne
    · rcases h with h | h
      · exact absurd hx' (h x hx)
      · split at h
        · exact .inl ⟨by assumption, h⟩
        · exact .inr ⟨by omega, h⟩

def doneTo (n k : Nat) : Array Bool := (Array.range n).map fun i => decide (i < k)

theorem doneTo_get (n k j : Nat) (d : Bool) : (doneTo n k).getD j d = if j < n then decide (j < k) else d := by
  unfold doneTo
  rw [Array.getD_eq_getD_getElem?, Array.getElem?_map, Array.getElem?_range]
  split <;> rfl

/-- from 'k' operations on, in the text's order, all orders lead to 'Q' -/
def DrawOK (P : Program) (C : Ctx) (ops : Array Oper) (Q : Exit → Act → World → Prop) (k : Nat) (σ : St) : Prop :=
  ∀ a w, Rel C σ a w → wpAny P .any ops Q (ops.size - k) (doneTo ops.size k) a w

theorem draw_end {ops : Array Oper} {Q : Exit → Act → World → Prop} {k : Nat} (hk : k = ops.size) (h : ∀ a w, Rel C σ a w → Q .normal a w) : DrawOK P C ops Q k σ := by
  intro a w hr
  subst hk
  have : Region.ready .any ops (doneTo ops.size ops.size) = [] := by
    rw [List.eq_nil_iff_forall_not_mem]
    intro j hj
    obtain ⟨h1, o, ho, _⟩ := mem_ready.1 hj
    have hlt : j < ops.size := (Array.getElem?_eq_some_iff.1 ho).1
    rw [doneTo_get, if_pos hlt] at h1
    simp [hlt] at h1
  rw [Nat.sub_self]
  exact ⟨this, h a w hr⟩

theorem drawn_op {ops : Array Oper} {Q : Exit → Act → World → Prop} {i : Nat} {o : Oper} (ho : ops[i]? = some o) {s s' : St} (ht : TripG P C ops o s s') {K : Act → World → Prop} {a : Act} {w : World} (hr : Rel C s a w)
    (hK : ∀ a' w', Rel C s' a' w' → K a' w') : wpOp P ops Q i K a w := by
  unfold wpOp
  simp only [ho]
  exact ht a w K Q hr hK

/-- ONE OPERATION THAT ALL OTHERS WAIT FOR. -/
theorem draw_one {ops : Array Oper} {Q : Exit → Act → World → Prop} {k : Nat} {o : Oper} (ho : ops[k]? = some o) (hc : Region.ready .any ops (doneTo ops.size k) = [k]) (ht : TripG P C ops o σ σ') (h : DrawOK P C ops Q (k + 1) σ') :
    DrawOK P C ops Q k σ := by
  intro a w hr
  have hlt : k < ops.size := (Array.getElem?_eq_some_iff.1 ho).1
  rw [show ops.size - k = (ops.size - (k + 1)) + 1 from by omega]
  refine ⟨fun h0 => (by rw [hc] at h0; cases h0), fun i hi => ?_⟩
  rw [hc, List.mem_singleton] at hi
  subst hi
  refine drawn_op ho ht hr fun a' w' hr' => ?_
  have e : (doneTo ops.size i).setIfInBounds i true = doneTo ops.size (i + 1) := by
    apply Array.ext
    · simp [doneTo]
    · intro j h1 h2
      simp only [doneTo, Array.size_setIfInBounds, Array.size_map, Array.size_range] at h1
      rw [Array.getElem_setIfInBounds (by simpa [doneTo] using h1)]
      split
      · rename_i e; subst e; simp [doneTo]
      · rename_i e; simp [doneTo]; omega
  rw [e]
  exact h a' w' hr'

theorem filter_less {D : Nat → Bool} {m : Nat} (hm : D m = false) : ∀ (l : List Nat), l.Nodup → m ∈ l → (l.filter fun j => !(D j || j == m)).length + 1 = (l.filter fun j => !D j).length
  | [], _, h => by cases h
  | x :: r, hn, h => by
    rw [List.nodup_cons] at hn
    rcases List.mem_cons.1 h with rfl | h'
    · have e : (r.filter fun j => !(D j || j == m)) = r.filter fun j => !D j := by
        refine List.filter_congr fun j hj => ?_
        have : j ≠ m := by rintro rfl; exact hn.1 hj
        simp [this]
      simp only [List.filter_cons, hm, beq_self_eq_true, Bool.or_true, Bool.not_true, Bool.false_eq_true, if_false, Bool.not_false, if_true, List.length_cons]
      rw [e]
    · have hx : x ≠ m := by rintro rfl; exact hn.1 h'
      have ih := filter_less hm r hn.2 h'
      simp only [List.filter_cons]
      have e : (x == m) = false := by simpa using hx
      rw [e]
      simp only [Bool.or_false]
      split
      · simp only [List.length_cons]; omega
      · exact ih

/-- A SEGMENT, IN WHATEVER ORDER. -/
theorem draw_seg {ops : Array Oper} {Q : Exit → Act → World → Prop} {k : Nat} {l : List Oper} {ps : List Sp} (hck : segOK ops k (skel ps) = true) (hlen : l.length = ps.length)
    (hl : ∀ i, i < ps.length → ops[k + i]? = l[i]?) (hlt : ∀ (i : Nat) p t, ps[i]? = some p → p.dst = some t → t < σ.tm.length) (hfr : ∀ (i : Nat) p, ps[i]? = some p → ∀ b, b ∈ p.new → hget σ.hp b.1 = none)
    (hch : RobChain P C ops l ps σ) (h : DrawOK P C ops Q (k + ps.length) (appAll ps σ)) : DrawOK P C ops Q k σ := by
  have hF := seg_facts hck
  have ha : Apart ps σ.tm.length := ⟨fun i j p q t hp hq h1 h2 => hF.wr i j p q _ hp hq (wr_tm h1) (wr_tm h2), fun i j p q id hp hq h1 h2 => hF.wr i j p q _ hp hq (wr_blk h1) (wr_blk h2), hlt⟩
  have main : ∀ (r : Nat) (D : Nat → Bool) (listed : Array Bool) (s : St), ((List.range ps.length).filter fun j => !D j).length = r → listed.size = ops.size →
      (∀ j, j < ops.size → listed.getD j false = (decide (j < k) || (decide (j < k + ps.length) && D (j - k)))) →
      (∀ j, listed.getD j false = true → ∀ e, e ∈ preds ops j → listed.getD e false = true) → Desc σ ps D s → ∀ a w, Rel C s a w → wpAny P .any ops Q (ops.size - (k + ps.length) + r) listed a w := by
    intro r
    induction r with
    | zero =>
      intro D listed s hr hsz hlist _ hd a w hrel
      have hall : ∀ j, j < ps.length → D j = true := fun j hj => by
        have h0 : (List.range ps.length).filter (fun j => !D j) = [] := List.eq_nil_of_length_eq_zero hr
        have := List.filter_eq_nil_iff.1 h0 j (List.mem_range.2 hj)
        simpa using this
      have e : listed = doneTo ops.size (k + ps.length) := by
        apply Array.ext
        · simp [doneTo, hsz]
        · intro j h1 h2
          have hj : j < ops.size := by omega
          have h3 := hlist j hj
          rw [Array.getD_eq_getD_getElem?, Array.getElem?_eq_getElem h1, Option.getD_some] at h3
          rw [h3]
          have h4 := doneTo_get ops.size (k + ps.length) j false
          rw [Array.getD_eq_getD_getElem?, Array.getElem?_eq_getElem h2, Option.getD_some, if_pos hj] at h4
          rw [h4]
          by_cases hk : j < k
          · simp [hk]; omega
          · by_cases hk2 : j < k + ps.length
            · simp [hk, hk2, hall (j - k) (by omega)]
            · simp [hk, hk2]
      rw [Nat.add_zero, e]
      have hu := desc_upto ha ps.length (Nat.le_refl _)
      have hsame : Le C s (appAll ps σ) := by
        have e2 : upto ps ps.length σ = appAll ps σ := by simp [upto]
        rw [← e2]
        refine rel_same (hd.len.trans hu.len.symm) (fun t => ?_) (fun id => ?_)
        · rw [hd.tm, hu.tm]
          exact canT_congr ps 0 (fun j p hj _ => by
            have hj' : j < ps.length := (List.getElem?_eq_some_iff.1 hj).1
            simp [hall j hj', hj'])
        · rw [hd.hp, hu.hp]
          exact canH_congr ps 0 (fun j p hj _ => by
            have hj' : j < ps.length := (List.getElem?_eq_some_iff.1 hj).1
            simp [hall j hj', hj'])
      exact h a w (hsame a w hrel)
    | succ r ih =>
      intro D listed s hr hsz hlist hclosed hd a w hrel
      have hex : ∃ m, m < ps.length ∧ D m = false := by
        have hne : (List.range ps.length).filter (fun j => !D j) ≠ [] := by intro e; rw [e] at hr; simp at hr
        obtain ⟨m, hm⟩ := List.exists_mem_of_ne_nil _ hne
        rw [List.mem_filter, List.mem_range] at hm
        exact ⟨m, hm.1, by simpa using hm.2⟩
      obtain ⟨m0, ⟨hm0, hD0⟩, hmin⟩ := least (p := fun m => m < ps.length ∧ D m = false) hex
      have hun : listed.getD (k + m0) false = false := by
        rw [hlist _ (by have := hF.size; omega)]
        simp [show ¬ k + m0 < k by omega, hD0]
      refine ⟨fun h0 => ?_, fun i hi => ?_⟩
      · exfalso
        have : k + m0 ∈ Region.ready .any ops listed := by
          rw [mem_ready]
          have hlt' : k + m0 < ops.size := by have := hF.size; omega
          refine ⟨?_, ops[k + m0], Array.getElem?_eq_getElem hlt', fun e he hb => ?_⟩
          · rw [Array.getD_eq_getD_getElem?, Array.getElem?_eq_getElem (by omega)] at hun ⊢
            exact hun
          · have hmem : e.on ∈ preds ops (k + m0) := by
              unfold preds
              rw [Array.getElem?_eq_getElem hlt']
              exact List.mem_map.2 ⟨e, List.mem_filter.2 ⟨by simpa using he, hb⟩, rfl⟩
            have hl' := hF.lt _ hlt' _ hmem
            rw [hlist _ (by omega)]
            by_cases h1 : e.on < k
            · simp [h1]
            · have h2 : D (e.on - k) = true := by
                cases h3 : D (e.on - k) with
                | true => rfl
                | false => exact absurd ⟨by omega, h3⟩ (hmin (e.on - k) (by omega))
              simp [h1, h2, show e.on < k + ps.length by omega]
        rw [h0] at this
        cases this
      · obtain ⟨h1, o, ho, hall⟩ := mem_ready.1 hi
        have hilt : i < ops.size := (Array.getElem?_eq_some_iff.1 ho).1
        have hil : listed.getD i false = false := by
          rw [Array.getD_eq_getD_getElem?, Array.getElem?_eq_getElem (by omega)] at h1 ⊢
          exact h1
        have hpl : ∀ e, e ∈ preds ops i → listed.getD e false = true := fun e he => by
          unfold preds at he
          rw [ho] at he
          obtain ⟨ed, hed, rfl⟩ := List.mem_map.1 he
          rw [List.mem_filter] at hed
          exact hall ed (by simpa using hed.1) hed.2
        have hik : k ≤ i := by
          rw [hlist i hilt] at hil
          simp at hil
          omega
        have hiu : i < k + ps.length := by
          rcases Nat.lt_or_ge i (k + ps.length) with h2 | h2
          · exact h2
          · have := reach_listed hclosed _ _ _ (hF.late i hilt h2 m0 hm0) hpl
            rw [hun] at this
            cases this
        obtain ⟨m, rfl⟩ : ∃ m, i = k + m := ⟨i - k, by omega⟩
        have hm : m < ps.length := by omega
        have hDm : D m = false := by
          rw [hlist _ hilt] at hil
          simpa [show ¬ k + m < k by omega, hiu] using hil
        have hpm : ps[m]? = some ps[m] := List.getElem?_eq_getElem hm
        have hom : l[m]? = some o := by rw [← hl m hm]; exact ho
        have hrob := chain_get l ps σ hch m o ps[m] hom hpm
        have hu := desc_upto ha m (by omega)
        have hag : ∀ x, x ∈ ps[m].rd → AgreeAt (upto ps m σ) s x := fun x hx => by
          have key : ∀ (j : Nat) q, ps[j]? = some q → x ∈ q.wr → D j = decide (j < m) := fun j q hq hxq => by
            have hj : j < ps.length := (List.getElem?_eq_some_iff.1 hq).1
            by_cases e : m = j
            · subst e; simp [hDm]
            · rcases hF.rd m j _ q x hpm hq hxq hx e with ⟨h3, h4⟩ | ⟨h3, h4⟩
              · have h5 := reach_listed hclosed _ _ _ h4 hpl
                rw [hlist _ (by omega)] at h5
                simp [show ¬ k + j < k by omega] at h5
                simp [h3, h5.2]
              · cases h6 : D j with
                | false => simp; omega
                | true =>
                  have h7 : listed.getD (k + j) false = true := by
                    rw [hlist _ (by have := hF.size; omega)]
                    simp [h6, hj]
                  have h8 := reach_listed hclosed _ _ _ h4 (hclosed _ h7)
                  rw [hil] at h8
                  cases h8
          cases x with
          | tm t =>
            show s.tm.getD t .any = (upto ps m σ).tm.getD t .any
            rw [hd.tm, hu.tm]
            exact canT_congr ps 0 (fun j q hq hdq => by rw [Nat.zero_add]; exact key j q hq (wr_tm hdq))
          | blk id =>
            show hget s.hp id = hget (upto ps m σ).hp id
            rw [hd.hp, hu.hp]
            exact canH_congr ps 0 (fun j q hq hdq => by rw [Nat.zero_add]; exact key j q hq (wr_blk hdq))
        have hfresh : ∀ b, b ∈ ps[m].new → hget s.hp b.1 = none := fun b hb => by
          rw [hd.hp, canH_congr (E := fun _ => false) ps 0 (fun j q hq hdq => by
            have := hF.wr m j _ q (.blk b.1) hpm hq (wr_blk ⟨b, hb, rfl⟩) (wr_blk hdq)
            rw [Nat.zero_add, ← this, hDm])]
          rw [← (Desc.start σ ps).hp]
          exact hfr m _ hpm b hb
        have ht := hrob s hag hfresh
        refine drawn_op ho ht hrel fun a' w' hr' => ?_
        refine ih (fun j => D j || j == m) (listed.setIfInBounds (k + m) true) (ps[m].app s) ?_ (by simp [hsz]) (fun j hj => ?_) (fun j hj e he => ?_) (hd.add ha hpm) a' w' hr'
        · have := filter_less hDm (List.range ps.length) List.nodup_range (List.mem_range.2 hm)
          omega
        · by_cases e : k + m = j
          · subst e
            rw [Array.getD_eq_getD_getElem?, Array.getElem?_setIfInBounds_self_of_lt (by omega)]
            simp [hiu]
          · rw [getD_set_ne false e, hlist j hj]
            have : (j - k == m) = false ∨ j < k := by
              by_cases h2 : j < k
              · exact .inr h2
              · left; simp; omega
            rcases this with h2 | h2
            · rw [h2]; simp
            · simp [h2]
        · by_cases e' : k + m = j
          · subst e'
            exact getD_set_true (hpl e he)
          · rw [getD_set_ne false e'] at hj
            exact getD_set_true (hclosed j hj e he)
  intro a w hr
  have h0 := main ps.length (fun _ => false) (doneTo ops.size k) σ (by show ((List.range ps.length).filter fun _ => true).length = ps.length; rw [List.filter_eq_self.2 (fun _ _ => rfl)]; simp) (by simp [doneTo]) (fun j hj => by rw [doneTo_get, if_pos hj]; simp) (fun j hj e he => by
    rw [doneTo_get] at hj ⊢
    split at hj
    · rename_i hjn
      have hlt' := hF.lt j hjn e he
      rw [if_pos (by omega)]
      simp at hj ⊢
      omega
    · cases hj) (Desc.start σ ps) a w hr
  rw [show ops.size - k = ops.size - (k + ps.length) + ps.length from by have := hF.size; omega]
  exact h0

/-- A REGION THAT DRAWS ITS ORDER. -/
theorem cw_draw {Ret : St → Prop} {k : List It} {id : Nat} {ops : Array Oper} (hm : P.follows .mixedOrders = true) (h : DrawOK P C ops (aft (RetOf C Ret) (sem P C (RetOf C Ret) k)) 0 σ) : Cw P C Ret (.code (.region id ops true) :: k) σ := fun a w hr => by
  obtain ⟨μ, S, hi⟩ := hr
  refine wp_region_any hm ?_
  have := h a w.drew ⟨μ, S, hi.drew⟩
  have e : doneTo ops.size 0 = Array.replicate ops.size false := by
    apply Array.ext <;> simp [doneTo]
  rw [e] at this
  exact this

theorem draw_close {Ret : St → Prop} {k : List It} {ops : Array Oper} {n : Nat} (hn : n = ops.size) (h : Cw P C Ret k σ) : DrawOK P C ops (aft (RetOf C Ret) (sem P C (RetOf C Ret) k)) n σ :=
  draw_end hn fun a w hr => h a w hr

end
end Go.Eng
