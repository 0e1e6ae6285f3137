/- Texts of this claim, part 4: EngN, EngM, EngO, EngP, EngR. No condition. -/
import Derived.Test.YtfiiingppbkpkaaGreatXR3
set_option maxRecDepth 10000
set_option maxHeartbeats 4000000
set_option linter.unusedSimpArgs false
set_option linter.unusedVariables false
namespace Go.Eng
section
variable {P : Program} {T : Tab} {C : Ctx} {σ σ' : St} {Ret : St → Prop}
def go (T : Tab) : Nat → List It → St → Option (Prop × List It × St)
 | 0, k, σ => some (True, k, σ)
 | n + 1, k, σ =>
  match k with
  | .code (.seq x y) :: k => go T n (.code x :: .code y :: k) σ
  | .code (.block id c) :: k => go T n (.code c :: .blk id :: k) σ
  | .code .skip :: k => go T n k σ
  | .blk _ :: k => go T n k σ
  | .code (.exit id) :: k =>
   match exitTo id k with
   | some k' => go T n k' σ
   | none => none
  | .code (.region _ ops false) :: k => go T n (.ops ops ops.toList :: k) σ
  | .ops all l :: k =>
   match runL T all l σ with
   | some (p, [], σ') => (go T n k σ').map fun r => (p ∧ r.1, r.2)
   | some (p, o :: l', σ') => some (p, .ops all (o :: l') :: k, σ')
   | none => none
  | k => some (True, k, σ)
theorem cw_go (hT : TabOK P T) : ∀ (n : Nat) {k k' : List It} {σ σ' : St} {p : Prop}, go T n k σ = some (p, k', σ') → p → Cw P C Ret k' σ' → Cw P C Ret k σ
 | 0, k, k', σ, σ', p, h, _, hk => by
  simp only [go, gL, gM] at h
  obtain ⟨_, rfl, rfl⟩ := h
  exact hk
 | n + 1, k, k', σ, σ', p, h, hp, hk => by
  unfold go at h
  split at h
  ·exact cw_seq (cw_go hT n h hp hk)
  ·exact cw_block (cw_go hT n h hp hk)
  ·exact cw_skip (cw_go hT n h hp hk)
  ·exact cw_blk (cw_go hT n h hp hk)
  ·split at h
   ·rename_i k1 he
    exact cw_exit he (cw_go hT n h hp hk)
   ·cases h
  ·exact cw_region (cw_go hT n h hp hk)
  ·rename_i all l k2
   split at h
   ·rename_i q σ1 hr
    cases e : go T n k2 σ1 with
    | none => rw [e] at h; cases h
    | some r =>
     obtain ⟨r1, r2, r3⟩ := r
     simp only [e, Option.map_some, gL, gM] at h
     obtain ⟨rfl, rfl, rfl⟩ := h
     exact cw_run hT hr hp.1 (cw_ops_nil (cw_go hT n e hp.2 hk))
   ·rename_i q o l' σ1 hr
    simp only [gL, gM] at h
    obtain ⟨rfl, rfl, rfl⟩ := h
    exact cw_run hT hr hp hk
   ·cases h
  ·simp only [gL, gM] at h
   obtain ⟨_, rfl, rfl⟩ := h
   exact hk
end
end Go.Eng
namespace Go.Eng
section
variable {P : Program} {T : Tab} {C : Ctx} {σ σ' : St}
inductive Loc where
 | tm (t : Nat)
 | blk (id : Nat)
 deriving DecidableEq
structure Sp where
 dst : Option Tmp
 val : AV
 new : List (Nat × Blk)
 rd : List Loc
def Sp.app (p : Sp) (σ : St) : St := St.put ⟨σ.tm, p.new ++ σ.hp⟩ p.dst p.val
def Sp.wr (p : Sp) : List Loc := (match p.dst with | some t => [Loc.tm t] | none => []) ++ p.new.map fun b => Loc.blk b.1
def AgreeAt (σ s : St) : Loc → Prop
 | .tm t => s.tm.getD t .any = σ.tm.getD t .any
 | .blk id => Yk s.hp id = Yk σ.hp id
def TripG (P : Program) (C : Ctx) (ops : Array Oper) (o : Oper) (σ σ' : St) : Prop :=
 ∀ a w (K : Act → World → Prop) (Q : Exit → Act → World → Prop), Rel C σ a w → (∀ a' w', Rel C σ' a' w' → K a' w') →
  if Region.wanted o (yielded ops a.tmps) then o.wp P a w K Q ∨ (o.asks P a w ∧ LetsOut Q) else K (a.put o.dst undef) w
def Rob (P : Program) (C : Ctx) (ops : Array Oper) (o : Oper) (p : Sp) (σ : St) : Prop :=
 ∀ s, (∀ x, x ∈ p.rd → AgreeAt σ s x) → (∀ b, b ∈ p.new → Loc.blk b.1 ∉ p.rd → Yk s.hp b.1 = none) → TripG P C ops o s (p.app s)
def RobChain (P : Program) (C : Ctx) (ops : Array Oper) : List Oper → List Sp → St → Prop
 | [], [], _ => True
 | o :: l, p :: ps, σ => Rob P C ops o p σ ∧ RobChain P C ops l ps (p.app σ)
 | _, _, _ => False
def appAll : List Sp → St → St
 | [], σ => σ
 | p :: ps, σ => appAll ps (p.app σ)
def canT (D : Nat → Bool) : Nat → List Sp → Nat → AV → AV
 | _, [], _, d => d
 | i, p :: r, t, d => canT D (i + 1) r t (if D i = true ∧ p.dst = some t then p.val else d)
def canH (D : Nat → Bool) : Nat → List Sp → Nat → Option Blk → Option Blk
 | _, [], _, d => d
 | i, p :: r, id, d => canH D (i + 1) r id (if D i = true ∧ (∃ b, b ∈ p.new ∧ b.1 = id) then Yk p.new id else d)
theorem canT_congr {D E : Nat → Bool} {t : Nat} : ∀ (ps : List Sp) (i : Nat) {d : AV}, (∀ j p, ps[j]? = some p → p.dst = some t → D (i + j) = E (i + j)) → canT D i ps t d = canT E i ps t d
 | [], _, _, _ => rfl
 | p :: r, i, d, h => by
  simp only [canT]
  have h0 : (D i = true ∧ p.dst = some t) ↔ (E i = true ∧ p.dst = some t) := by
   constructor <;> rintro ⟨h1, h2⟩
   ·exact ⟨(h 0 p rfl h2).symm.trans h1, h2⟩
   ·exact ⟨(h 0 p rfl h2).trans h1, h2⟩
  rw [canT_congr (D := D) (E := E) (t := t) r (i + 1) (fun j q hq hd => by
   have := h (j + 1) q (by simpa using hq) hd
   rwa [show i + (j + 1) = i + 1 + j from by omega] at this)]
  congr 1
  by_cases hc : D i = true ∧ p.dst = some t
  ·rw [if_pos hc, if_pos (h0.1 hc)]
  ·rw [if_neg hc, if_neg (fun h => hc (h0.2 h))]
theorem canH_congr {D E : Nat → Bool} {id : Nat} : ∀ (ps : List Sp) (i : Nat) {d : Option Blk}, (∀ j p, ps[j]? = some p → (∃ b, b ∈ p.new ∧ b.1 = id) → D (i + j) = E (i + j)) → canH D i ps id d = canH E i ps id d
 | [], _, _, _ => rfl
 | p :: r, i, d, h => by
  simp only [canH]
  have h0 : (D i = true ∧ (∃ b, b ∈ p.new ∧ b.1 = id)) ↔ (E i = true ∧ (∃ b, b ∈ p.new ∧ b.1 = id)) := by
   constructor <;> rintro ⟨h1, h2⟩
   ·exact ⟨(h 0 p rfl h2).symm.trans h1, h2⟩
   ·exact ⟨(h 0 p rfl h2).trans h1, h2⟩
  rw [canH_congr (D := D) (E := E) (id := id) r (i + 1) (fun j q hq hd => by
   have := h (j + 1) q (by simpa using hq) hd
   rwa [show i + (j + 1) = i + 1 + j from by omega] at this)]
  congr 1
  by_cases hc : D i = true ∧ (∃ b, b ∈ p.new ∧ b.1 = id)
  ·rw [if_pos hc, if_pos (h0.1 hc)]
  ·rw [if_neg hc, if_neg (fun h => hc (h0.2 h))]
theorem canT_none {D : Nat → Bool} {t : Nat} : ∀ (ps : List Sp) (i : Nat) {d : AV}, (∀ j p, ps[j]? = some p → p.dst = some t → D (i + j) = false) → canT D i ps t d = d
 | [], _, _, _ => rfl
 | p :: r, i, d, h => by
  simp only [canT]
  rw [if_neg (fun hc => by have := h 0 p rfl hc.2; rw [Nat.add_zero, hc.1] at this; cases this)]
  exact canT_none r (i + 1) (fun j q hq hd => by
   have := h (j + 1) q (by simpa using hq) hd
   rwa [show i + (j + 1) = i + 1 + j from by omega] at this)
theorem canH_none {D : Nat → Bool} {id : Nat} : ∀ (ps : List Sp) (i : Nat) {d : Option Blk}, (∀ j p, ps[j]? = some p → (∃ b, b ∈ p.new ∧ b.1 = id) → D (i + j) = false) → canH D i ps id d = d
 | [], _, _, _ => rfl
 | p :: r, i, d, h => by
  simp only [canH]
  rw [if_neg (fun hc => by have := h 0 p rfl hc.2; rw [Nat.add_zero, hc.1] at this; cases this)]
  exact canH_none r (i + 1) (fun j q hq hd => by
   have := h (j + 1) q (by simpa using hq) hd
   rwa [show i + (j + 1) = i + 1 + j from by omega] at this)
theorem canT_add {E : Nat → Bool} {t : Nat} {q : Sp} : ∀ (ps : List Sp) (i m : Nat) {d : AV}, ps[m]? = some q → q.dst = some t → E (i + m) = true → (∀ j p, ps[j]? = some p → p.dst = some t → m < j → E (i + j) = false) → canT E i ps t d = q.val
 | [], _, _, _, h, _, _, _ => by simp at h
 | p :: r, i, m, d, h, hd, hE, hu => by
  simp only [canT]
  cases m with
  | zero =>
   simp only [List.getElem?_cons_zero, Option.some.injEq] at h
   subst h
   rw [if_pos ⟨hE, hd⟩]
   exact canT_none r (i + 1) (fun j p' hj hd' => by
    have := hu (j + 1) p' (by simpa using hj) hd' (by omega)
    rwa [show i + (j + 1) = i + 1 + j from by omega] at this)
  | succ m =>
   exact canT_add r (i + 1) m (by simpa using h) hd (by rw [show i + 1 + m = i + (m + 1) from by omega]; exact hE) (fun j p' hj hd' hlt => by
    have := hu (j + 1) p' (by simpa using hj) hd' (by omega)
    rwa [show i + (j + 1) = i + 1 + j from by omega] at this)
theorem canH_add {E : Nat → Bool} {id : Nat} {q : Sp} : ∀ (ps : List Sp) (i m : Nat) {d : Option Blk}, ps[m]? = some q → (∃ b, b ∈ q.new ∧ b.1 = id) → E (i + m) = true → (∀ j p, ps[j]? = some p → (∃ b, b ∈ p.new ∧ b.1 = id) → m < j → E (i + j) = false) → canH E i ps id d = Yk q.new id
 | [], _, _, _, h, _, _, _ => by simp at h
 | p :: r, i, m, d, h, hd, hE, hu => by
  simp only [canH]
  cases m with
  | zero =>
   simp only [List.getElem?_cons_zero, Option.some.injEq] at h
   subst h
   rw [if_pos ⟨hE, hd⟩]
   exact canH_none r (i + 1) (fun j p' hj hd' => by
    have := hu (j + 1) p' (by simpa using hj) hd' (by omega)
    rwa [show i + (j + 1) = i + 1 + j from by omega] at this)
  | succ m =>
   exact canH_add r (i + 1) m (by simpa using h) hd (by rw [show i + 1 + m = i + (m + 1) from by omega]; exact hE) (fun j p' hj hd' hlt => by
    have := hu (j + 1) p' (by simpa using hj) hd' (by omega)
    rwa [show i + (j + 1) = i + 1 + j from by omega] at this)
structure Desc (σ : St) (ps : List Sp) (D : Nat → Bool) (s : St) : Prop where
 len : s.tm.length = σ.tm.length
 tm : ∀ t, s.tm.getD t .any = canT D 0 ps t (σ.tm.getD t .any)
 hp : ∀ id, Yk s.hp id = canH D 0 ps id (Yk σ.hp id)
theorem Za (h k : List (Nat × Blk)) (id : Nat) : Yk (h ++ k) id = if (∃ b, b ∈ h ∧ b.1 = id) then Yk h id else Yk k id := by
 induction h with
 | nil => simp
 | cons p r ih =>
  obtain ⟨i, c⟩ := p
  simp only [List.cons_append, Yk]
  by_cases e : i = id
  ·subst e
   simp
  ·rw [if_neg e, if_neg e, ih]
   by_cases h2 : ∃ b, b ∈ r ∧ b.1 = id
   ·rw [if_pos h2]
    obtain ⟨b, h3, h4⟩ := h2
    rw [if_pos ⟨b, List.mem_cons_of_mem _ h3, h4⟩]
   ·rw [if_neg h2, if_neg]
    rintro ⟨b, h3, h4⟩
    rcases List.mem_cons.1 h3 with h5 | h5
    ·subst h5; exact e h4
    ·exact h2 ⟨b, h5, h4⟩
structure Apart (ps : List Sp) (n : Nat) : Prop where
 lt : ∀ (i : Nat) (p : Sp) t, ps[i]? = some p → p.dst = some t → t < n
theorem wr_tm {p : Sp} {t : Nat} (h : p.dst = some t) : Loc.tm t ∈ p.wr := by simp [Sp.wr, h]
theorem wr_blk {p : Sp} {id : Nat} (h : ∃ b, b ∈ p.new ∧ b.1 = id) : Loc.blk id ∈ p.wr := by
 obtain ⟨b, hb, rfl⟩ := h
 exact List.mem_append_right _ (List.mem_map.2 ⟨b, hb, rfl⟩)
theorem Desc.add {ps : List Sp} {D : Nat → Bool} {s : St} (h : Desc σ ps D s) (ha : Apart ps σ.tm.length) {m : Nat} {q : Sp} (hq : ps[m]? = some q)
  (hlate : ∀ j p x, ps[j]? = some p → x ∈ p.wr → x ∈ q.wr → m < j → D j = false) : Desc σ ps (fun j => D j || j == m) (q.app s) := by
 refine ⟨?_, fun t => ?_, fun id => ?_⟩
 ·unfold Sp.app St.put
  cases q.dst <;> simp [h.len]
 ·by_cases hd : q.dst = some t
  ·rw [canT_add ps 0 m hq hd (by simp) (fun j p hj hd' hlt => by
    rw [Nat.zero_add, hlate j p _ hj (wr_tm hd') (wr_tm hd) hlt]; simp; omega)]
   have hlt := ha.lt m q t hq hd
   simp only [Sp.app, hd, St.put, List.getD_eq_getElem?_getD]
   rw [List.getElem?_set_self (by rw [h.len]; exact hlt)]
   rfl
  ·have : (q.app s).tm.getD t .any = s.tm.getD t .any := by
    unfold Sp.app St.put
    cases e : q.dst with
    | none => rfl
    | some u =>
     simp only [List.getD_eq_getElem?_getD]
     rw [List.getElem?_set_ne (by rintro rfl; exact hd e)]
   rw [this, h.tm t]
   refine canT_congr ps 0 (fun j p hj hd' => ?_)
   have : j ≠ m := by rintro rfl; rw [hq] at hj; injection hj with hj; subst hj; exact hd hd'
   simp [this]
 ·have e : Yk (q.app s).hp id = Yk (q.new ++ s.hp) id := by
   unfold Sp.app; rw [St.put_hp]
  rw [e, Za]
  by_cases hd : ∃ b, b ∈ q.new ∧ b.1 = id
  ·rw [if_pos hd, canH_add ps 0 m hq hd (by simp) (fun j p hj hd' hlt => by
    rw [Nat.zero_add, hlate j p _ hj (wr_blk hd') (wr_blk hd) hlt]; simp; omega)]
  ·rw [if_neg hd, h.hp id]
   refine canH_congr ps 0 (fun j p hj hd' => ?_)
   have : j ≠ m := by rintro rfl; rw [hq] at hj; injection hj with hj; subst hj; exact hd hd'
   simp [this]
theorem Desc.start (σ : St) (ps : List Sp) : Desc σ ps (fun _ => false) σ := by
 exact ⟨rfl, fun t => (canT_none _ _ (fun _ _ _ _ => rfl)).symm, fun id => (canH_none _ _ (fun _ _ _ _ => rfl)).symm⟩
theorem rel_same {s s' : St} (hl : s.tm.length = s'.tm.length) (ht : ∀ t, s.tm.getD t .any = s'.tm.getD t .any) (hh : ∀ id, Yk s.hp id = Yk s'.hp id) : Le C s s' := by
 intro a w ⟨μ, S, hi⟩
 refine ⟨μ, S, by rw [hi.size, hl], hi.defers, fun t x hx => ?_, fun id b hb => hi.hp id b (by rw [hh]; exact hb), fun id g hg => ?_, hi.inj, hi.frm, hi.sb⟩
 ·have hlt : t < s'.tm.length := by
   by_cases h : t < s'.tm.length
   ·exact h
   ·rw [List.getElem?_eq_none (by omega)] at hx; cases hx
  have e := ht t
  rw [List.getD_eq_getElem?_getD, List.getD_eq_getElem?_getD, hx, List.getElem?_eq_getElem (by omega)] at e
  simp only [Option.getD_some] at e
  exact hi.tm t x (by rw [List.getElem?_eq_getElem (by omega), e])
 ·obtain ⟨⟨b, h1⟩, h2⟩ := hi.dom id g hg
  exact ⟨⟨b, by rw [← hh]; exact h1⟩, h2⟩
def upto (ps : List Sp) (i : Nat) (σ : St) : St := appAll (ps.take i) σ
theorem upto_succ : ∀ (ps : List Sp) (i : Nat) (σ : St) {p : Sp}, ps[i]? = some p → upto ps (i + 1) σ = p.app (upto ps i σ)
 | [], i, σ, p, h => by simp at h
 | q :: r, 0, σ, p, h => by
  simp only [List.getElem?_cons_zero, Option.some.injEq] at h; subst h
  simp [upto, appAll]
 | q :: r, i + 1, σ, p, h => by
  have := upto_succ r i (q.app σ) (p := p) (by simpa using h)
  simpa [upto, appAll] using this
theorem desc_upto {ps : List Sp} (ha : Apart ps σ.tm.length) : ∀ i, i ≤ ps.length → Desc σ ps (fun j => decide (j < i)) (upto ps i σ)
 | 0, _ => by simpa [upto, appAll] using Desc.start σ ps
 | i + 1, h => by
  have hp : ps[i]? = some ps[i] := List.getElem?_eq_getElem (by omega)
  rw [upto_succ ps i σ hp]
  have := (desc_upto ha i (by omega)).add ha hp (fun j p x _ _ _ hlt => by simp; omega)
  have e : (fun j => decide (j < i) || j == i) = fun j => decide (j < i + 1) := by
   funext j
   rw [Bool.eq_iff_iff]
   simp only [Bool.or_eq_true, decide_eq_true_eq, beq_iff_eq]
   omega
  rwa [e] at this
theorem chain_get {ops : Array Oper} : ∀ (l : List Oper) (ps : List Sp) (σ : St), RobChain P C ops l ps σ → ∀ i o p, l[i]? = some o → ps[i]? = some p → Rob P C ops o p (upto ps i σ)
 | [], [], _, _, i, o, p, h, _ => by simp at h
 | o' :: l, p' :: ps, σ, h, i, o, p, ho, hp => by
  cases i with
  | zero =>
   simp only [List.getElem?_cons_zero, Option.some.injEq] at ho hp
   subst ho hp
   simpa [upto, appAll] using h.1
  | succ i =>
   have := chain_get l ps (p'.app σ) h.2 i o p (by simpa using ho) (by simpa using hp)
   simpa [upto, appAll] using this
 | [], _ :: _, _, h, _, _, _, _, _ => h.elim
 | _ :: _, [], _, h, _, _, _, _, _ => h.elim
def preds (ops : Array Oper) (i : Nat) : List Nat :=
 match ops[i]? with
 | some o => (o.after.toList.filter fun e => Region.binds .any e).map (·.on)
 | none => []
def reach (ops : Array Oper) : Nat → Nat → Nat → Bool
 | 0, _, _ => false
 | f + 1, i, j => (preds ops j).any fun e => e == i || reach ops f i e
theorem reach_listed {ops : Array Oper} {listed : Array Bool} (hc : ∀ j, listed.getD j false = true → ∀ e, e ∈ preds ops j → listed.getD e false = true) :
  ∀ (f i j : Nat), reach ops f i j = true → (∀ e, e ∈ preds ops j → listed.getD e false = true) → listed.getD i false = true
 | 0, _, _, h, _ => by cases h
 | f + 1, i, j, h, hj => by
  simp only [reach, List.any_eq_true, Bool.or_eq_true, beq_iff_eq] at h
  obtain ⟨e, he, h1⟩ := h
  rcases h1 with rfl | h1
  ·exact hj _ he
  ·exact reach_listed hc f i e h1 (hc e (hj e he))
abbrev Skel := List (List Loc × List Loc)
def skel (ps : List Sp) : Skel := ps.map fun p => (p.wr, p.rd)
def ancRow (ops : Array Oper) (j : Nat) (t : List Nat) : Nat := (preds ops j).foldl (fun m e => m ||| ((1 <<< e) ||| (if e < j then t.getD (j - 1 - e) 0 else 0))) 0
def ancGo (ops : Array Oper) : Nat → List Nat
 | 0 => []
 | j + 1 => ancRow ops j (ancGo ops j) :: ancGo ops j
def hit (n : Nat) (t : List Nat) (i j : Nat) : Bool := (t.getD (n - 1 - j) 0).testBit i
theorem reach_mono {ops : Array Oper} : ∀ (f g : Nat) {i j : Nat}, f ≤ g → reach ops f i j = true → reach ops g i j = true
 | 0, _, i, j, _, h => by cases h
 | f + 1, 0, i, j, hfg, _ => by omega
 | f + 1, g + 1, i, j, hfg, h => by
  simp only [reach, List.any_eq_true, Bool.or_eq_true, beq_iff_eq] at h ⊢
  obtain ⟨e, he, h1⟩ := h
  refine ⟨e, he, ?_⟩
  rcases h1 with h1 | h1
  ·exact .inl h1
  ·exact .inr (reach_mono f g (by omega) h1)
theorem anc_fold {F : Nat → Nat} {i : Nat} : ∀ (l : List Nat) (m : Nat), (l.foldl (fun m e => m ||| F e) m).testBit i = true → m.testBit i = true ∨ ∃ e, e ∈ l ∧ (F e).testBit i = true
 | [], m, h => .inl h
 | e :: l, m, h => by
  simp only [List.foldl_cons] at h
  rcases anc_fold l _ h with h | ⟨e', he, h⟩
  ·rw [Nat.testBit_or, Bool.or_eq_true] at h
   rcases h with h | h
   ·exact .inl h
   ·exact .inr ⟨e, by simp, h⟩
  ·exact .inr ⟨e', by simp [he], h⟩
theorem bit_one {i e : Nat} (h : (1 <<< e).testBit i = true) : i = e := by
 simp only [Nat.testBit_shiftLeft, Bool.and_eq_true, decide_eq_true_eq] at h
 obtain ⟨h1, h2⟩ := h
 have : i - e = 0 := by
  by_cases h3 : i - e = 0
  ·exact h3
  ·rw [show i - e = (i - e - 1) + 1 from by omega, Nat.testBit_succ] at h2
   simp at h2
 omega
theorem ancGo_sound (ops : Array Oper) : ∀ (n j i : Nat), j < n → ((ancGo ops n).getD (n - 1 - j) 0).testBit i = true → reach ops (j + 1) i j = true
 | 0, j, i, h, _ => by omega
 | n + 1, j, i, h, hb => by
  by_cases e : j = n
  ·subst e
   simp only [ancGo, Nat.add_sub_cancel, Nat.sub_self, List.getD_cons_zero] at hb
   unfold ancRow at hb
   rcases anc_fold _ _ hb with h1 | ⟨e, he, h1⟩
   ·simp at h1
   ·simp only [reach, List.any_eq_true, Bool.or_eq_true, beq_iff_eq]
    refine ⟨e, he, ?_⟩
    rw [Nat.testBit_or, Bool.or_eq_true] at h1
    rcases h1 with h1 | h1
    ·exact .inl (bit_one h1).symm
    ·split at h1
     ·rename_i hlt
      exact .inr (reach_mono (e + 1) j (by omega) (ancGo_sound ops j e i hlt h1))
     ·simp at h1
  ·have e1 : n + 1 - 1 - j = (n - 1 - j) + 1 := by omega
   rw [e1] at hb
   simp only [ancGo, List.getD_cons_succ] at hb
   exact ancGo_sound ops n j i (by omega) hb
theorem hit_reach {ops : Array Oper} {i j : Nat} (hj : j < ops.size) (h : hit ops.size (ancGo ops ops.size) i j = true) : reach ops ops.size i j = true :=
 reach_mono (j + 1) ops.size (by omega) (ancGo_sound ops ops.size j i hj h)
def segOKt (ops : Array Oper) (k : Nat) (sk : Skel) (n : Nat) (t : List Nat) : Bool :=
 ((List.range ops.size).all fun i => (preds ops i).all fun e => decide (e < i)) &&
 ((List.range ops.size).all fun i => decide (i < k + sk.length) || (List.range sk.length).all fun s => hit n t (k + s) i) &&
 ((List.range sk.length).all fun i => (List.range sk.length).all fun j =>
  match sk[i]?, sk[j]? with
  | some p, some q => i == j || (!(q.1.any fun x => p.1.contains x || p.2.contains x) || (if j < i then hit n t (k + j) (k + i) else hit n t (k + i) (k + j)))
  | _, _ => true) && decide (k + sk.length ≤ ops.size)
def segOK (ops : Array Oper) (k : Nat) (sk : Skel) : Bool := segOKt ops k sk ops.size (ancGo ops ops.size)
structure SegFacts (ops : Array Oper) (k : Nat) (ps : List Sp) : Prop where
 lt : ∀ i, i < ops.size → ∀ e, e ∈ preds ops i → e < i
 late : ∀ i, i < ops.size → k + ps.length ≤ i → ∀ s, s < ps.length → reach ops ops.size (k + s) i = true
 od : ∀ (i j : Nat) p q x, ps[i]? = some p → ps[j]? = some q → x ∈ q.wr → (x ∈ p.rd ∨ x ∈ p.wr) → i ≠ j → (j < i ∧ reach ops ops.size (k + j) (k + i) = true) ∨ (i < j ∧ reach ops ops.size (k + i) (k + j) = true)
 size : k + ps.length ≤ ops.size
theorem seg_facts {ops : Array Oper} {k : Nat} {ps : List Sp} (h : segOK ops k (skel ps) = true) : SegFacts ops k ps := by
 unfold segOK segOKt at h
 simp only [Bool.and_eq_true, decide_eq_true_eq] at h
 obtain ⟨⟨⟨h1, h2⟩, h3⟩, h4⟩ := h
 have hl : (skel ps).length = ps.length := by simp [skel]
 rw [hl] at h2 h3 h4
 have key : ∀ (i j : Nat) (p q : Sp), ps[i]? = some p → ps[j]? = some q → i = j ∨ ((∀ x, x ∈ q.wr → x ∉ p.wr ∧ x ∉ p.rd) ∨ (if j < i then reach ops ops.size (k + j) (k + i) else reach ops ops.size (k + i) (k + j)) = true) := by
  intro i j p q hp hq
  have hi : i < ps.length := (List.getElem?_eq_some_iff.1 hp).1
  have hj : j < ps.length := (List.getElem?_eq_some_iff.1 hq).1
  have := List.all_eq_true.1 (List.all_eq_true.1 h3 i (List.mem_range.2 hi)) j (List.mem_range.2 hj)
  simp only [skel, List.getElem?_map, hp, hq, Option.map_some, Bool.or_eq_true, beq_iff_eq, Bool.not_eq_true', List.any_eq_false, List.contains_iff_mem] at this
  rcases this with h | h6
  ·exact .inl h
  ·refine .inr ?_
   rcases h6 with h6 | h6
   ·exact .inl (fun x hx => ⟨fun hx' => h6 x hx (.inl hx'), fun hx' => h6 x hx (.inr hx')⟩)
   ·refine .inr ?_
    split at h6
    ·rw [if_pos (by assumption)]; exact hit_reach (by omega) h6
    ·rw [if_neg (by assumption)]; exact hit_reach (by omega) h6
 refine ⟨fun i hi e he => ?_, fun i hi hle s hs => ?_, fun i j p q x hp hq hx hx' hne => ?_, h4⟩
 ·have := List.all_eq_true.1 (List.all_eq_true.1 h1 i (List.mem_range.2 hi)) e he
  simpa using this
 ·have := List.all_eq_true.1 h2 i (List.mem_range.2 hi)
  simp only [Bool.or_eq_true, decide_eq_true_eq] at this
  rcases this with h | h
  ·omega
  ·exact hit_reach hi (List.all_eq_true.1 h s (List.mem_range.2 hs))
 ·rcases key i j p q hp hq with h | h
  ·exact absurd h hne
  ·rcases h with h | h
   ·rcases hx' with hx' | hx'
    ·exact absurd hx' (h x hx).2
    ·exact absurd hx' (h x hx).1
   ·split at h
    ·exact .inl ⟨by assumption, h⟩
    ·exact .inr ⟨by omega, h⟩
def Yt (n k : Nat) : Array Bool := (Array.range n).map fun i => decide (i < k)
theorem doneTo_get (n k j : Nat) (d : Bool) : (Yt n k).getD j d = if j < n then decide (j < k) else d := by
 unfold Yt
 rw [Array.getD_eq_getD_getElem?, Array.getElem?_map, Array.getElem?_range]
 split <;> rfl
def DrawOK (P : Program) (C : Ctx) (ops : Array Oper) (Q : Exit → Act → World → Prop) (k : Nat) (σ : St) : Prop :=
 ∀ a w, Rel C σ a w → wpAny P .any ops Q (ops.size - k) (Yt ops.size k) a w
theorem draw_end {ops : Array Oper} {Q : Exit → Act → World → Prop} {k : Nat} (hk : k = ops.size) (h : ∀ a w, Rel C σ a w → Q .normal a w) : DrawOK P C ops Q k σ := by
 intro a w hr
 subst hk
 have : Region.ready .any ops (Yt ops.size ops.size) = [] := by
  rw [List.eq_nil_iff_forall_not_mem]
  intro j hj
  obtain ⟨h1, o, ho, _⟩ := mem_ready.1 hj
  have hlt : j < ops.size := (Array.getElem?_eq_some_iff.1 ho).1
  rw [doneTo_get, if_pos hlt] at h1
  simp [hlt] at h1
 rw [Nat.sub_self]
 exact ⟨this, h a w hr⟩
theorem drawn_op {ops : Array Oper} {Q : Exit → Act → World → Prop} {i : Nat} {o : Oper} (ho : ops[i]? = some o) {s s' : St} (ht : TripG P C ops o s s') {K : Act → World → Prop} {a : Act} {w : World} (hr : Rel C s a w)
  (hK : ∀ a' w', Rel C s' a' w' → K a' w') : wpOp P ops Q i K a w := by
 unfold wpOp
 simp only [ho]
 exact ht a w K Q hr hK
theorem draw_one {ops : Array Oper} {Q : Exit → Act → World → Prop} {k : Nat} {o : Oper} (ho : ops[k]? = some o) (hc : Region.ready .any ops (Yt ops.size k) = [k]) (ht : TripG P C ops o σ σ') (h : DrawOK P C ops Q (k + 1) σ') :
  DrawOK P C ops Q k σ := by
 intro a w hr
 have hlt : k < ops.size := (Array.getElem?_eq_some_iff.1 ho).1
 rw [show ops.size - k = (ops.size - (k + 1)) + 1 from by omega]
 refine ⟨fun h0 => (by rw [hc] at h0; cases h0), fun i hi => ?_⟩
 rw [hc, List.mem_singleton] at hi
 subst hi
 refine drawn_op ho ht hr fun a' w' hr' => ?_
 have e : (Yt ops.size i).setIfInBounds i true = Yt ops.size (i + 1) := by
  apply Array.ext
  ·simp [Yt]
  ·intro j h1 h2
   simp only [Yt, Array.size_setIfInBounds, Array.size_map, Array.size_range] at h1
   rw [Array.getElem_setIfInBounds (by simpa [Yt] using h1)]
   split
   ·rename_i e; subst e; simp [Yt]
   ·rename_i e; simp [Yt]; omega
 rw [e]
 exact h a' w' hr'
theorem filter_less {D : Nat → Bool} {m : Nat} (hm : D m = false) : ∀ (l : List Nat), l.Nodup → m ∈ l → (l.filter fun j => !(D j || j == m)).length + 1 = (l.filter fun j => !D j).length
 | [], _, h => by cases h
 | x :: r, hn, h => by
  rw [List.nodup_cons] at hn
  rcases List.mem_cons.1 h with rfl | h'
  ·have e : (r.filter fun j => !(D j || j == m)) = r.filter fun j => !D j := by
    refine List.filter_congr fun j hj => ?_
    have : j ≠ m := by rintro rfl; exact hn.1 hj
    simp [this]
   simp only [List.filter_cons, hm, beq_self_eq_true, Bool.or_true, Bool.not_true, Bool.false_eq_true, if_false, Bool.not_false, if_true, List.length_cons]
   rw [e]
  ·have hx : x ≠ m := by rintro rfl; exact hn.1 h'
   have ih := filter_less hm r hn.2 h'
   simp only [List.filter_cons]
   have e : (x == m) = false := by simpa using hx
   rw [e]
   simp only [Bool.or_false]
   split
   ·simp only [List.length_cons]; omega
   ·exact ih
theorem draw_seg {ops : Array Oper} {Q : Exit → Act → World → Prop} {k : Nat} {l : List Oper} {ps : List Sp} (hck : segOK ops k (skel ps) = true) (hlen : l.length = ps.length)
  (hl : ∀ i, i < ps.length → ops[k + i]? = l[i]?) (hlt : ∀ (i : Nat) p t, ps[i]? = some p → p.dst = some t → t < σ.tm.length) (hfr : ∀ (i : Nat) p, ps[i]? = some p → ∀ b, b ∈ p.new → Loc.blk b.1 ∉ p.rd → Yk (upto ps i σ).hp b.1 = none)
  (hch : RobChain P C ops l ps σ) (h : DrawOK P C ops Q (k + ps.length) (appAll ps σ)) : DrawOK P C ops Q k σ := by
 have hF := seg_facts hck
 have ha : Apart ps σ.tm.length := ⟨hlt⟩
 have main : ∀ (r : Nat) (D : Nat → Bool) (listed : Array Bool) (s : St), ((List.range ps.length).filter fun j => !D j).length = r → listed.size = ops.size →
   (∀ j, j < ops.size → listed.getD j false = (decide (j < k) || (decide (j < k + ps.length) && D (j - k)))) →
   (∀ j, listed.getD j false = true → ∀ e, e ∈ preds ops j → listed.getD e false = true) → Desc σ ps D s → ∀ a w, Rel C s a w → wpAny P .any ops Q (ops.size - (k + ps.length) + r) listed a w := by
  intro r
  induction r with
  | zero =>
   intro D listed s hr hsz hlist _ hd a w hrel
   have hall : ∀ j, j < ps.length → D j = true := fun j hj => by
    have h0 : (List.range ps.length).filter (fun j => !D j) = [] := List.eq_nil_of_length_eq_zero hr
    have := List.filter_eq_nil_iff.1 h0 j (List.mem_range.2 hj)
    simpa using this
   have e : listed = Yt ops.size (k + ps.length) := by
    apply Array.ext
    ·simp [Yt, hsz]
    ·intro j h1 h2
     have hj : j < ops.size := by omega
     have h3 := hlist j hj
     rw [Array.getD_eq_getD_getElem?, Array.getElem?_eq_getElem h1, Option.getD_some] at h3
     rw [h3]
     have h4 := doneTo_get ops.size (k + ps.length) j false
     rw [Array.getD_eq_getD_getElem?, Array.getElem?_eq_getElem h2, Option.getD_some, if_pos hj] at h4
     rw [h4]
     by_cases hk : j < k
     ·simp [hk]; omega
     ·by_cases hk2 : j < k + ps.length
      ·simp [hk, hk2, hall (j - k) (by omega)]
      ·simp [hk, hk2]
   rw [Nat.add_zero, e]
   have hu := desc_upto ha ps.length (Nat.le_refl _)
   have hsame : Le C s (appAll ps σ) := by
    have e2 : upto ps ps.length σ = appAll ps σ := by simp [upto]
    rw [← e2]
    refine rel_same (hd.len.trans hu.len.symm) (fun t => ?_) (fun id => ?_)
    ·rw [hd.tm, hu.tm]
     exact canT_congr ps 0 (fun j p hj _ => by
      have hj' : j < ps.length := (List.getElem?_eq_some_iff.1 hj).1
      simp [hall j hj', hj'])
    ·rw [hd.hp, hu.hp]
     exact canH_congr ps 0 (fun j p hj _ => by
      have hj' : j < ps.length := (List.getElem?_eq_some_iff.1 hj).1
      simp [hall j hj', hj'])
   exact h a w (hsame a w hrel)
  | succ r ih =>
   intro D listed s hr hsz hlist hclosed hd a w hrel
   have hex : ∃ m, m < ps.length ∧ D m = false := by
    have hne : (List.range ps.length).filter (fun j => !D j) ≠ [] := by intro e; rw [e] at hr; simp at hr
    obtain ⟨m, hm⟩ := List.exists_mem_of_ne_nil _ hne
    rw [List.mem_filter, List.mem_range] at hm
    exact ⟨m, hm.1, by simpa using hm.2⟩
   obtain ⟨m0, ⟨hm0, hD0⟩, hmin⟩ := least (p := fun m => m < ps.length ∧ D m = false) hex
   have hun : listed.getD (k + m0) false = false := by
    rw [hlist _ (by have := hF.size; omega)]
    simp [show ¬ k + m0 < k by omega, hD0]
   refine ⟨fun h0 => ?_, fun i hi => ?_⟩
   ·exfalso
    have : k + m0 ∈ Region.ready .any ops listed := by
     rw [mem_ready]
     have hlt' : k + m0 < ops.size := by have := hF.size; omega
     refine ⟨?_, ops[k + m0], Array.getElem?_eq_getElem hlt', fun e he hb => ?_⟩
     ·rw [Array.getD_eq_getD_getElem?, Array.getElem?_eq_getElem (by omega)] at hun ⊢
      exact hun
     ·have hmem : e.on ∈ preds ops (k + m0) := by
       unfold preds
       rw [Array.getElem?_eq_getElem hlt']
       exact List.mem_map.2 ⟨e, List.mem_filter.2 ⟨by simpa using he, hb⟩, rfl⟩
      have hl' := hF.lt _ hlt' _ hmem
      rw [hlist _ (by omega)]
      by_cases h1 : e.on < k
      ·simp [h1]
      ·have h2 : D (e.on - k) = true := by
        cases h3 : D (e.on - k) with
        | true => rfl
        | false => exact absurd ⟨by omega, h3⟩ (hmin (e.on - k) (by omega))
       simp [h1, h2, show e.on < k + ps.length by omega]
    rw [h0] at this
    cases this
   ·obtain ⟨h1, o, ho, hall⟩ := mem_ready.1 hi
    have hilt : i < ops.size := (Array.getElem?_eq_some_iff.1 ho).1
    have hil : listed.getD i false = false := by
     rw [Array.getD_eq_getD_getElem?, Array.getElem?_eq_getElem (by omega)] at h1 ⊢
     exact h1
    have hpl : ∀ e, e ∈ preds ops i → listed.getD e false = true := fun e he => by
     unfold preds at he
     rw [ho] at he
     obtain ⟨ed, hed, rfl⟩ := List.mem_map.1 he
     rw [List.mem_filter] at hed
     exact hall ed (by simpa using hed.1) hed.2
    have hik : k ≤ i := by
     rw [hlist i hilt] at hil
     simp at hil
     omega
    have hiu : i < k + ps.length := by
     rcases Nat.lt_or_ge i (k + ps.length) with h2 | h2
     ·exact h2
     ·have := reach_listed hclosed _ _ _ (hF.late i hilt h2 m0 hm0) hpl
      rw [hun] at this
      cases this
    obtain ⟨m, rfl⟩ : ∃ m, i = k + m := ⟨i - k, by omega⟩
    have hm : m < ps.length := by omega
    have hDm : D m = false := by
     rw [hlist _ hilt] at hil
     simpa [show ¬ k + m < k by omega, hiu] using hil
    have hpm : ps[m]? = some ps[m] := List.getElem?_eq_getElem hm
    have hom : l[m]? = some o := by rw [← hl m hm]; exact ho
    have hrob := chain_get l ps σ hch m o ps[m] hom hpm
    have hu := desc_upto ha m (by omega)
    have key : ∀ x, (x ∈ ps[m].rd ∨ x ∈ ps[m].wr) → ∀ (j : Nat) q, ps[j]? = some q → x ∈ q.wr → D j = decide (j < m) := fun x hx j q hq hxq => by
     have hj : j < ps.length := (List.getElem?_eq_some_iff.1 hq).1
     by_cases e : m = j
     ·subst e; simp [hDm]
     ·rcases hF.od m j _ q x hpm hq hxq hx e with ⟨h3, h4⟩ | ⟨h3, h4⟩
      ·have h5 := reach_listed hclosed _ _ _ h4 hpl
       rw [hlist _ (by omega)] at h5
       simp [show ¬ k + j < k by omega] at h5
       simp [h3, h5.2]
      ·cases h6 : D j with
       | false => simp; omega
       | true =>
        have h7 : listed.getD (k + j) false = true := by
         rw [hlist _ (by have := hF.size; omega)]
         simp [h6, hj]
        have h8 := reach_listed hclosed _ _ _ h4 (hclosed _ h7)
        rw [hil] at h8
        cases h8
    have hag : ∀ x, x ∈ ps[m].rd → AgreeAt (upto ps m σ) s x := fun x hx => by
     have key := key x (.inl hx)
     cases x with
     | tm t =>
      show s.tm.getD t .any = (upto ps m σ).tm.getD t .any
      rw [hd.tm, hu.tm]
      exact canT_congr ps 0 (fun j q hq hdq => by rw [Nat.zero_add]; exact key j q hq (wr_tm hdq))
     | blk id =>
      show Yk s.hp id = Yk (upto ps m σ).hp id
      rw [hd.hp, hu.hp]
      exact canH_congr ps 0 (fun j q hq hdq => by rw [Nat.zero_add]; exact key j q hq (wr_blk hdq))
    have hfresh : ∀ b, b ∈ ps[m].new → Loc.blk b.1 ∉ ps[m].rd → Yk s.hp b.1 = none := fun b hb hnr => by
     rw [← hfr m _ hpm b hb hnr, hd.hp, hu.hp]
     exact canH_congr ps 0 (fun j q hq hdq => by rw [Nat.zero_add]; exact key (.blk b.1) (.inr (wr_blk ⟨b, hb, rfl⟩)) j q hq (wr_blk hdq))
    have ht := hrob s hag hfresh
    refine drawn_op ho ht hrel fun a' w' hr' => ?_
    refine ih (fun j => D j || j == m) (listed.setIfInBounds (k + m) true) (ps[m].app s) ?_ (by simp [hsz]) (fun j hj => ?_) (fun j hj e he => ?_) (hd.add ha hpm fun j p x hj hx hx' hlt => by rw [key x (.inr hx') j p hj hx]; simp; omega) a' w' hr'
    ·have := filter_less hDm (List.range ps.length) List.nodup_range (List.mem_range.2 hm)
     omega
    ·by_cases e : k + m = j
     ·subst e
      rw [Array.getD_eq_getD_getElem?, Array.getElem?_setIfInBounds_self_of_lt (by omega)]
      simp [hiu]
     ·rw [getD_set_ne false e, hlist j hj]
      have : (j - k == m) = false ∨ j < k := by
       by_cases h2 : j < k
       ·exact .inr h2
       ·left; simp; omega
      rcases this with h2 | h2
      ·rw [h2]; simp
      ·simp [h2]
    ·by_cases e' : k + m = j
     ·subst e'
      exact getD_set_true (hpl e he)
     ·rw [getD_set_ne false e'] at hj
      exact getD_set_true (hclosed j hj e he)
 intro a w hr
 have h0 := main ps.length (fun _ => false) (Yt ops.size k) σ (by show ((List.range ps.length).filter fun _ => true).length = ps.length; rw [List.filter_eq_self.2 (fun _ _ => rfl)]; simp) (by simp [Yt]) (fun j hj => by rw [doneTo_get, if_pos hj]; simp) (fun j hj e he => by
  rw [doneTo_get] at hj ⊢
  split at hj
  ·rename_i hjn
   have hlt' := hF.lt j hjn e he
   rw [if_pos (by omega)]
   simp at hj ⊢
   omega
  ·cases hj) (Desc.start σ ps) a w hr
 rw [show ops.size - k = ops.size - (k + ps.length) + ps.length from by have := hF.size; omega]
 exact h0
theorem ZW {Ret : St → Prop} {k : List It} {id : Nat} {ops : Array Oper} (hm : P.follows .mixedOrders = true) (h : DrawOK P C ops (aft (RetOf C Ret) (sem P C (RetOf C Ret) k)) 0 σ) : Cw P C Ret (.code (.region id ops true) :: k) σ := fun a w hr => by
 obtain ⟨μ, S, hi⟩ := hr
 refine wp_region_any hm ?_
 have := h a w.drew ⟨μ, S, hi.drew⟩
 have e : Yt ops.size 0 = Array.replicate ops.size false := by
  apply Array.ext <;> simp [Yt]
 rw [e] at this
 exact this
theorem draw_close {Ret : St → Prop} {k : List It} {ops : Array Oper} {n : Nat} (hn : n = ops.size) (h : Cw P C Ret k σ) : DrawOK P C ops (aft (RetOf C Ret) (sem P C (RetOf C Ret) k)) n σ :=
 draw_end hn fun a w hr => h a w hr
end
end Go.Eng
namespace Go.Eng
section
variable {P : Program} {T : Tab} {C : Ctx} {σ σ' s : St}
def locsO (σ : St) : Operand → List Loc
 | .tmp t => .tm t :: (refs (σ.tm.getD t .any)).map .blk
 | _ => []
def locsL (σ : St) : List Operand → List Loc
 | [] => []
 | o :: r => locsO σ o ++ locsL σ r
def locsG (ops : Array Oper) (g : Option (Nat × Bool)) : List Loc :=
 match g with
 | none => []
 | some (j, _) =>
  match (ops[j]?).bind (·.dst) with
  | some d => [.tm d]
  | none => []
theorem ev_agree {o : Operand} (h : ∀ x, x ∈ locsO σ o → AgreeAt σ s x) : ev s o = ev σ o := by
 cases o with
 | tmp t => exact h (.tm t) (by simp [locsO])
 | _ => rfl
theorem evS_agree {o : Operand} (h : ∀ x, x ∈ locsO σ o → AgreeAt σ s x) : evS s o = evS σ o := by unfold evS; rw [ev_agree h]
theorem strip_refs (x : AV) : ∀ id, id ∈ refs (strip x).2 → id ∈ refs x := by
 intro id h
 cases x <;> first | exact h | simpa [strip, refs] using h
theorem blk_agree {o : Operand} (h : ∀ x, x ∈ locsO σ o → AgreeAt σ s x) {id : Nat} (hid : id ∈ refs (evS σ o).2) : Yk s.hp id = Yk σ.hp id := by
 have h1 := strip_refs _ id hid
 cases o with
 | tmp t =>
  refine h (.blk id) ?_
  simp only [ev] at h1
  exact List.mem_cons_of_mem _ (List.mem_map.2 ⟨id, h1, rfl⟩)
 | const v =>
  simp only [ev] at h1
  exfalso
  revert h1
  unfold ofValue
  split <;> simp [refs]
 | func f => simp [ev, refs, refsL] at h1
 | global g => simp [ev, refs] at h1
theorem locsL_mem {os : List Operand} {o : Operand} (ho : o ∈ os) : ∀ x, x ∈ locsO σ o → x ∈ locsL σ os := by
 intro x hx
 induction os with
 | nil => cases ho
 | cons y r ih =>
  simp only [locsL, List.mem_append]
  rcases List.mem_cons.1 ho with rfl | h
  ·exact .inl hx
  ·exact .inr (ih h)
theorem evSL_agree : ∀ {os : List Operand}, (∀ x, x ∈ locsL σ os → AgreeAt σ s x) → evSL s os = evSL σ os
 | [], _ => rfl
 | o :: r, h => by
  simp only [evSL]
  rw [evS_agree (fun x hx => h x (by simp [locsL, hx])), evSL_agree (fun x hx => h x (by simp [locsL, hx]))]
theorem loadOp_agree {t : TypeId} {x : AV} (h : ∀ id, id ∈ refs x → Yk s.hp id = Yk σ.hp id) : loadOp T s t x = loadOp T σ t x := by
 unfold loadOp
 split
 ·rfl
 ·rename_i id size row off
  rw [h id (by simp [refs])]
 ·rfl
theorem lenAV_agree {t : TypeId} {x : AV} (h : ∀ id, id ∈ refs x → Yk s.hp id = Yk σ.hp id) : lenAV T s t x = lenAV T σ t x := by
 unfold lenAV
 split <;> try rfl
 rename_i id hu
 rw [h id (by simp [refs])]
theorem mapOf_agree {x : AV} (h : ∀ id, id ∈ refs x → Yk s.hp id = Yk σ.hp id) : mapOf s x = mapOf σ x := by
 unfold mapOf
 split
 ·rfl
 ·rfl
 ·rw [h _ (by simp [refs])]
 ·rfl
theorem pureOp_agree {op : Op} (h : ∀ x, x ∈ locsL σ op.operands.toList → AgreeAt σ s x) : pureOp T s op = pureOp T σ op := by
 have he : ∀ o, o ∈ op.operands.toList → evS s o = evS σ o := fun o ho => evS_agree fun x hx => h x (locsL_mem ho x hx)
 have hv : ∀ o, o ∈ op.operands.toList → ev s o = ev σ o := fun o ho => ev_agree fun x hx => h x (locsL_mem ho x hx)
 have hb : ∀ o, o ∈ op.operands.toList → ∀ id, id ∈ refs (evS σ o).2 → Yk s.hp id = Yk σ.hp id := fun o ho id hid => blk_agree (fun x hx => h x (locsL_mem ho x hx)) hid
 unfold pureOp
 split
 ·rw [hv _ (by simp [Op.operands])]
 ·rw [hv _ (by simp [Op.operands])]
 ·rename_i c x y; rw [hv c (by simp [Op.operands]), hv x (by simp [Op.operands]), hv y (by simp [Op.operands])]
 ·rename_i t x
  rw [he x (by simp [Op.operands]), loadOp_agree (hb x (by simp [Op.operands]))]
 ·rename_i x; rw [he x (by simp [Op.operands])]
 ·rename_i op t x y ty; rw [he x (by simp [Op.operands]), he y (by simp [Op.operands])]
 ·rename_i op t x; rw [he x (by simp [Op.operands])]
 ·rename_i t x j; rw [he x (by simp [Op.operands])]
 ·rename_i t x j; rw [he x (by simp [Op.operands])]
 ·rename_i t x y; rw [he x (by simp [Op.operands]), he y (by simp [Op.operands])]
 ·rename_i t x y; rw [he x (by simp [Op.operands]), he y (by simp [Op.operands])]
 ·rename_i t x lo hi
  rw [he x (by simp [Op.operands])]
  have e1 : (lo.map fun o => (evS s o).2) = lo.map fun o => (evS σ o).2 := by
   cases lo with
   | none => rfl
   | some o => simp only [Option.map_some]; rw [he o (by simp [Op.operands])]
  have e2 : (hi.map fun o => (evS s o).2) = hi.map fun o => (evS σ o).2 := by
   cases hi with
   | none => rfl
   | some o => simp only [Option.map_some]; rw [he o (by simp [Op.operands])]
  have e3 : evSL s lo.toList = evSL σ lo.toList := by
   cases lo with
   | none => rfl
   | some o => simp only [Option.toList, evSL]; rw [he o (by simp [Op.operands])]
  have e4 : evSL s hi.toList = evSL σ hi.toList := by
   cases hi with
   | none => rfl
   | some o => simp only [Option.toList, evSL]; rw [he o (by simp [Op.operands])]
  rw [e1, e2, e3, e4]
 ·rename_i x j; rw [he x (by simp [Op.operands])]
 ·rename_i f first captured
  have : evSL s captured.toList = evSL σ captured.toList := evSL_agree fun x hx => h x (by
   have hm : ∀ (l : List Operand), (∀ o, o ∈ l → o ∈ (Op.makeFunc (.func f) first captured).operands.toList) → ∀ x, x ∈ locsL σ l → x ∈ locsL σ (Op.makeFunc (.func f) first captured).operands.toList := by
    intro l
    induction l with
    | nil => intro _ x hx; cases hx
    | cons o r ih =>
     intro ho x hx
     simp only [locsL, List.mem_append] at hx
     rcases hx with hx | hx
     ·exact locsL_mem (ho o (List.mem_cons_self ..)) x hx
     ·exact ih (fun o' ho' => ho o' (List.mem_cons_of_mem _ ho')) x hx
   exact hm _ (fun o ho => by simp [Op.operands] at ho ⊢; exact .inr ho) x hx)
  rw [this]
 ·rename_i args ats
  split
  ·rename_i x t hx ht
   have hm : x ∈ (Op.call { callee := .builtin .len, args, argTypes := ats }).operands.toList := by simp [Op.operands, Call.operands, hx]
   rw [he x hm, lenAV_agree (hb x hm)]
  ·rfl
 ·rename_i s t x; rw [he x (by simp [Op.operands])]
 ·rename_i t x i ok
  unfold lookAV
  rw [he x (by simp [Op.operands]), he i (by simp [Op.operands]), mapOf_agree (hb x (by simp [Op.operands]))]
 ·rfl
theorem guard_agree {ops : Array Oper} {g : Option (Nat × Bool)} (h : ∀ x, x ∈ locsG ops g → AgreeAt σ s x) : Yo ops s g = Yo ops σ g := by
 unfold Yo
 split
 ·rfl
 ·rename_i j want
  split
  ·rename_i d hd
   have := h (.tm d) (by simp [locsG, hd])
   simp only [AgreeAt] at this
   rw [this]
  ·rfl
def spPure (ops : Array Oper) (σ : St) (o : Oper) (x : AV) : Sp := ⟨o.dst, x, [], locsG ops o.guard ++ locsL σ o.op.operands.toList⟩
theorem rob_pure (hT : TabOK P T) {ops : Array Oper} {o : Oper} {c : Bool} {p : Prop} {x : AV} (hg : Yo ops σ o.guard = some c) (h : pureOp T σ o.op = some (p, x)) (hp : c = true → p) (hc : c = true ∨ ∃ y, x = .cnd c y ∨ True) :
  Rob P C ops o (spPure ops σ o (mkc c x)) σ := by
 intro s ha _ a w K Q hr hK
 have hg' : Yo ops s o.guard = some c := by rw [guard_agree (fun x hx => ha x (List.mem_append_left _ hx))]; exact hg
 have h' : pureOp T s o.op = some (p, x) := by rw [pureOp_agree (fun x hx => ha x (List.mem_append_right _ hx))]; exact h
 obtain ⟨μ, S, hi⟩ := hr
 rw [Zw hi hg']
 cases c with
 | false => exact hK _ _ ⟨μ, S, hi.put o.dst (rd_mkc (.cndF x))⟩
 | true =>
  refine .inl ?_
  obtain ⟨u, h1, h2⟩ := sound_pure hT hi o h' (hp rfl)
  unfold Oper.wp
  rw [h1]
  exact hK _ _ ⟨μ, S, hi.put o.dst (rd_mkc (.cndT u x h2))⟩
theorem rob_pure0 (hT : TabOK P T) {ops : Array Oper} {o : Oper} {p : Prop} {x : AV} (hg : o.guard = none) (h : pureOp T σ o.op = some (p, x)) (hp : p) : Rob P C ops o (spPure ops σ o x) σ := by
 intro s ha _ a w K Q hr hK
 have h' : pureOp T s o.op = some (p, x) := by rw [pureOp_agree (fun x hx => ha x (List.mem_append_right _ hx))]; exact h
 obtain ⟨μ, S, hi⟩ := hr
 have hw : Region.wanted o (yielded ops a.tmps) = true := Zw hi (by rw [hg]; rfl)
 rw [hw]
 refine .inl ?_
 obtain ⟨u, h1, h2⟩ := sound_pure hT hi o h' hp
 unfold Oper.wp
 rw [h1]
 exact hK _ _ ⟨μ, S, hi.put o.dst h2⟩
def runD (T : Tab) (ops : Array Oper) : List Oper → St → Option (Prop × List Sp × List Oper × St)
 | [], σ => some (True, [], [], σ)
 | o :: l, σ =>
  match pureOp T σ o.op with
  | some (p, x) =>
   match o.guard with
   | none => (runD T ops l (σ.put o.dst x)).map fun r => (p ∧ r.1, spPure ops σ o x :: r.2.1, r.2.2)
   | some g =>
    match Yo ops σ (some g) with
    | some c => (runD T ops l (σ.put o.dst (mkc c x))).map fun r => ((c = true → p) ∧ r.1, spPure ops σ o (mkc c x) :: r.2.1, r.2.2)
    | none => none
  | none => some (True, [], o :: l, σ)
theorem spPure_app (ops : Array Oper) (σ : St) (o : Oper) (x : AV) : (spPure ops σ o x).app σ = σ.put o.dst x := by
 simp [Sp.app, spPure]
theorem runD_sound (hT : TabOK P T) (ops : Array Oper) : ∀ (l : List Oper) (σ : St) {p : Prop} {ps : List Sp} {l' : List Oper} {σ' : St}, runD T ops l σ = some (p, ps, l', σ') → p →
  ∀ {l2 : List Oper} {ps2 : List Sp}, RobChain P C ops l2 ps2 σ' → l' = l2 ++ (l'.drop l2.length) → ∃ l1, l = l1 ++ l' ∧ RobChain P C ops (l1 ++ l2) (ps ++ ps2) σ
 | [], σ, p, ps, l', σ', h, _, l2, ps2, hc, _ => by
  simp only [runD, gL, gM] at h
  obtain ⟨_, rfl, rfl, rfl⟩ := h
  exact ⟨[], rfl, hc⟩
 | o :: l, σ, p, ps, l', σ', h, hp, l2, ps2, hc, he => by
  unfold runD at h
  split at h
  ·rename_i q x hpo
   split at h
   ·rename_i hg
    cases e : runD T ops l (σ.put o.dst x) with
    | none => rw [e] at h; cases h
    | some r =>
     obtain ⟨r1, r2, r3, r4⟩ := r
     simp only [e, Option.map_some, gL, gM] at h
     obtain ⟨rfl, rfl, rfl, rfl⟩ := h
     obtain ⟨l1, h1, h2⟩ := runD_sound hT ops l _ e hp.2 hc he
     exact ⟨o :: l1, by rw [h1]; rfl, rob_pure0 hT hg hpo hp.1, by rw [spPure_app]; exact h2⟩
   ·rename_i g hg
    split at h
    ·rename_i c hc'
     cases e : runD T ops l (σ.put o.dst (mkc c x)) with
     | none => rw [e] at h; cases h
     | some r =>
      obtain ⟨r1, r2, r3, r4⟩ := r
      simp only [e, Option.map_some, gL, gM] at h
      obtain ⟨rfl, rfl, rfl, rfl⟩ := h
      obtain ⟨l1, h1, h2⟩ := runD_sound hT ops l _ e hp.2 hc he
      exact ⟨o :: l1, by rw [h1]; rfl, rob_pure hT (by rw [hg]; exact hc') hpo hp.1 (.inr ⟨x, .inr trivial⟩), by rw [spPure_app]; exact h2⟩
    ·cases h
  ·simp only [gL, gM] at h
   obtain ⟨_, rfl, rfl, rfl⟩ := h
   exact ⟨[], rfl, hc⟩
end
end Go.Eng
namespace Go.Eng
section
variable {P : Program} {T : Tab} {C : Ctx} {σ σ' s : St} {Ret : St → Prop} {k : List It}
theorem runD_len : ∀ {ops : Array Oper} {l : List Oper} {σ : St} {p : Prop} {ps : List Sp} {l' : List Oper} {σ' : St}, runD T ops l σ = some (p, ps, l', σ') → l.length = ps.length + l'.length ∧ appAll ps σ = σ' ∧ ∀ (i : Nat) q, ps[i]? = some q → q.new = []
 | ops, [], σ, p, ps, l', σ', h => by
  simp only [runD, gL, gM] at h
  obtain ⟨_, rfl, rfl, rfl⟩ := h
  exact ⟨rfl, rfl, fun i q h => by simp at h⟩
 | ops, o :: l, σ, p, ps, l', σ', h => by
  unfold runD at h
  split at h
  ·rename_i q x hpo
   have fin : ∀ (y : AV) {f : Prop → Prop}, (runD T ops l (σ.put o.dst y)).map (fun r => (f r.1, spPure ops σ o y :: r.2.1, r.2.2)) = some (p, ps, l', σ') →
     (o :: l).length = ps.length + l'.length ∧ appAll ps σ = σ' ∧ ∀ (i : Nat) q, ps[i]? = some q → q.new = [] := by
    intro y f h
    cases e : runD T ops l (σ.put o.dst y) with
    | none => rw [e] at h; cases h
    | some r =>
     obtain ⟨r1, r2, r3, r4⟩ := r
     simp only [e, Option.map_some, gL, gM] at h
     obtain ⟨_, rfl, rfl, rfl⟩ := h
     obtain ⟨h1, h2, h3⟩ := runD_len e
     refine ⟨by simp [h1]; omega, by simp only [appAll, spPure_app]; exact h2, fun i q hq => ?_⟩
     cases i with
     | zero => simp only [List.getElem?_cons_zero, Option.some.injEq] at hq; subst hq; rfl
     | succ i => exact h3 i q (by simpa using hq)
   split at h
   ·exact fin x (f := fun r => q ∧ r) h
   ·split at h
    ·rename_i c _
     exact fin (mkc c x) (f := fun r => (c = true → q) ∧ r) h
    ·cases h
  ·simp only [gL, gM] at h
   obtain ⟨_, rfl, rfl, rfl⟩ := h
   exact ⟨by simp, rfl, fun i q h => by simp at h⟩
def dstOK (n : Nat) (sk : Skel) : Bool := sk.all fun p => p.1.all fun | .tm t => decide (t < n) | .blk _ => true
def leAny : List AV → List AV → Prop
 | [], [] => True
 | x :: l, y :: m => (y = .any ∨ x = y) ∧ leAny l m
 | _, _ => False
theorem leAny_get : ∀ {l m : List AV}, leAny l m → l.length = m.length ∧ ∀ (t : Nat) y, m[t]? = some y → y = .any ∨ l[t]? = some y
 | [], [], _ => ⟨rfl, fun t y h => by simp at h⟩
 | x :: l, y :: m, h => by
  obtain ⟨h1, h2⟩ := leAny_get h.2
  refine ⟨by simp [h1], fun t z hz => ?_⟩
  cases t with
  | zero =>
   simp only [List.getElem?_cons_zero, Option.some.injEq] at hz ⊢
   subst hz
   exact h.1
  | succ t => simpa using h2 t z (by simpa using hz)
 | [], _ :: _, h => h.elim
 | _ :: _, [], h => h.elim
theorem le_any {l m : List AV} {H : List (Nat × Blk)} (h : leAny l m) : Le C ⟨l, H⟩ ⟨m, H⟩ := by
 intro a w ⟨μ, S, hi⟩
 obtain ⟨h1, h2⟩ := leAny_get h
 refine ⟨μ, S, by rw [hi.size]; exact h1, hi.defers, fun t y hy => ?_, hi.hp, hi.dom, hi.inj, hi.frm, hi.sb⟩
 rcases h2 t y hy with rfl | h
 ·exact .any _
 ·exact hi.tm t y h
theorem wrap_small {n : Int} (h : -9223372036854775808 ≤ n) (h2 : n ≤ 9223372036854775807) : IntKind.i64.wrap n = n := by
 simp [IntKind.wrap, IntKind.signed, IntKind.bits]; omega
def setAll (l : List AV) : List (Nat × AV) → List AV
 | [] => l
 | (t, x) :: r => setAll (l.set t x) r
def hsetAll (h : List (Nat × Blk)) : List (Nat × Blk) → List (Nat × Blk)
 | [] => h
 | (t, x) :: r => hsetAll (Zh h t x) r
theorem ZL {ι : Type} (J : ι → Prop) (m : ι → Nat) (f : ι → List (Nat × AV)) (g : ι → List (Nat × Blk)) (i0 : ι) {c : Code} {l : List AV} {H : List (Nat × Blk)} (hJ : J i0) (h0 : Le C ⟨l, H⟩ ⟨setAll l (f i0), hsetAll H (g i0)⟩)
  (round : ∀ i, J i → Cw P C Ret (.code c :: .back (fun s => ∃ j, J j ∧ m j < m i ∧ Le C s ⟨setAll l (f j), hsetAll H (g j)⟩) :: k) ⟨setAll l (f i), hsetAll H (g i)⟩) : Cw P C Ret (.code (.loop c) :: k) ⟨l, H⟩ := by
 refine cw_loop (ι := { i // J i }) (fun i => ⟨setAll l (f i.1), hsetAll H (g i.1)⟩) (fun i => m i.1) ⟨i0, hJ⟩ h0 fun i => ?_
 intro a w hr
 have := round i.1 i.2 a w hr
 refine wp_mono this fun e a w q => ?_
 cases e with
 | normal =>
  obtain ⟨s, ⟨j, hj, hm, hle⟩, hrs⟩ := q
  exact ⟨s, ⟨⟨j, hj⟩, hm, hle⟩, hrs⟩
 | _ => exact q
theorem calls_of_fn {f : FuncId} {args : List AV} {r : AV} (h : FnOK P f args [] fun r' _ => r' = r) {w : World} {vs : List Value} (hl : vs.length = args.length) {S : Nat → Prop}
  (hargs : ∀ (j : Nat) x, args[j]? = some x → RdP S w (vs.getD j undef) x) (hS : ∀ b, S b → b < w.heap.size) (hg : GOK (fun _ => none) w) :
  Calls P f vs.toArray w fun e w' => ∃ v μ S', e = .returned v ∧ Rd μ S' w' v r ∧ Frm (fun _ => False) w w' := by
 refine (h S (fun _ => none) w vs hl (fun j x hx => .pure (hargs j x hx)) ⟨fun id b h => by simp [Yk] at h, fun id g h => (by cases h), fun id id' g h => (by cases h), hg⟩ hS).mono ?_
 rintro e w' ⟨v, r', H', μ', S', rfl, rfl, k1, _, k3, _, _⟩
 exact ⟨v, μ', S', rfl, k1, ⟨k3.os, k3.tape, k3.output, k3.size, fun b hb _ => k3.block b hb (by rintro ⟨id, h⟩; cases h)⟩⟩
end
end Go.Eng
namespace Go.Eng
section
variable {P : Program} {T : Tab} {C : Ctx} {σ σ' : St}
mutual
def ren (off : Nat) : AV → AV
 | .ptr id s r o => .ptr (id + off) s r o
 | .osl id s o n => .osl (id + off) s o n
 | .mp id => .mp (id + off)
 | .exs id s o n c => .exs (id + off) s o n c
 | .agg cells => .agg (renL off cells)
 | .tup vs => .tup (renL off vs)
 | .fn f caps => .fn f (renL off caps)
 | .cnd c v => .cnd c (ren off v)
 | x => x
def renL (off : Nat) : List AV → List AV
 | [] => []
 | x :: r => ren off x :: renL off r
end
theorem renL_map (off : Nat) : ∀ l, renL off l = l.map (ren off)
 | [] => rfl
 | x :: r => by simp [renL, renL_map off r]
theorem RdP.ren_eq {S : Nat → Prop} {w : World} {v : Value} {x : AV} (h : RdP S w v x) (off : Nat) : ren off x = x := by
 have key : ∀ (l : List AV), (∀ (j : Nat) x, l[j]? = some x → ren off x = x) → renL off l = l := by
  intro l
  induction l with
  | nil => intro _; rfl
  | cons y r ih =>
   intro h
   simp only [renL]
   rw [h 0 y rfl, ih (fun j x hj => h (j + 1) x (by simpa using hj))]
 induction h with
 | fn f vals caps hl hr ih => simp only [ren]; rw [key caps ih]
 | agg cs cells hl hr ih => simp only [ren]; rw [key cells ih]
 | _ => rfl
theorem Rd.ren {μ μ' : Nat → Option Nat} {S : Nat → Prop} {w : World} {v : Value} {x : AV} (off : Nat) (h : Rd μ S w v x) (hm : ∀ id, id ∈ refs x → ∀ g, μ id = some g → μ' (id + off) = some g) : Rd μ' S w v (ren off x) := by
 induction h with
 | any v => exact .any v
 | pure h => rw [h.ren_eq]; exact .pure h
 | agg cs cells hl hr ih =>
  simp only [Eng.ren, renL_map]
  refine .agg cs _ (by simpa using hl) (fun j x hx => ?_)
  rw [List.getElem?_map] at hx
  cases e : cells[j]? with
  | none => rw [e] at hx; cases hx
  | some y =>
   rw [e] at hx; simp only [Option.map_some, Option.some.injEq] at hx; subst hx
   exact ih j y e (fun id hid => hm id (by simp only [refs]; exact Zr e hid))
 | tup cs cells hl hr ih =>
  simp only [Eng.ren, renL_map]
  refine .tup cs _ (by simpa using hl) (fun j x hx => ?_)
  rw [List.getElem?_map] at hx
  cases e : cells[j]? with
  | none => rw [e] at hx; cases hx
  | some y =>
   rw [e] at hx; simp only [Option.map_some, Option.some.injEq] at hx; subst hx
   exact ih j y e (fun id hid => hm id (by simp only [refs]; exact Zr e hid))
 | fn f vals cells hl hr ih =>
  simp only [Eng.ren, renL_map]
  refine .fn f vals _ (by simpa using hl) (fun j x hx => ?_)
  rw [List.getElem?_map] at hx
  cases e : cells[j]? with
  | none => rw [e] at hx; cases hx
  | some y =>
   rw [e] at hx; simp only [Option.map_some, Option.some.injEq] at hx; subst hx
   exact ih j y e (fun id hid => hm id (by simp only [refs]; exact Zr e hid))
 | ptr i size row o g hg => exact .ptr _ size row o g (hm i (by simp [refs]) g hg)
 | osl i size o len cap A hc h =>
  refine .osl _ size o len cap A hc ?_
  rcases h with h | ⟨g, e, n, h1, h2, h3, h4⟩
  ·exact .inl h
  ·exact .inr ⟨g, e, n, hm i (by simp [refs]) g h1, h2, h3, h4⟩
 | mp i g hg => exact .mp _ g (hm i (by simp [refs]) g hg)
 | exs i size o len cap g e n hc hg hr hn => exact .exs _ size o len cap g e n hc (hm i (by simp [refs]) g hg) hr hn
 | cndT v x h ih => exact .cndT v _ (ih (fun id hid => hm id (by simpa [refs] using hid)))
 | cndF x => exact .cndF _
theorem Rd.less {μ μ' : Nat → Option Nat} {S : Nat → Prop} {w : World} {v : Value} {x : AV} (h : Rd μ S w v x) (hm : ∀ id, id ∈ refs x → ∀ g, μ id = some g → μ' id = some g) : Rd μ' S w v x := by
 induction h with
 | any v => exact .any v
 | pure h => exact .pure h
 | agg cs cells hl hr ih => exact .agg cs cells hl (fun j x hx => ih j x hx (fun id hid => hm id (by simp only [refs]; exact Zr hx hid)))
 | tup cs cells hl hr ih => exact .tup cs cells hl (fun j x hx => ih j x hx (fun id hid => hm id (by simp only [refs]; exact Zr hx hid)))
 | fn f vals cells hl hr ih => exact .fn f vals cells hl (fun j x hx => ih j x hx (fun id hid => hm id (by simp only [refs]; exact Zr hx hid)))
 | ptr i size row o g hg => exact .ptr _ size row o g (hm i (by simp [refs]) g hg)
 | osl i size o len cap A hc h =>
  refine .osl _ size o len cap A hc ?_
  rcases h with h | ⟨g, e, n, h1, h2, h3, h4⟩
  ·exact .inl h
  ·exact .inr ⟨g, e, n, hm i (by simp [refs]) g h1, h2, h3, h4⟩
 | mp i g hg => exact .mp _ g (hm i (by simp [refs]) g hg)
 | exs i size o len cap g e n hc hg hr hn => exact .exs _ size o len cap g e n hc (hm i (by simp [refs]) g hg) hr hn
 | cndT v x h ih => exact .cndT v _ (ih (fun id hid => hm id (by simpa [refs] using hid)))
 | cndF x => exact .cndF _
def refsB : Blk → List Nat
 | .cells _ _ rows => rows.flatMap refsL
 | .map _ => []
 | .iter .. => []
 | .cap id _ _ => [id]
 | .pin id _ _ _ => [id]
@[go_sem, simp] theorem refsB_nil (e s : Nat) : refsB (.cells e s []) = [] := rfl
@[go_sem, simp] theorem refsB_cons (e s : Nat) (r : List AV) (l : List (List AV)) : refsB (.cells e s (r :: l)) = refsL r ++ refsB (.cells e s l) := rfl
@[go_sem, simp] theorem refsB_map (kvs : List (Int × AV)) : refsB (.map kvs) = [] := rfl
@[go_sem, simp] theorem refsB_cap (id s N : Nat) : refsB (.cap id s N) = [id] := rfl
@[go_sem, simp] theorem refsB_pin (id g t n : Nat) : refsB (.pin id g t n) = [id] := rfl
@[go_sem, simp] theorem refsB_iter (kvs : List (Int × AV)) (seen : List Int) : refsB (.iter kvs seen) = [] := rfl
def renB (off : Nat) : Blk → Blk
 | .cells e s rows => .cells e s (rows.map (renL off))
 | .map kvs => .map kvs
 | .iter kvs seen => .iter kvs seen
 | .cap id s N => .cap (id + off) s N
 | .pin id g t n => .pin (id + off) g t n
def renH (off : Nat) (H : List (Nat × Blk)) : List (Nat × Blk) := H.map fun p => (p.1 + off, renB off p.2)
theorem BlkOK.ren {μ μ' : Nat → Option Nat} {S : Nat → Prop} {w : World} {id : Nat} {b : Blk} (off : Nat) (h : BlkOK μ S w id b) (hn : μ id = none → μ' (id + off) = none) (hs : ∀ g, μ id = some g → μ' (id + off) = some g)
  (hm : ∀ i, i ∈ refsB b → ∀ g, μ i = some g → μ' (i + off) = some g) : BlkOK μ' S w (id + off) (renB off b) := by
 cases b with
 | cells e s rows =>
  rcases h with ⟨rfl, h2⟩ | ⟨g, c, h1, h2, h3, h4, h5⟩
  ·exact .inl ⟨rfl, hn h2⟩
  ·refine .inr ⟨g, c, hs g h1, h2, by simpa using h3, fun row hrow => ?_, fun i row hi j x hx => ?_⟩
   ·obtain ⟨r, hr, rfl⟩ := List.mem_map.1 hrow
    rw [renL_map, List.length_map]; exact h4 r hr
   ·rw [List.getElem?_map] at hi
    cases e1 : rows[i]? with
    | none => rw [e1] at hi; cases hi
    | some r =>
     rw [e1] at hi; simp only [Option.map_some, Option.some.injEq] at hi; subst hi
     rw [renL_map, List.getElem?_map] at hx
     cases e2 : r[j]? with
     | none => rw [e2] at hx; cases hx
     | some y =>
      rw [e2] at hx; simp only [Option.map_some, Option.some.injEq] at hx; subst hx
      exact (h5 i r e1 j y e2).ren off (fun i hi => hm i (List.mem_flatMap.2 ⟨r, List.mem_of_getElem? e1, Zr e2 hi⟩))
 | map kvs =>
  obtain ⟨g, es, clk, vals, h1, h2, h3, h4⟩ := h
  exact ⟨g, es, clk, vals, hs g h1, h2, h3, h4⟩
 | iter kvs seen =>
  obtain ⟨g, es, clk, vals, had, h1, h2, h4⟩ := h
  exact ⟨g, es, clk, vals, had, hs g h1, h2, h4⟩
 | cap id' s N =>
  obtain ⟨h1, g, e, h2, h3⟩ := h
  exact ⟨hn h1, g, e, hm id' (by simp) g h2, h3⟩
 | pin id' g t n =>
  obtain ⟨h1, h2, h3⟩ := h
  exact ⟨hn h1, hm id' (by simp) g h2, h3⟩
theorem BlkOK.less {μ μ' : Nat → Option Nat} {S : Nat → Prop} {w : World} {id : Nat} {b : Blk} (h : BlkOK μ S w id b) (he : μ' id = μ id) (hm : ∀ i, i ∈ refsB b → ∀ g, μ i = some g → μ' i = some g) : BlkOK μ' S w id b := by
 cases b with
 | cells e s rows =>
  rcases h with ⟨rfl, h2⟩ | ⟨g, c, h1, h2, h3, h4, h5⟩
  ·exact .inl ⟨rfl, he.trans h2⟩
  ·exact .inr ⟨g, c, he.trans h1, h2, h3, h4, fun i row hi j x hx => (h5 i row hi j x hx).less (fun k hk => hm k (List.mem_flatMap.2 ⟨row, List.mem_of_getElem? hi, Zr hx hk⟩))⟩
 | map kvs =>
  obtain ⟨g, es, clk, vals, h1, h2, h3, h4⟩ := h
  exact ⟨g, es, clk, vals, he.trans h1, h2, h3, h4⟩
 | iter kvs seen =>
  obtain ⟨g, es, clk, vals, had, h1, h2, h4⟩ := h
  exact ⟨g, es, clk, vals, had, he.trans h1, h2, h4⟩
 | cap id' s N =>
  obtain ⟨h1, g, e, h2, h3⟩ := h
  exact ⟨he.trans h1, g, e, hm id' (by simp) g h2, h3⟩
 | pin id' g t n =>
  obtain ⟨h1, h2, h3⟩ := h
  exact ⟨he.trans h1, hm id' (by simp) g h2, h3⟩
def sub (ids : List Nat) : List (Nat × Blk) → List (Nat × Blk)
 | [] => []
 | p :: r => if ids.contains p.1 then p :: sub ids r else sub ids r
def del (ids : List Nat) : List (Nat × Blk) → List (Nat × Blk)
 | [] => []
 | p :: r => if ids.contains p.1 then del ids r else p :: del ids r
theorem hget_sub (ids : List Nat) (id : Nat) : ∀ H, Yk (sub ids H) id = if ids.contains id = true then Yk H id else none
 | [] => by simp [sub, Yk]
 | (i, b) :: r => by
  have ih := hget_sub ids id r
  unfold sub
  by_cases e : i = id
  ·subst e
   by_cases h : ids.contains i = true
   ·rw [if_pos h, if_pos h]; simp only [Yk, if_true]
   ·rw [if_neg h, if_neg h, ih, if_neg h]
  ·by_cases h : ids.contains i = true
   ·rw [if_pos h]; simp only [Yk, if_neg e]; exact ih
   ·rw [if_neg h]; simp only [Yk, if_neg e]; exact ih
theorem hget_del (ids : List Nat) (id : Nat) : ∀ H, Yk (del ids H) id = if ids.contains id = true then none else Yk H id
 | [] => by simp [del, Yk]
 | (i, b) :: r => by
  have ih := hget_del ids id r
  unfold del
  by_cases e : i = id
  ·subst e
   by_cases h : ids.contains i = true
   ·rw [if_pos h, ih, if_pos h, if_pos h]
   ·rw [if_neg h, if_neg h]; simp only [Yk, if_true]
  ·by_cases h : ids.contains i = true
   ·rw [if_pos h]; simp only [Yk, if_neg e]; exact ih
   ·rw [if_neg h]; simp only [Yk, if_neg e]; exact ih
theorem hget_renH (off id : Nat) : ∀ H, Yk (renH off H) id = if off ≤ id then (Yk H (id - off)).map (renB off) else none
 | [] => by simp [renH, Yk]
 | (i, b) :: r => by
  have ih := hget_renH off id r
  simp only [renH, List.map_cons, Yk] at ih ⊢
  by_cases h : i + off = id
  ·subst h
   simp
  ·rw [if_neg h, ih]
   by_cases h2 : off ≤ id
   ·rw [if_pos h2, if_pos h2, if_neg (by omega)]
   ·rw [if_neg h2, if_neg h2]
def killL (ids : List Nat) (x : AV) : AV := if (refs x).any ids.contains then .any else x
def closed (K : List (Nat × Blk)) (xs : List Nat) : Bool := xs.all (fun i => (Yk K i).isSome) && K.all fun p => (refsB p.2).all fun i => (Yk K i).isSome
theorem hget_mem : ∀ {H : List (Nat × Blk)} {id : Nat} {b : Blk}, Yk H id = some b → (id, b) ∈ H
 | (i, c) :: r, id, b, h => by
  simp only [Yk] at h
  split at h
  ·rename_i e; subst e; injection h with h; subst h; simp
  ·exact List.mem_cons_of_mem _ (hget_mem h)
theorem trip_callG {o : Oper} {c : Operand} {args : Array Operand} {ats : Array TypeId} (ho : o.op = .call { callee := .value c, args, argTypes := ats }) {p : Prop} {f : FuncId} {xs : List AV}
  (h : Yc σ c args.toList = some (p, f, xs)) (hp : p) (hc : Callable P f) (ids : List Nat) (off : Nat) {H K : List (Nat × Blk)} {r : AV} (hH : sub ids σ.hp = H)
  (hck : (refsL xs).all ids.contains = true) (hc1 : (H.all fun p => (refsB p.2).all ids.contains) = true) (hc2 : ((del ids σ.hp).all fun p => (refsB p.2).all fun i => !ids.contains i) = true)
  (hc3 : closed K (refs r) = true) (hc4 : (K.all fun p => (Yk σ.hp (p.1 + off)).isNone) = true)
  (hf : FnOK P f xs H fun r' H' => r' = r ∧ ∀ id b, Yk K id = some b → Yk H' id = some b) {τ : St} (hτ : (⟨σ.tm.map (killL ids), renH off K ++ del ids σ.hp⟩ : St).put o.dst (ren off r) = τ) : Trip P C o σ τ := by
 subst hH hτ
 intro a w Kp Q ⟨μ, S, hi⟩ hKp
 obtain ⟨vs, h1, h2, h3⟩ := exec_call hi ho h hp hc
 unfold Oper.wp
 rw [h3]
 let μc : Nat → Option Nat := fun i => if ids.contains i then μ i else none
 have mc : ∀ {i g}, μc i = some g → ids.contains i = true ∧ μ i = some g := fun {i g} h => by
  simp only [μc] at h; split at h
  ·exact ⟨by assumption, h⟩
  ·cases h
 have mc' : ∀ {i}, ids.contains i = true → μc i = μ i := fun {i} h => by simp only [μc, h, if_true]
 rw [Bool.eq_iff_iff] at hck
 have hck := fun i hi => List.all_eq_true.1 (hck.2 rfl) i hi
 refine (hf S μc w vs h1 (fun j x hj => (h2 j x hj).less fun id hid g hg => by rw [mc' (hck id (Zr hj hid))]; exact hg) ⟨fun id b hb => ?_, fun id g hg => ?_, fun id id' g hg hg' => hi.inj id id' g (mc hg).2 (mc hg').2, hi.gok.sub fun i g h => ⟨i, (mc h).2⟩⟩ (fun b hb => (hi.sb b hb).1)).mono ?_
 ·have hb' := hb
  rw [hget_sub] at hb
  split at hb
  ·rename_i hid
   have hall := List.all_eq_true.1 hc1 _ (hget_mem hb')
   exact (hi.hp id b hb).less (mc' hid) (fun i hi' g hg => by rw [mc' (List.all_eq_true.1 hall i hi')]; exact hg)
  ·cases hb
 ·obtain ⟨k1, k2⟩ := mc hg
  obtain ⟨⟨b, j1⟩, _, j3⟩ := hi.dom id g k2
  exact ⟨⟨b, by rw [hget_sub, if_pos k1]; exact j1⟩, j3⟩
 rintro e w' ⟨v, r', H', μ', S', rfl, ⟨rfl, hKH⟩, k1, k2, k3, k4, k5⟩
 simp only [closed, Bool.and_eq_true] at hc3
 obtain ⟨hr, hcl⟩ := hc3
 have hr : ∀ i, i ∈ refs r' → ∃ b, Yk K i = some b := fun i hi => Option.isSome_iff_exists.1 (List.all_eq_true.1 hr i hi)
 have hcl : ∀ i b, Yk K i = some b → ∀ j, j ∈ refsB b → ∃ c, Yk K j = some c := fun i b hb j hj => Option.isSome_iff_exists.1 (List.all_eq_true.1 (List.all_eq_true.1 hcl _ (hget_mem hb)) j hj)
 have hfree : ∀ i b, Yk K i = some b → Yk σ.hp (i + off) = none := fun i b hb => by
  have := List.all_eq_true.1 hc4 _ (hget_mem hb)
  simpa using this
 let μ2 : Nat → Option Nat := fun i => if off ≤ i ∧ (Yk K (i - off)).isSome = true then μ' (i - off) else if ids.contains i then none else μ i
 have m2K : ∀ {i b}, Yk K i = some b → μ2 (i + off) = μ' i := fun {i b} hb => by
  simp only [μ2]; rw [if_pos ⟨by omega, by rw [Nat.add_sub_cancel, hb]; rfl⟩, Nat.add_sub_cancel]
 have m2o : ∀ {i b}, Yk σ.hp i = some b → ids.contains i = false → μ2 i = μ i := fun {i b} hb hn => by
  simp only [μ2]
  rw [if_neg (by
   rintro ⟨q1, q2⟩
   obtain ⟨b', q3⟩ := Option.isSome_iff_exists.1 q2
   have := hfree _ _ q3
   rw [Nat.sub_add_cancel q1, hb] at this
   cases this), hn]
  rfl
 have m2 : ∀ {i g}, μ2 i = some g → (∃ j b, i = j + off ∧ Yk K j = some b ∧ μ' j = some g) ∨ (ids.contains i = false ∧ μ i = some g ∧ ∃ b, Yk σ.hp i = some b) := fun {i g} hg => by
  simp only [μ2] at hg
  split at hg
  ·rename_i q
   obtain ⟨b, q3⟩ := Option.isSome_iff_exists.1 q.2
   exact .inl ⟨i - off, b, by omega, q3, hg⟩
  ·split at hg
   ·cases hg
   ·rename_i q
    exact .inr ⟨by simpa using q, hg, (hi.dom i g hg).1⟩
 have hfr : Frm (fun g => ∃ id, μc id = some g) w w' := k3
 have hS : SameOn S w w' := fun b hb => hfr.block b (hi.sb b hb).1 (by rintro ⟨id, h⟩; exact (hi.dom id b (mc h).2).2.2.1 hb)
 have hO : ∀ i g, μ i = some g → ids.contains i = false → w'.heap[g]? = w.heap[g]? := fun i g hg hn => hfr.block g (hi.dom i g hg).2.2.2 (by
  rintro ⟨id, h⟩
  obtain ⟨q1, q2⟩ := mc h
  have := hi.inj _ _ _ hg q2
  subst this
  rw [q1] at hn; cases hn)
 let S2 : Nat → Prop := fun b => S b ∨ S' b
 -- a value of ours that names nothing of 'ids'
 have rdO : ∀ {v x}, Rd μ S w v x → (∀ i, i ∈ refs x → ids.contains i = false) → Rd μ2 S2 w' v x := fun {v x} hv hn => by
  have h1 : Rd (fun i => if ids.contains i then none else μ i) S w v x := hv.less (fun i hi g hg => by rw [hn i hi]; exact hg)
  refine h1.mono hS (fun _ h => .inl h) (fun i g hg => ?_) (fun i g hg => ?_)
  ·split at hg
   ·cases hg
   ·rename_i q
    have q : ids.contains i = false := by simpa using q
    obtain ⟨⟨b, hb⟩, _⟩ := hi.dom i g hg
    rw [m2o hb q]; exact hg
  ·split at hg
   ·cases hg
   ·rename_i q
    exact rowSize_same (hO i g hg (by simpa using q))
 have inv : Inv C μ2 S2 ⟨σ.tm.map (killL ids), renH off K ++ del ids σ.hp⟩ a w' := by
  refine ⟨by simp [hi.size], hi.defers, fun t x hx => ?_, fun id b hb => ?_, fun i g hg => ?_, fun i j g hg hg' => ?_, hi.frm.step _ hfr (fun g ⟨id, h⟩ => (hi.dom id g (mc h).2).2.1), fun b hb => ?_⟩
  ·simp only [List.getElem?_map] at hx
   cases e : σ.tm[t]? with
   | none => rw [e] at hx; cases hx
   | some y =>
    rw [e] at hx
    simp only [Option.map_some, Option.some.injEq] at hx
    subst hx
    unfold killL
    split
    ·exact .any _
    ·rename_i q
     refine rdO (hi.tm t y e) (fun i hi' => ?_)
     simp only [List.any_eq_true, not_exists, not_and] at q
     simpa using q i hi'
  ·simp only at hb
   rw [Za] at hb
   split at hb
   ·rw [hget_renH] at hb
    split at hb
    ·rename_i q
     cases e : Yk K (id - off) with
     | none => rw [e] at hb; cases hb
     | some b0 =>
      rw [e] at hb
      simp only [Option.map_some, Option.some.injEq] at hb
      subst hb
      obtain ⟨j, rfl⟩ : ∃ j, id = j + off := ⟨id - off, by omega⟩
      rw [Nat.add_sub_cancel] at e
      have := (k2.blk j b0 (hKH j b0 e)).ren off (μ' := μ2) (fun h => by rw [m2K e]; exact h) (fun g h => by rw [m2K e]; exact h) (fun i hi' g hg => by
       obtain ⟨c, hc'⟩ := hcl j b0 e i hi'
       rw [m2K hc']; exact hg)
      exact this.mono (SameOn.refl _ _) (fun _ h => .inr h) (fun _ _ h => h) (fun _ _ _ => rfl) (fun h => h) (fun _ _ => rfl)
    ·cases hb
   ·rename_i hnK
    rw [hget_del] at hb
    split at hb
    ·cases hb
    ·rename_i q
     have q : ids.contains id = false := by simpa using q
     have hall := List.all_eq_true.1 hc2 (id, b) (hget_mem (by rw [hget_del, if_neg (by rw [q]; simp)]; exact hb))
     have h1 := (hi.hp id b hb).less (μ' := fun i => if ids.contains i then none else μ i) (by rw [q]; rfl) (fun i hi' g hg => by
      have := List.all_eq_true.1 hall i hi'
      rw [if_neg (by simpa using this)]; exact hg)
     refine h1.mono hS (fun _ h => .inl h) (fun i g hg => ?_) (fun i g hg => ?_) (fun hn => ?_) (fun g hg => ?_)
     ·split at hg
      ·cases hg
      ·rename_i q'
       obtain ⟨⟨b', hb'⟩, _⟩ := hi.dom i g hg
       rw [m2o hb' (by simpa using q')]; exact hg
     ·split at hg
      ·cases hg
      ·rename_i q'
       exact rowSize_same (hO i g hg (by simpa using q'))
     ·rw [m2o hb q]; rw [q] at hn; exact hn
     ·rw [q] at hg
      exact hO id g hg q
  ·rcases m2 hg with ⟨j, b, rfl, q1, q2⟩ | ⟨q1, q2, b, q3⟩
   ·obtain ⟨_, q4, q5⟩ := k2.dom j g q2
    refine ⟨⟨renB off b, ?_⟩, ?_, ?_, q5⟩
    ·have e : Yk (renH off K) (j + off) = some (renB off b) := by rw [hget_renH, if_pos (by omega), Nat.add_sub_cancel, q1]; rfl
     rw [Za, if_pos ⟨_, hget_mem e, rfl⟩, e]
    ·rcases k4 j g q2 with ⟨i, hi'⟩ | h
     ·exact (hi.dom i g (mc hi').2).2.1
     ·have := hi.frm.size
      exact .inr (by omega)
    ·rintro (h | h)
     ·rcases k4 j g q2 with ⟨i, hi'⟩ | h'
      ·exact (hi.dom i g (mc hi').2).2.2.1 h
      ·have := (hi.sb g h).1; omega
     ·exact q4 h
   ·obtain ⟨_, q4, q5, q6⟩ := hi.dom i g q2
    refine ⟨⟨b, ?_⟩, q4, ?_, Nat.lt_of_lt_of_le q6 hfr.size⟩
    ·rw [Za, if_neg, hget_del, if_neg (by rw [q1]; simp)]
     ·exact q3
     ·rintro ⟨⟨i', b'⟩, hm, rfl⟩
      obtain ⟨⟨j, c'⟩, hm', e⟩ := List.mem_map.1 hm
      simp only [Prod.mk.injEq] at e
      have := List.all_eq_true.1 hc4 _ hm'
      simp only at this
      rw [e.1] at this
      simp only at q3
      rw [q3] at this
      cases this
    ·rintro (h | h)
     ·exact q5 h
     ·rcases (k5 g h).2 with h | ⟨i', h⟩ | h
      ·exact q5 h
      ·obtain ⟨q7, q8⟩ := mc h
       have := hi.inj _ _ _ q2 q8
       subst this
       rw [q7] at q1; cases q1
      ·omega
  ·rcases m2 hg with ⟨i1, b1, rfl, p1, p2⟩ | ⟨p1, p2, b1, p3⟩ <;> rcases m2 hg' with ⟨j1, c1, rfl, q1, q2⟩ | ⟨q1, q2, c1, q3⟩
   ·rw [k2.inj _ _ _ p2 q2]
   ·rcases k4 i1 g p2 with ⟨i', h⟩ | h
    ·obtain ⟨q7, q8⟩ := mc h
     have := hi.inj _ _ _ q2 q8
     subst this
     rw [q7] at q1; cases q1
    ·have := (hi.dom _ _ q2).2.2.2; omega
   ·rcases k4 j1 g q2 with ⟨i', h⟩ | h
    ·obtain ⟨q7, q8⟩ := mc h
     have := hi.inj _ _ _ p2 q8
     subst this
     rw [q7] at p1; cases p1
    ·have := (hi.dom _ _ p2).2.2.2; omega
   ·exact hi.inj _ _ _ p2 q2
  ·rcases hb with h | h
   ·exact ⟨Nat.lt_of_lt_of_le (hi.sb b h).1 hfr.size, (hi.sb b h).2⟩
   ·refine ⟨(k5 b h).1, ?_⟩
    rcases (k5 b h).2 with h | ⟨i', h⟩ | h
    ·exact (hi.sb b h).2
    ·rcases (hi.dom _ _ (mc h).2).2.1 with h | h
     ·exact .inr (.inl h)
     ·exact .inr (.inr h)
    ·have := hi.frm.size
     exact .inr (.inr (by omega))
 exact hKp _ _ ⟨μ2, S2, inv.put o.dst ((k1.ren off (fun i hi' g hg => by
  obtain ⟨b, hb⟩ := hr i hi'
  rw [m2K hb]; exact hg)).mono (SameOn.refl _ _) (fun _ h => .inr h) (fun _ _ h => h) (fun _ _ _ => rfl))⟩
end
end Go.Eng
