/- Texts of this claim, part 7: EngAF, EngAG, EngAH, EngAI, EngAJ, EngAK, EngAL, Wd. No condition. -/
import Derived.Test.YtfiiingppbkpkaaGreatXR6
import Derived.Laws.IdiomRangeMap
set_option maxRecDepth 10000
set_option maxHeartbeats 4000000
set_option linter.unusedSimpArgs false
set_option linter.unusedVariables false
namespace Go.Eng
section
variable {P : Program} {T : Tab} {C : Ctx} {μ : Nat → Option Nat} {S : Nat → Prop} {σ σ' : St} {Ret : St → Prop} {k : List It}
def Yx (ids : List Nat) (G Y N : Nat → Nat) : List (Nat × Blk) := ids.map fun i => (5000 + i, .pin i (G i) (Y i) (N i))
theorem hget_pins (G Y N : Nat → Nat) (i : Nat) : ∀ (ids : List Nat), Yk (Yx ids G Y N) i = if 5000 ≤ i ∧ ids.contains (i - 5000) = true then some (.pin (i - 5000) (G (i - 5000)) (Y (i - 5000)) (N (i - 5000))) else none
 | [] => by simp [Yx, Yk]
 | j :: r => by
  have ih := hget_pins G Y N i r
  simp only [Yx, List.map_cons, Yk] at ih ⊢
  by_cases e : 5000 + j = i
  ·subst e
   rw [if_pos rfl, if_pos ⟨by omega, by rw [Nat.add_sub_cancel_left]; simp⟩, Nat.add_sub_cancel_left]
  ·rw [if_neg e, ih]
   by_cases h : 5000 ≤ i
   ·have hne : i - 5000 ≠ j := by omega
    simp only [h, true_and, List.contains_cons]
    simp [hne]
   ·rw [if_neg (fun hh => h hh.1), if_neg (fun hh => h hh.1)]
theorem hget_hsetAll (i : Nat) : ∀ (K H : List (Nat × Blk)), (K.map (·.1)).Nodup → Yk (hsetAll H K) i = if (Yk K i).isSome = true then Yk K i else Yk H i
 | [], H, _ => by simp [hsetAll, Yk]
 | (j, b) :: r, H, hn => by
  simp only [List.map_cons, List.nodup_cons] at hn
  simp only [hsetAll, Yk]
  rw [hget_hsetAll i r _ hn.2, Yi]
  by_cases e : j = i
  ·subst e
   have h0 : Yk r j = none := by
    cases h : Yk r j with
    | none => rfl
    | some c => exact absurd (List.mem_map.2 ⟨_, hget_mem h, rfl⟩) hn.1
   simp [h0]
  ·simp [e]
def pinnable : Blk → Bool
 | .cells _ s rows => !rows.isEmpty && s != 0
 | .map _ => true
 | _ => false
theorem pin_of {w : World} {id : Nat} {b : Blk} (h : BlkOK μ S w id b) (hp : pinnable b = true) : ∃ g t n, μ id = some g ∧ Yr w g = pinS t n := by
 cases b with
 | cells e s rows =>
  simp only [pinnable, Bool.and_eq_true, Bool.not_eq_true', List.isEmpty_eq_false_iff, bne_iff_ne] at hp
  rcases h with ⟨rfl, _⟩ | ⟨g, c, h1, h2, h3, _⟩
  ·exact absurd rfl hp.1
  ·refine ⟨g, e, c.size, h1, ?_⟩
   have hpos : 0 < rows.length := by
    rcases Nat.eq_zero_or_pos rows.length with h | h
    ·exact absurd (List.eq_nil_of_length_eq_zero h) hp.1
    ·exact h
   have : 0 < rows.length * s := Nat.mul_pos hpos (Nat.pos_of_ne_zero hp.2)
   unfold Yr pinS
   rw [h2, if_neg (by omega)]; rfl
 | map kvs =>
  obtain ⟨g, es, clk, vals, h1, h2, _⟩ := h
  refine ⟨g, 0, 0, h1, ?_⟩
  unfold Yr pinS
  rw [h2]; rfl
 | iter kvs seen => cases hp
 | cap id s N => cases hp
 | pin id g t n => cases hp
theorem trip_callP {o : Oper} {c : Operand} {args : Array Operand} {ats : Array TypeId} (ho : o.op = .call { callee := .value c, args, argTypes := ats }) {p : Prop} {f : FuncId} {xs : List AV}
  (h : Yc σ c args.toList = some (p, f, xs)) (hp : p) (hc : Callable P f) (ids : List Nat) {H K : List (Nat × Blk)} {r : AV} (hH : sub ids σ.hp = H)
  (hck : ((refsL xs).all ids.contains && (refs r).all ids.contains && ids.all (fun i => decide (i < 5000) && (Yk K i).isSome) && K.all (fun q => ids.contains q.1)) = true) (hnd : (K.map (·.1)).Nodup)
  (hpin : (ids.all fun i => match Yk H i with | some b => pinnable b | none => false) = true) (hc1 : (H.all fun q => (refsB q.2).all ids.contains) = true) (hc2 : (K.all fun q => (refsB q.2).all ids.contains) = true)
  (hf : ∀ G Y N : Nat → Nat, FnOK P f xs (H ++ Yx ids G Y N) fun r' H' => r' = r ∧ ∀ i b, Yk (K ++ Yx ids G Y N) i = some b → Yk H' i = some b) {τ : St} (hτ : (⟨σ.tm, hsetAll σ.hp K⟩ : St).put o.dst r = τ) : Trip P C o σ τ := by
 subst hH hτ
 simp only [Bool.and_eq_true] at hck
 obtain ⟨⟨⟨hx, hr⟩, hi1⟩, hK1⟩ := hck
 have hxr : ∀ i, i ∈ refsL xs → ids.contains i = true := fun i h => List.all_eq_true.1 hx i h
 have hrr : ∀ i, i ∈ refs r → ids.contains i = true := fun i h => List.all_eq_true.1 hr i h
 have hid : ∀ i, ids.contains i = true → i < 5000 ∧ ∃ b, Yk K i = some b := fun i h => by
  have := List.all_eq_true.1 hi1 i (by simpa using h)
  rw [Bool.and_eq_true, decide_eq_true_eq] at this
  exact ⟨this.1, Option.isSome_iff_exists.1 this.2⟩
 have hKi : ∀ i b, Yk K i = some b → ids.contains i = true := fun i b h => List.all_eq_true.1 hK1 _ (hget_mem h)
 intro a w Kp Q ⟨μ, S, hi⟩ hKp
 obtain ⟨vs, h1, h2, h3⟩ := exec_call hi ho h hp hc
 unfold Oper.wp
 rw [h3]
 have hpn : ∀ i, ∃ g t n, ids.contains i = true → μ i = some g ∧ Yr w g = pinS t n := fun i => by
  by_cases e : ids.contains i = true
  ·have := List.all_eq_true.1 hpin i (by simpa using e)
   cases e2 : Yk (sub ids σ.hp) i with
   | none => rw [e2] at this; cases this
   | some b =>
    rw [e2] at this
    have e3 : Yk σ.hp i = some b := by
     rw [hget_sub, if_pos e] at e2; exact e2
    obtain ⟨g, t, n, k1, k2⟩ := pin_of (hi.hp i b e3) this
    exact ⟨g, t, n, fun _ => ⟨k1, k2⟩⟩
  ·exact ⟨0, 0, 0, fun h => absurd h e⟩
 let G : Nat → Nat := fun i => Classical.choose (hpn i)
 let Y : Nat → Nat := fun i => Classical.choose (Classical.choose_spec (hpn i))
 let N : Nat → Nat := fun i => Classical.choose (Classical.choose_spec (Classical.choose_spec (hpn i)))
 have hg : ∀ i, ids.contains i = true → μ i = some (G i) ∧ Yr w (G i) = pinS (Y i) (N i) := fun i => Classical.choose_spec (Classical.choose_spec (Classical.choose_spec (hpn i)))
 let μc : Nat → Option Nat := fun i => if ids.contains i then μ i else none
 have mc : ∀ {i g}, μc i = some g → ids.contains i = true ∧ μ i = some g := fun {i g} h => by
  simp only [μc] at h; split at h
  ·exact ⟨by assumption, h⟩
  ·cases h
 have mc' : ∀ {i}, ids.contains i = true → μc i = μ i := fun {i} h => by simp only [μc, h, if_true]
 have mcn : ∀ {i}, ids.contains i = false → μc i = none := fun {i} h => by simp only [μc, h, Bool.false_eq_true, if_false]
 have hsubk : ∀ i b, Yk (sub ids σ.hp) i = some b → ids.contains i = true ∧ Yk σ.hp i = some b := fun i b h => by
  rw [hget_sub] at h
  split at h
  ·exact ⟨by assumption, h⟩
  ·cases h
 refine (hf G Y N S μc w vs h1 (fun j x hj => (h2 j x hj).less fun id hid g hg => by rw [mc' (hxr id (Zr hj hid))]; exact hg) ⟨fun id b hb => ?_, fun id g hg' => ?_, fun id id' g hg hg' => hi.inj id id' g (mc hg).2 (mc hg').2, hi.gok.sub fun i g h => ⟨i, (mc h).2⟩⟩ (fun b hb => (hi.sb b hb).1)).mono ?_
 ·rw [Za] at hb
  split at hb
  ·obtain ⟨q1, q2⟩ := hsubk id b hb
   have hall := List.all_eq_true.1 hc1 _ (hget_mem hb)
   exact (hi.hp id b q2).less (mc' q1) (fun i hi' g hg => by rw [mc' (List.all_eq_true.1 hall i hi')]; exact hg)
  ·rw [hget_pins] at hb
   split at hb
   ·rename_i hc5
    injection hb with hb
    subst hb
    have hno : ids.contains id = false := by
     cases e : ids.contains id with
     | false => rfl
     | true => have := (hid id e).1; omega
    exact ⟨mcn hno, by rw [mc' hc5.2]; exact (hg _ hc5.2).1, (hg _ hc5.2).2⟩
   ·cases hb
 ·obtain ⟨k1, k2⟩ := mc hg'
  obtain ⟨⟨b, j1⟩, _, j3⟩ := hi.dom id g k2
  refine ⟨⟨b, ?_⟩, j3⟩
  rw [Za, if_pos ⟨(id, b), hget_mem (by rw [hget_sub, if_pos k1]; exact j1), rfl⟩, hget_sub, if_pos k1]; exact j1
 rintro e w' ⟨v, r', H', μ', S', rfl, ⟨rfl, hKH⟩, k1, k2, k3, k4, k5⟩
 have hKget : ∀ i b, Yk K i = some b → Yk H' i = some b := fun i b hb => hKH i b (by
  rw [Za, if_pos ⟨(i, b), hget_mem hb, rfl⟩]; exact hb)
 have hPget : ∀ i, ids.contains i = true → Yk H' (5000 + i) = some (.pin i (G i) (Y i) (N i)) := fun i hi' => hKH _ _ (by
  rw [Za, if_neg (by
   rintro ⟨b, hb, hb2⟩
   have : ids.contains b.1 = true := List.all_eq_true.1 hK1 b hb
   have := (hid _ this).1
   omega), hget_pins, if_pos ⟨by omega, by rw [Nat.add_sub_cancel_left]; exact hi'⟩, Nat.add_sub_cancel_left])
 have hpin' : ∀ i, ids.contains i = true → μ' i = some (G i) ∧ Yr w' (G i) = pinS (Y i) (N i) := fun i hi' => (k2.blk _ _ (hPget i hi')).2
 have hfr : Frm (fun g => ∃ id, μc id = some g) w w' := k3
 have hS : SameOn S w w' := fun b hb => hfr.block b (hi.sb b hb).1 (by rintro ⟨id, h⟩; exact (hi.dom id b (mc h).2).2.2.1 hb)
 have hO : ∀ i g, μ i = some g → ids.contains i = false → w'.heap[g]? = w.heap[g]? := fun i g hg hn => hfr.block g (hi.dom i g hg).2.2.2 (by
  rintro ⟨id, h⟩
  obtain ⟨q1, q2⟩ := mc h
  have := hi.inj _ _ _ hg q2
  subst this
  rw [q1] at hn; cases hn)
 have hz : ∀ i g, μ i = some g → Yr w' g = Yr w g := fun i g hg' => by
  cases e : ids.contains i with
  | false => exact rowSize_same (hO i g hg' e)
  | true =>
   obtain ⟨q1, q2⟩ := hg i e
   rw [hg'] at q1; injection q1 with q1
   rw [q1, (hpin' i e).2, q2]
 let S2 : Nat → Prop := fun b => S b ∨ S' b
 have hrd : ∀ {v x}, Rd μ S w v x → Rd μ S2 w' v x := fun hv => hv.mono hS (fun _ h => .inl h) (fun _ _ h => h) hz
 have inv : Inv C μ S2 ⟨σ.tm, hsetAll σ.hp K⟩ a w' := by
  refine ⟨hi.size, hi.defers, fun t x hx => hrd (hi.tm t x hx), fun i b hb => ?_, fun i g hg' => ?_, hi.inj, hi.frm.step _ hfr (fun g ⟨id, h⟩ => (hi.dom id g (mc h).2).2.1), fun b hb => ?_⟩
  ·rw [hget_hsetAll i K σ.hp hnd] at hb
   split at hb
   ·have hib := hKi i b hb
    have hB := k2.blk i b (hKget i b hb)
    have hall := List.all_eq_true.1 hc2 _ (hget_mem hb)
    have h1 : BlkOK μ S' w' i b := hB.less (by rw [(hg i hib).1, (hpin' i hib).1]) (fun j hj q hq => by
     have hjb := List.all_eq_true.1 hall j hj
     rw [(hpin' j hjb).1] at hq
     rw [(hg j hjb).1]; exact hq)
    exact h1.mono (SameOn.refl _ _) (fun _ h => .inr h) (fun _ _ h => h) (fun _ _ _ => rfl) (fun h => h) (fun _ _ => rfl)
   ·rename_i hno
    have hib : ids.contains i = false := by
     cases e : ids.contains i with
     | false => rfl
     | true =>
      obtain ⟨_, c, hc'⟩ := hid i e
      rw [hc'] at hno
      exact absurd rfl hno
    exact (hi.hp i b hb).mono hS (fun _ h => .inl h) (fun _ _ h => h) hz (fun h => h) (fun g hg' => hO i g hg' hib)
  ·obtain ⟨⟨b, j1⟩, j2, j3, j4⟩ := hi.dom i g hg'
   refine ⟨?_, j2, ?_, Nat.lt_of_lt_of_le j4 hfr.size⟩
   ·rw [hget_hsetAll i K σ.hp hnd]
    split
    ·rename_i hs
     exact Option.isSome_iff_exists.1 hs
    ·exact ⟨b, j1⟩
   ·rintro (h | h)
    ·exact j3 h
    ·cases e : ids.contains i with
     | true =>
      have := (hg i e).1
      rw [hg'] at this; injection this with this
      subst this
      exact (k2.dom i _ (hpin' i e).1).2.1 h
     | false =>
      rcases (k5 g h).2 with q | ⟨id, q⟩ | q
      ·exact j3 q
      ·obtain ⟨q1, q2⟩ := mc q
       have := hi.inj _ _ _ hg' q2
       subst this
       rw [q1] at e; cases e
      ·omega
  ·rcases hb with h | h
   ·exact ⟨Nat.lt_of_lt_of_le (hi.sb b h).1 hfr.size, (hi.sb b h).2⟩
   ·refine ⟨(k5 b h).1, ?_⟩
    rcases (k5 b h).2 with q | ⟨id, q⟩ | q
    ·exact (hi.sb b q).2
    ·rcases (hi.dom id b (mc q).2).2.1 with z | z
     ·exact .inr (.inl z)
     ·exact .inr (.inr z)
    ·have := hi.frm.size
     exact .inr (.inr (by omega))
 refine hKp _ _ ⟨μ, S2, inv.put o.dst ?_⟩
 have h1 : Rd μ S' w' v r' := k1.less fun i hi' g hg' => by
  have hib := hrr i hi'
  rw [(hpin' i hib).1] at hg'
  rw [(hg i hib).1]; exact hg'
 exact h1.mono (SameOn.refl _ _) (fun _ h => .inr h) (fun _ _ h => h) (fun _ _ _ => rfl)
theorem partsS_agree {s : St} {t : TypeId} : ∀ {parts : List (Nat × Operand)}, (∀ q, q ∈ parts → evS s q.2 = evS σ q.2) → partsS T s t parts = partsS T σ t parts
 | [], _ => rfl
 | (j, o) :: r, h => by
  simp only [partsS]
  rw [h (j, o) (by simp), partsS_agree (fun q hq => h q (by simp [hq]))]
theorem seg_build (hT : TabOK P T) {ops : Array Oper} {Q : Exit → Act → World → Prop} {k n : Nat} {acc : Skel} {o : Oper} {l : List Oper} {t : TypeId} {parts : Array (Nat × Operand)} (ho : o.op = .build t parts) {b : Bool} (hg : Yo ops σ o.guard = some b)
  {p : Prop} {x : AV} (h : buildAV T σ t parts.toList = some (p, x)) (hp : b = true → p) {y : AV} (hy : (bif b then x else .cnd false x) = y)
  {sk : List Loc × List Loc} (hs : ((Sp.mk o.dst y [] (locsG ops o.guard ++ locsL σ (parts.toList.map (·.2)))).wr, locsG ops o.guard ++ locsL σ (parts.toList.map (·.2))) = sk) (ha : σ.put o.dst y = σ') (hk : SegFrom P C ops Q k n (acc ++ [sk]) l σ') : SegFrom P C ops Q k n acc (o :: l) σ := by
 refine seg_rob (rob_trip (x := y) (rd := locsL σ (parts.toList.map (·.2))) hg (by
  cases b
  ·exact .inr ⟨x, hy.symm⟩
  ·exact .inl rfl) (fun hb s hag => ?_)) rfl (by rw [← hs]) (by rw [← ha]; simp [Sp.app]) hk
 subst hb
 have hyx : x = y := hy
 subst hyx
 have hb2 : buildAV T s t parts.toList = some (p, x) := by
  rw [← h]
  unfold buildAV
  rw [partsS_agree (fun q hq => evS_agree fun z hz => hag z (locsL_mem (List.mem_map.2 ⟨q, hq, rfl⟩) z hz))]
 refine step_sound hT o (p := p) ?_ (hp rfl)
 rw [ho]
 simp only [stepOp, hb2, Option.map_some]
attribute [go_sem] Yx pinnable
end
end Go.Eng
namespace Go.Eng
section
variable {P : Program} {T : Tab} {C : Ctx} {σ σ' : St} {Ret : St → Prop} {k : List It} {μ : Nat → Option Nat} {S : Nat → Prop} {a : Act} {w : World}
end
end Go.Eng
namespace Go.Eng
def renE (f : Nat → Nat) (e : Edge) : Edge := ⟨f e.on, e.ground⟩
section
variable {P : Program} {C : Ctx} {σ σ' : St}
def asEmpty (id s : Nat) : AV → AV
 | .nils => .osl id s 0 0
 | x => x
theorem wk_asEmpty (id s : Nat) (x : AV) : wk x (asEmpty id s x) := by
 cases x
 case nils => exact .inr (.inr ⟨rfl, .inr ⟨id, s, 0, rfl⟩⟩)
 all_goals exact .inr (.inl rfl)
theorem le_nilB (id' s' id : Nat) {e s : Nat} {rows rows' : List (List AV)} (hb : Yk σ.hp id = some (.cells e s rows)) (hr : rows.map (fun row => row.map (asEmpty id' s')) = rows') : Le C σ ⟨σ.tm, Zh σ.hp id (.cells e s rows')⟩ := by
 subst hr
 rintro a w ⟨μ, S, hi⟩
 refine ⟨μ, S, hi.size, hi.defers, hi.tm, fun i b hb' => ?_, fun i q hq => ?_, hi.inj, hi.frm, hi.sb⟩
 ·simp only [Yi] at hb'
  split at hb'
  ·rename_i h1
   injection hb' with hb'
   subst h1 hb'
   rcases hi.hp id _ hb with ⟨rfl, k2⟩ | ⟨g, c, k1, k2, k3, k4, k5⟩
   ·exact .inl ⟨by simp, k2⟩
   ·refine .inr ⟨g, c, k1, k2, by rw [List.length_map]; exact k3, fun row hrow => ?_, fun i row hi' q x hx => ?_⟩
    ·obtain ⟨r0, h0, rfl⟩ := List.mem_map.1 hrow
     rw [List.length_map]; exact k4 r0 h0
    ·rw [List.getElem?_map] at hi'
     cases e0 : rows[i]? with
     | none => rw [e0] at hi'; cases hi'
     | some r0 =>
      rw [e0] at hi'
      simp only [Option.map_some, Option.some.injEq] at hi'
      subst hi'
      rw [List.getElem?_map] at hx
      cases e1 : r0[q]? with
      | none => rw [e1] at hx; cases hx
      | some y =>
       rw [e1] at hx
       simp only [Option.map_some, Option.some.injEq] at hx
       subst hx
       exact (k5 i r0 e0 q y e1).wk (wk_asEmpty id' s' y)
  ·exact hi.hp i b hb'
 ·obtain ⟨⟨b, h1⟩, h2⟩ := hi.dom i q hq
  refine ⟨?_, h2⟩
  simp only [Yi]
  split
  ·exact ⟨_, rfl⟩
  ·exact ⟨b, h1⟩
theorem draw_le {ops : Array Oper} {Q : Exit → Act → World → Prop} {k : Nat} (h : Le C σ σ') (hk : DrawOK P C ops Q k σ') : DrawOK P C ops Q k σ := fun a w hr => hk a w (h a w hr)
end
attribute [go_sem] asEmpty
end Go.Eng
namespace Go.Eng
def remOp (r : Nat) (f : Nat → Nat) (o : Oper) : Oper := ⟨o.dst, o.op, o.type, o.pos, (o.after.filter fun e => !(e.on == r)).map (renE f), o.guard.map fun g => (f g.1, g.2)⟩
def Ym (r : Nat) (p q : List Nat) (l : List Oper) : List Oper := p.map fun i => remOp r (fun j => q.getD j j) (l.getD i default)
def isSel : Op → Bool
 | .select .. => true
 | _ => false
def remOK (r : Nat) (p q : List Nat) (ops : Array Oper) : Bool :=
 p.length + 1 == ops.size && q.length == ops.size && (decide (r < ops.size) && (List.range ops.size).all fun i => i == r || (decide (q.getD i i + 1 < ops.size) && p.getD (q.getD i i) 0 == i)) &&
 ((List.range p.length).all fun j => decide (p.getD j 0 < ops.size) && !(p.getD j 0 == r) && q.getD (p.getD j 0) 0 == j) &&
 ops.toList.all fun o => (match o.guard with | some g => !(g.1 == r) | none => true) && !isSel o.op
def firstOK (r : Nat) (o : Oper) (ops : Array Oper) : Bool :=
 o.after.isEmpty && (List.range ops.size).all fun j => j == r || (match ops[j]? with | some oj => (oj.after.any fun e => Region.binds .any e && e.on == r) || o.apart ops oj | none => true)
section
variable {P : Program} {T : Tab} {C : Ctx} {σ σ' : St} {μ : Nat → Option Nat} {S : Nat → Prop} {a : Act} {w : World}
structure RemF (r : Nat) (p q : List Nat) (ops : Array Oper) : Prop where
 pl : p.length + 1 = ops.size
 ql : q.length = ops.size
 rl : r < ops.size
 to : ∀ i, i < ops.size → i ≠ r → q.getD i i + 1 < ops.size ∧ p.getD (q.getD i i) 0 = i
 fro : ∀ j, j < p.length → p.getD j 0 < ops.size ∧ p.getD j 0 ≠ r ∧ q.getD (p.getD j 0) 0 = j
 gd : ∀ (i : Nat) o j b, ops[i]? = some o → o.guard = some (j, b) → j ≠ r
 sel : ∀ (i : Nat) o cs b, ops[i]? = some o → o.op ≠ .select cs b
theorem rem_facts {r : Nat} {p q : List Nat} {ops : Array Oper} (h : remOK r p q ops = true) : RemF r p q ops := by
 unfold remOK at h
 simp only [Bool.and_eq_true, beq_iff_eq, decide_eq_true_eq] at h
 obtain ⟨⟨⟨⟨h1, h2⟩, h3, h4⟩, h5⟩, h6⟩ := h
 have hall : ∀ (i : Nat) o, ops[i]? = some o → ((match o.guard with | some g => !(g.1 == r) | none => true) && !isSel o.op) = true := fun i o ho =>
  List.all_eq_true.1 h6 o (by rw [Array.mem_toList_iff]; exact Array.mem_of_getElem? ho)
 refine ⟨h1, h2, h3, fun i hi hne => ?_, fun j hj => ?_, fun i o j b ho hg e => ?_, fun i o cs b ho e => ?_⟩
 ·have := List.all_eq_true.1 h4 i (List.mem_range.2 hi)
  simp only [Bool.or_eq_true, Bool.and_eq_true, beq_iff_eq, decide_eq_true_eq] at this
  rcases this with h | h
  ·exact absurd h hne
  ·exact h
 ·have := List.all_eq_true.1 h5 j (List.mem_range.2 hj)
  simp only [Bool.and_eq_true, beq_iff_eq, decide_eq_true_eq, Bool.not_eq_true', beq_eq_false_iff_ne] at this
  exact ⟨this.1.1, this.1.2, this.2⟩
 ·have := hall i o ho
  rw [hg] at this
  simp only [Bool.and_eq_true, Bool.not_eq_true', beq_eq_false_iff_ne] at this
  exact this.1 e
 ·have := hall i o ho
  rw [e] at this
  simp [isSel] at this
theorem RemF.get {r : Nat} {p q : List Nat} {ops : Array Oper} (h : RemF r p q ops) {i : Nat} (hne : i ≠ r) {o : Oper} (ho : ops[i]? = some o) :
  (Ym r p q ops.toList).toArray[q.getD i i]? = some (remOp r (fun j => q.getD j j) o) := by
 have hi : i < ops.size := (Array.getElem?_eq_some_iff.1 ho).1
 obtain ⟨h4, h5⟩ := h.to i hi hne
 have hpl := h.pl
 rw [List.getElem?_toArray, Ym, List.getElem?_map]
 have hp : p[q.getD i i]? = some i := by
  rw [List.getD_eq_getElem?_getD, List.getElem?_eq_getElem (by omega)] at h5
  rw [List.getElem?_eq_getElem (by omega)]
  exact congrArg some h5
 rw [hp]
 simp only [Option.map_some]
 rw [List.getD_eq_getElem?_getD, Array.getElem?_toList, ho]
 rfl
theorem RemF.big {r : Nat} {p q : List Nat} {ops : Array Oper} (h : RemF r p q ops) {i : Nat} (hi : ops.size ≤ i) : q.getD i i = i := by
 have := h.ql
 rw [List.getD_eq_getElem?_getD, List.getElem?_eq_none (by omega)]; rfl
theorem RemF.inj {r : Nat} {p q : List Nat} {ops : Array Oper} (h : RemF r p q ops) {i j : Nat} (hi : i ≠ r) (hj : j ≠ r) (he : q.getD i i = q.getD j j) : i = j := by
 by_cases h1 : i < ops.size
 ·by_cases h2 : j < ops.size
  ·have e1 := (h.to i h1 hi).2
   rw [he, (h.to j h2 hj).2] at e1
   exact e1.symm
  ·have := (h.to i h1 hi).1
   rw [he, h.big (by omega)] at this
   omega
 ·by_cases h2 : j < ops.size
  ·have := (h.to j h2 hj).1
   rw [← he, h.big (by omega)] at this
   omega
  ·rw [h.big (by omega), h.big (by omega)] at he; exact he
theorem RemF.yielded {r : Nat} {p q : List Nat} {ops : Array Oper} (h : RemF r p q ops) (t : Array Value) {j : Nat} (hj : j ≠ r) : Go.yielded (Ym r p q ops.toList).toArray t (q.getD j j) = Go.yielded ops t j := by
 unfold Go.yielded
 cases ho : ops[j]? with
 | none =>
  have hs : ops.size ≤ j := Array.getElem?_eq_none_iff.1 ho
  have hpl := h.pl
  rw [h.big hs, List.getElem?_toArray, Ym, List.getElem?_map, List.getElem?_eq_none (by omega)]
  rfl
 | some o => rw [h.get hj ho]; rfl
theorem rem_any {r : Nat} {p q : List Nat} {ops : Array Oper} (h : RemF r p q ops) {Q : Exit → Act → World → Prop} : ∀ (f : Nat) (L L' : Array Bool) (a : Act) (w : World), L.size = ops.size → L'.size + 1 = ops.size → L.getD r false = true →
  (∀ i, i ≠ r → L'.getD (q.getD i i) false = L.getD i false) → wpAny P .any (Ym r p q ops.toList).toArray Q f L' a w → wpAny P .any ops Q f L a w := by
 have hpl := h.pl
 have hTF : ∀ (L : Array Bool) (i : Nat), i < L.size → L.getD i true = L.getD i false := fun L i hi => by rw [Array.getD_eq_getD_getElem?, Array.getD_eq_getD_getElem?, Array.getElem?_eq_getElem hi]; rfl
 have hne : ∀ (L : Array Bool), L.size = ops.size → L.getD r false = true → ∀ i, i ∈ Region.ready .any ops L → i ≠ r := fun L hL hr i hi e => by
  subst e
  obtain ⟨k1, _⟩ := mem_ready.1 hi
  rw [hTF L i (by rw [hL]; exact h.rl), hr] at k1
  cases k1
 have hrd : ∀ (L L' : Array Bool), L.size = ops.size → L'.size + 1 = ops.size → L.getD r false = true → (∀ i, i ≠ r → L'.getD (q.getD i i) false = L.getD i false) → ∀ i, i ∈ Region.ready .any ops L → q.getD i i ∈ Region.ready .any (Ym r p q ops.toList).toArray L' := fun L L' hL hL' hr hg i hi => by
  have hir := hne L hL hr i hi
  obtain ⟨k1, o, k2, k3⟩ := mem_ready.1 hi
  have hlt : i < ops.size := (Array.getElem?_eq_some_iff.1 k2).1
  refine mem_ready.2 ⟨?_, _, h.get hir k2, fun e he hb => ?_⟩
  ·rw [hTF L' _ (by have := (h.to i hlt hir).1; omega), hg i hir, ← hTF L i (by omega)]; exact k1
  ·simp only [remOp] at he
   obtain ⟨e0, he0, rfl⟩ := Array.mem_map.1 he
   obtain ⟨he1, he2⟩ := Array.mem_filter.1 he0
   show L'.getD (q.getD e0.on e0.on) false = true
   rw [hg _ (by simpa using he2)]
   exact k3 e0 he1 hb
 intro f
 induction f with
 | zero =>
  intro L L' a w hL hL' hr hg hw
  refine ⟨List.eq_nil_iff_forall_not_mem.2 fun i hi => ?_, hw.2⟩
  have := hrd L L' hL hL' hr hg i hi
  rw [hw.1] at this
  cases this
 | succ f ih =>
  intro L L' a w hL hL' hr hg hw
  refine ⟨fun h0 => ?_, fun i hi => ?_⟩
  ·by_cases hrr : Region.ready .any (Ym r p q ops.toList).toArray L' = []
   ·exact hw.1 hrr
   ·exfalso
    obtain ⟨j, hj⟩ := List.exists_mem_of_ne_nil _ hrr
    obtain ⟨k1, o, k2, k3⟩ := mem_ready.1 hj
    have hjn : j < p.length := by
     have := (Array.getElem?_eq_some_iff.1 k2).1
     simpa only [List.size_toArray, Ym, List.length_map] using this
    obtain ⟨f1, f2, f3⟩ := h.fro j hjn
    have hqi : q.getD (p.getD j 0) (p.getD j 0) = j := by
     have hq := h.ql
     rw [List.getD_eq_getElem?_getD, List.getElem?_eq_getElem (by omega)] at f3 ⊢
     exact f3
    obtain ⟨oi, hoi⟩ : ∃ oi, ops[p.getD j 0]? = some oi := ⟨_, Array.getElem?_eq_getElem f1⟩
    have Yk := h.get f2 hoi
    rw [hqi] at Yk
    rw [Yk] at k2
    injection k2 with k2
    have : p.getD j 0 ∈ Region.ready .any ops L := by
     refine mem_ready.2 ⟨?_, oi, hoi, fun e he hb => ?_⟩
     ·rw [hTF L _ (by omega), ← hg _ f2, hqi, ← hTF L' j (by omega)]; exact k1
     ·by_cases her : e.on = r
      ·rw [her]; exact hr
      ·rw [← hg _ her]
       exact k3 (renE (fun j => q.getD j j) e) (by rw [← k2]; exact Array.mem_map.2 ⟨e, Array.mem_filter.2 ⟨he, by simpa using her⟩, rfl⟩) hb
    rw [h0] at this
    cases this
  ·have hir := hne L hL hr i hi
   have hri := hrd L L' hL hL' hr hg i hi
   have hop := hw.2 _ hri
   obtain ⟨_, o, hoi, _⟩ := mem_ready.1 hi
   have hlt : i < ops.size := (Array.getElem?_eq_some_iff.1 hoi).1
   have hnext : ∀ a' w', wpAny P .any (Ym r p q ops.toList).toArray Q f (L'.setIfInBounds (q.getD i i) true) a' w' → wpAny P .any ops Q f (L.setIfInBounds i true) a' w' := fun a' w' hk =>
    ih _ _ a' w' (by simpa using hL) (by simpa using hL') (by
     rw [Array.getD_eq_getD_getElem?, Array.getElem?_setIfInBounds, if_neg hir, ← Array.getD_eq_getD_getElem?]; exact hr) (fun j hj => by
     have hqi := (h.to i hlt hir).1
     have := hg j hj
     rw [Array.getD_eq_getD_getElem?, Array.getD_eq_getD_getElem?] at this
     rw [Array.getD_eq_getD_getElem?, Array.getD_eq_getD_getElem?, Array.getElem?_setIfInBounds, Array.getElem?_setIfInBounds]
     by_cases e : j = i
     ·subst e
      rw [if_pos rfl, if_pos rfl, if_pos (by omega), if_pos (by omega)]
     ·rw [if_neg (fun e2 => e (h.inj hj hir e2.symm)), if_neg (fun e2 => e e2.symm)]
      exact this) hk
   have hop2 := wpOp_mono hnext hop
   unfold wpOp at hop2 ⊢
   rw [h.get hir hoi] at hop2
   rw [hoi]
   simp only at hop2 ⊢
   have hwant : Region.wanted (remOp r (fun j => q.getD j j) o) (Go.yielded (Ym r p q ops.toList).toArray a.tmps) = Region.wanted o (Go.yielded ops a.tmps) := by
    unfold Region.wanted remOp
    cases hgd : o.guard with
    | none => rfl
    | some g =>
     obtain ⟨j, b⟩ := g
     simp only [Option.map_some]
     rw [h.yielded a.tmps (h.gd i o j b hoi hgd)]
   rw [hwant] at hop2
   exact hop2
end
end Go.Eng
namespace Go.Eng
section
variable {P : Program} {T : Tab} {C : Ctx} {σ σ' : St}
theorem sub_app (ids : List Nat) : ∀ (A B : List (Nat × Blk)), sub ids (A ++ B) = sub ids A ++ sub ids B
 | [], _ => rfl
 | p :: r, B => by
  simp only [List.cons_append, sub, sub_app ids r B]
  split <;> rfl
theorem sub_sub (ids : List Nat) : ∀ A : List (Nat × Blk), sub ids (sub ids A) = sub ids A
 | [] => rfl
 | p :: r => by
  simp only [sub]
  split
  ·rename_i h; simp only [sub, h, if_true, sub_sub ids r]
  ·exact sub_sub ids r
theorem sub_del (ids : List Nat) : ∀ A : List (Nat × Blk), sub ids (del ids A) = []
 | [] => rfl
 | p :: r => by
  simp only [del]
  split
  ·exact sub_del ids r
  ·rename_i h; simp only [sub, h, sub_del ids r]; rfl
def front (ids : List Nat) (A : List (Nat × Blk)) (s : St) : St := ⟨s.tm, sub ids A ++ del ids s.hp⟩
theorem front_sub (ids : List Nat) (A : List (Nat × Blk)) (s : St) : sub ids (front ids A s).hp = sub ids A := by
 show sub ids (sub ids A ++ del ids s.hp) = _
 rw [sub_app, sub_sub, sub_del, List.append_nil]
theorem front_get {ids : List Nat} {A : List (Nat × Blk)} {s : St} (h : ∀ i, ids.contains i = true → Yk s.hp i = Yk A i) (i : Nat) : Yk (front ids A s).hp i = Yk s.hp i := by
 show Yk (sub ids A ++ del ids s.hp) i = _
 rw [Za]
 by_cases hi : ids.contains i = true
 ·by_cases he : ∃ b, b ∈ sub ids A ∧ b.1 = i
  ·rw [if_pos he, hget_sub, if_pos hi, h i hi]
  ·rw [if_neg he, hget_del, if_pos hi, h i hi]
   cases e : Yk A i with
   | none => rfl
   | some b =>
    have h2 : Yk (sub ids A) i = some b := by rw [hget_sub, if_pos hi]; exact e
    exact absurd ⟨_, hget_mem h2, rfl⟩ he
 ·rw [if_neg, hget_del, if_neg hi]
  rintro ⟨b, hb, rfl⟩
  have : ∀ A : List (Nat × Blk), b ∈ sub ids A → ids.contains b.1 = true := fun A => by
   induction A with
   | nil => intro h; cases h
   | cons p r ih =>
    intro h
    simp only [sub] at h
    split at h
    ·rename_i hc
     rcases List.mem_cons.1 h with rfl | h
     ·exact hc
     ·exact ih h
    ·exact ih h
  exact hi (this _ hb)
theorem hget_hsetAll_app {K : List (Nat × Blk)} (hnd : (K.map (·.1)).Nodup) (A : List (Nat × Blk)) (i : Nat) : Yk (hsetAll A K) i = Yk (K ++ A) i := by
 rw [hget_hsetAll i K _ hnd, Za]
 by_cases e : ∃ b, b ∈ K ∧ b.1 = i
 ·rw [if_pos e]
  obtain ⟨b, hb, rfl⟩ := e
  have : ∀ K : List (Nat × Blk), b ∈ K → (Yk K b.1).isSome = true := fun K => by
   induction K with
   | nil => intro h; cases h
   | cons q r ih =>
    intro h
    simp only [Yk]
    split
    ·rfl
    ·rename_i hne
     rcases List.mem_cons.1 h with rfl | h
     ·exact absurd rfl hne
     ·exact ih h
  rw [if_pos (this K hb)]
 ·rw [if_neg e]
  cases e2 : Yk K i with
  | none => rfl
  | some b => exact absurd ⟨_, hget_mem e2, rfl⟩ e
theorem trip_callS {ops : Array Oper} {o : Oper} {c : Operand} {args : Array Operand} {ats : Array TypeId} (ho : o.op = .call { callee := .value c, args, argTypes := ats }) {p : Prop} {f : FuncId} {xs : List AV}
  (h : Yc σ c args.toList = some (p, f, xs)) (hp : p) (hc : Callable P f) (ids : List Nat) {K : List (Nat × Blk)} {r : AV}
  (hck : ((refsL xs).all ids.contains && (refs r).all ids.contains && ids.all (fun i => decide (i < 5000) && (Yk K i).isSome) && K.all (fun q => ids.contains q.1)) = true) (hnd : (K.map (·.1)).Nodup)
  (hpin : (ids.all fun i => match Yk (sub ids σ.hp) i with | some b => pinnable b | none => false) = true) (hc1 : ((sub ids σ.hp).all fun q => (refsB q.2).all ids.contains) = true) (hc2 : (K.all fun q => (refsB q.2).all ids.contains) = true)
  (hf : ∀ G Y N : Nat → Nat, FnOK P f xs (sub ids σ.hp ++ Yx ids G Y N) fun r' H' => r' = r ∧ ∀ i b, Yk (K ++ Yx ids G Y N) i = some b → Yk H' i = some b)
  {s : St} (ha : ∀ x, x ∈ locsG ops o.guard ++ ((locsO σ c ++ locsL σ args.toList) ++ ids.map Loc.blk) → AgreeAt σ s x) {τ : St} (h1 : τ.tm = (St.put ⟨s.tm, []⟩ o.dst r).tm) (h2 : ∀ i, Yk τ.hp i = Yk (K ++ s.hp) i) : Trip P C o s τ := by
 have hag : ∀ i, ids.contains i = true → Yk s.hp i = Yk σ.hp i := fun i hi => ha (.blk i) (List.mem_append_right _ (List.mem_append_right _ (List.mem_map.2 ⟨i, by simpa using hi, rfl⟩)))
 have hca : Yc s c args.toList = Yc σ c args.toList := callArgs_agree fun x hx => ha x (List.mem_append_right _ (List.mem_append_left _ hx))
 have hfg := front_get (ids := ids) (A := σ.hp) (s := s) hag
 have hca2 : Yc (front ids σ.hp s) c args.toList = some (p, f, xs) := by
  rw [← h, ← hca]
  refine callArgs_agree fun x _ => ?_
  cases x with
  | tm t => rfl
  | blk i => exact hfg i
 have hl1 : Le C s (front ids σ.hp s) := rel_same rfl (fun _ => rfl) (fun i => (hfg i).symm)
 intro a w Kp Q hrel hK
 have hs := front_sub ids σ.hp s
 refine trip_callP ho hca2 hp hc ids hs hck hnd hpin hc1 hc2 hf rfl a w Kp Q (hl1 a w hrel) fun a' w' hr' => hK a' w' (rel_same ?_ ?_ ?_ a' w' hr')
 ·rw [h1]; cases o.dst <;> simp [St.put, front]
 ·intro t; rw [h1]; cases o.dst <;> rfl
 ·intro i
  rw [St.put_hp, h2]
  show Yk (hsetAll (front ids σ.hp s).hp K) i = Yk (K ++ s.hp) i
  rw [hget_hsetAll_app hnd, Za, Za, hfg]
theorem seg_callP {ops : Array Oper} {Q : Exit → Act → World → Prop} {k n : Nat} {acc : Skel} {o : Oper} {l : List Oper} {c : Operand} {args : Array Operand} {ats : Array TypeId} (ho : o.op = .call { callee := .value c, args, argTypes := ats }) (hg : o.guard = none) {p : Prop} {f : FuncId} {xs : List AV}
  (h : Yc σ c args.toList = some (p, f, xs)) (hp : p) (hc : Callable P f) (ids : List Nat) {H K : List (Nat × Blk)} {r : AV} (hH : sub ids σ.hp = H)
  (hck : ((refsL xs).all ids.contains && (refs r).all ids.contains && ids.all (fun i => decide (i < 5000) && (Yk K i).isSome) && K.all (fun q => ids.contains q.1)) = true) (hnd : (K.map (·.1)).Nodup)
  (hpin : (ids.all fun i => match Yk H i with | some b => pinnable b | none => false) = true) (hc1 : (H.all fun q => (refsB q.2).all ids.contains) = true) (hc2 : (K.all fun q => (refsB q.2).all ids.contains) = true)
  (hf : ∀ G Y N : Nat → Nat, FnOK P f xs (H ++ Yx ids G Y N) fun r' H' => r' = r ∧ ∀ i b, Yk (K ++ Yx ids G Y N) i = some b → Yk H' i = some b)
  {sk : List Loc × List Loc} (hs : ((match o.dst with | some t => [Loc.tm t] | none => []) ++ K.map (fun b => Loc.blk b.1), locsG ops o.guard ++ ((locsO σ c ++ locsL σ args.toList) ++ ids.map Loc.blk)) = sk)
  (ha : (⟨σ.tm, hsetAll σ.hp K⟩ : St).put o.dst r = σ') (hk : SegFrom P C ops Q k n (acc ++ [sk]) l σ') : SegFrom P C ops Q k n acc (o :: l) σ := by
 subst hs ha hH
 have hKi : ∀ b, b ∈ K → ids.contains b.1 = true := fun b hb => by
  simp only [Bool.and_eq_true] at hck
  exact List.all_eq_true.1 hck.2 b hb
 have hrob : Rob P C ops o ⟨o.dst, r, K, locsG ops o.guard ++ ((locsO σ c ++ locsL σ args.toList) ++ ids.map Loc.blk)⟩ σ := by
  intro s ha _ a w Kp Q ⟨μ, S, hi⟩ hK
  have hgs : Yo ops s o.guard = some true := by rw [hg]; rfl
  rw [Zw hi hgs]
  refine .inl (trip_callS ho h hp hc ids hck hnd hpin hc1 hc2 hf ha ?_ (fun i => ?_) a w Kp Q ⟨μ, S, hi⟩ hK)
  ·unfold Sp.app; cases o.dst <;> rfl
  ·unfold Sp.app; rw [St.put_hp]
 refine seg_robN hrob (fun b hb hno => absurd ?_ hno) rfl rfl (SegFrom.sim ⟨?_, ?_⟩ hk)
 ·exact List.mem_append_right _ (List.mem_append_right _ (List.mem_map.2 ⟨b.1, by simpa using hKi b hb, rfl⟩))
 ·unfold Sp.app; cases o.dst <;> rfl
 ·intro i
  unfold Sp.app
  rw [St.put_hp, St.put_hp]
  exact (hget_hsetAll_app hnd σ.hp i).symm
theorem seg_callK {ops : Array Oper} {Q : Exit → Act → World → Prop} {k n : Nat} {acc : Skel} {o : Oper} {l : List Oper} {c : Operand} {args : Array Operand} {ats : Array TypeId} (ho : o.op = .call { callee := .value c, args, argTypes := ats }) (hg : o.guard = none) {p : Prop} {f : FuncId} {xs : List AV}
  (h : Yc σ c args.toList = some (p, f, xs)) (hp : p) (hc : Callable P f) (ids : List Nat) {H : List (Nat × Blk)} {r : AV} (hH : sub ids σ.hp = H)
  (hck : ((refsL xs).all ids.contains && (refs r).all ids.contains && ids.all (fun i => decide (i < 5000) && (Yk H i).isSome) && H.all (fun q => ids.contains q.1)) = true) (hnd : (H.map (·.1)).Nodup)
  (hpin : (ids.all fun i => match Yk H i with | some b => pinnable b | none => false) = true) (hc1 : (H.all fun q => (refsB q.2).all ids.contains) = true)
  (hf : ∀ G Y N : Nat → Nat, FnOK P f xs (H ++ Yx ids G Y N) fun r' H' => r' = r ∧ ∀ i b, Yk (H ++ Yx ids G Y N) i = some b → Yk H' i = some b)
  {sk : List Loc × List Loc} (hs : ((match o.dst with | some t => [Loc.tm t] | none => []), locsG ops o.guard ++ ((locsO σ c ++ locsL σ args.toList) ++ ids.map Loc.blk)) = sk)
  (ha : σ.put o.dst r = σ') (hk : SegFrom P C ops Q k n (acc ++ [sk]) l σ') : SegFrom P C ops Q k n acc (o :: l) σ := by
 subst hs ha hH
 have hrob : Rob P C ops o ⟨o.dst, r, [], locsG ops o.guard ++ ((locsO σ c ++ locsL σ args.toList) ++ ids.map Loc.blk)⟩ σ := by
  intro s ha _ a w Kp Q ⟨μ, S, hi⟩ hK
  have hgs : Yo ops s o.guard = some true := by rw [hg]; rfl
  rw [Zw hi hgs]
  refine .inl (trip_callS ho h hp hc ids hck hnd hpin hc1 hc1 hf ha ?_ (fun i => ?_) a w Kp Q ⟨μ, S, hi⟩ hK)
  ·unfold Sp.app; cases o.dst <;> rfl
  ·unfold Sp.app
   rw [St.put_hp]
   show Yk s.hp i = _
   rw [Za]
   split
   ·rename_i he
    obtain ⟨b, hb, rfl⟩ := he
    have hib : ids.contains b.1 = true := by
     simp only [Bool.and_eq_true] at hck
     exact List.all_eq_true.1 hck.2 b hb
    rw [hget_sub, if_pos hib]
    exact ha (.blk b.1) (List.mem_append_right _ (List.mem_append_right _ (List.mem_map.2 ⟨b.1, by simpa using hib, rfl⟩)))
   ·rfl
 refine seg_rob hrob rfl ?_ ?_ hk
 ·unfold Sp.wr; cases o.dst <;> simp
 ·unfold Sp.app; cases o.dst <;> rfl
end
end Go.Eng
namespace Go.Eng
section
variable {P : Program} {T : Tab} {C : Ctx} {σ : St} {Ret : St → Prop}
theorem leAny_kill (id : Nat) : ∀ l : List AV, leAny l (l.map (kill id))
 | [] => trivial
 | x :: l => by
  refine ⟨?_, leAny_kill id l⟩
  unfold kill
  split
  ·exact .inl rfl
  ·exact .inr rfl
theorem hset_hset_get (h : List (Nat × Blk)) (id : Nat) (b c : Blk) (i : Nat) : Yk (Zh (Zh h id b) id c) i = Yk (Zh h id c) i := by
 simp only [Yi]
 split <;> rfl
theorem Inv.pad {μ : Nat → Option Nat} {S : Nat → Prop} {a : Act} {w : World} (hi : Inv C μ S σ a w) {id e s m n : Nat} {R : List (List AV)} (hb : Yk σ.hp id = some (.cells e s R)) {g : Nat} (hg : μ id = some g) {c : Array Value} (hc : w.heap[g]? = some (.cells c e (0, 0)))
  (hm : m ≤ R.length) (hn : (m + n) * s ≤ c.size) : Inv C μ S ⟨σ.tm, Zh σ.hp id (.cells e s (R.take m ++ List.replicate n (List.replicate s .any)))⟩ a w := by
 refine ⟨hi.size, hi.defers, hi.tm, fun i b hb' => ?_, fun i q hq => ?_, hi.inj, hi.frm, hi.sb⟩
 ·rw [Yi] at hb'
  split at hb'
  ·rename_i e'
   injection hb' with hb'
   subst hb' e'
   rcases hi.hp id _ hb with ⟨_, k⟩ | ⟨g', c', k1, k2, k3, k4, k5⟩
   ·rw [k] at hg; cases hg
   ·rw [k1] at hg; injection hg with hg; subst hg
    rw [k2] at hc
    simp only [Option.some.injEq, Obj.cells.injEq] at hc
    obtain ⟨rfl, _⟩ := hc
    refine .inr ⟨g', c', k1, k2, ?_, fun row hr => ?_, fun i row hi' j x hx => ?_⟩
    ·simp only [List.length_append, List.length_take, List.length_replicate, Nat.min_eq_left hm]; exact hn
    ·rcases List.mem_append.1 hr with h | h
     ·exact k4 row (List.mem_of_mem_take h)
     ·rw [(List.mem_replicate.1 h).2]; simp
    ·by_cases h : i < (R.take m).length
     ·rw [List.getElem?_append_left h, List.getElem?_take] at hi'
      split at hi'
      ·exact k5 i row hi' j x hx
      ·cases hi'
     ·rw [List.getElem?_append_right (by omega)] at hi'
      have h1 := (List.mem_replicate.1 (List.mem_of_getElem? hi')).2
      subst h1
      have h2 := (List.mem_replicate.1 (List.mem_of_getElem? hx)).2
      subst h2
      exact .any _
  ·exact hi.hp i b hb'
 ·obtain ⟨⟨b, k1⟩, k2⟩ := hi.dom i q hq
  refine ⟨?_, k2⟩
  rw [Yi]; split
  ·exact ⟨_, rfl⟩
  ·exact ⟨b, k1⟩
theorem cw_appendO (hT : TabOK P T) {k : List It} {all : Array Oper} {o : Oper} {l : List Oper} {x y : Operand} {t e : TypeId} (ho : o.op = .call { callee := .builtin .append, args := #[x, y], argTypes := #[t, t] }) (hgd : o.guard = none) (ht : T.und t = .sl e)
  {id s off len : Nat} {R rows : List (List AV)} {yv : AV} (hx : evS σ x = (True, .osl id s off len)) (hy : evS σ y = (True, yv)) (hsrc : srcRows σ yv = some rows) (hyl : ∀ id s off len, yv = .osl id s off len → rows.length = len) (hb : Yk σ.hp id = some (.cells e s R))
  (hlen : 0 < len) (hR : off + len ≤ R.length) (hs : T.siz e = s) (hs0 : s ≠ 0) (hb0 : T.byt e ≠ 0) (hrl : rowsOf s rows) (hleaf : rowsLeaf rows = true) (hsz : (2 * (len + rows.length) + 768) * T.byt e ≤ 281474976710656) (hfree : HpFree id σ.hp)
  (hbf : BlkFree id (.cells e s (R ++ rows)))
  (h : ∀ off' : Nat, off' = off ∨ off' = 0 → Cw P C Ret (.ops all l :: k) (St.put ⟨σ.tm.map (kill id), Zh σ.hp id (.cells e s ((R.drop (off - off')).take (off' + len) ++ rows))⟩ o.dst (.osl id s off' (len + rows.length)))) :
  Cw P C Ret (.ops all (o :: l) :: k) σ := by
 subst hs
 intro a w hrel
 show wpList P all _ (o :: l) a w
 unfold wpList
 obtain ⟨μ, S, hi⟩ := hrel
 rw [Zw hi (c := true) (by rw [hgd]; rfl)]
 refine .inl ?_
 have hty : P.underlying t = some (.slice e) := by have := hT.und t; rw [ht] at this; exact this
 have hvx := hi.evS x (by rw [hx]; trivial)
 have hvy := hi.evS y (by rw [hy]; trivial)
 rw [hx] at hvx; rw [hy] at hvy
 obtain ⟨vs, hvs⟩ := src_of hi hsrc hvy hrl hyl
 have hRt : ((R.drop off).take len).length = len := by simp; omega
 rcases hi.hp id _ hb with ⟨rfl, _⟩ | ⟨g', c, k1, k2, k3, k4, k5⟩
 ·simp at hR; omega
 have hRl : rowsOf (T.siz e) ((R.drop off).take len) := fun row hr => k4 row (List.mem_of_mem_drop (List.mem_of_mem_take hr))
 obtain ⟨olds, hol⟩ := src_of hi (x := .osl id (T.siz e) off len) (rows := (R.drop off).take len) (size := T.siz e) (by simp [srcRows, hb]) hvx hRl (fun _ _ _ _ h => by injection h with _ _ _ h; rw [hRt, h])
 have hvx0 := hvx
 obtain ⟨A, cap, hav, hc, hor⟩ := hvx.inv_osl
 rcases hor with ⟨h1, _⟩ | ⟨g, e2, n, h1, hA, h3, h4⟩
 ·omega
 rw [k1] at h1; injection h1 with h1; subst h1
 rw [Yr, k2] at h3
 simp only [gL, gM] at h3
 obtain ⟨rfl, rfl⟩ := h3
 have hax : a.eval x = .slice (some ⟨g', off * T.siz e, none⟩) len cap := by rw [← hA]; exact hav
 have hno := rowsFree hbf
 have hv0 : ∀ u, u ∈ vs → u.oneCell' = true := vals_leaf hvs hleaf
 by_cases hroom : len + rows.length ≤ cap
 ·-- in place
  have hr := run_append_in (ty := o.type) (A := some ⟨g', off * T.siz e, none⟩) (len := len) (cap := cap) hT hty hs0 hvs hroom
  have hcap : (off + len + rows.length) * T.siz e ≤ c.size := by
   rw [← h4]; exact Nat.mul_le_mul_right _ (by omega)
  have hi1 := hi.pad hb k1 k2 hR hcap
  have hl1 : (R.take (off + len)).length = off + len := by simp; omega
  obtain ⟨w', r1, r2⟩ := write_rows (P := P) hi1 (off := off + len) (new := rows) (vs := vs) (by rw [Yi, if_pos rfl]) k1 (by simp [hl1]) hvs.len hrl hv0 (fun i row hi j x hx => hvs.rd i row hi j x hx)
  have hov : overRows (R.take (off + len) ++ List.replicate rows.length (List.replicate (T.siz e) .any)) (off + len) rows = R.take (off + len) ++ rows := by
   unfold overRows
   rw [List.take_append_of_le_length (by omega), List.take_of_length_le (by omega), List.drop_eq_nil_of_le (by simp [hl1]), List.append_nil]
  rw [hov] at r2
  have hfr : (execOp a.eval o).run P w = .ok (.value (.slice (some ⟨g', off * T.siz e, none⟩) (len + rows.length) cap)) w' := by
   have e1 : off * T.siz e + len * T.siz e = (off + len) * T.siz e := by rw [Nat.add_mul]
   simp only [add_plain, e1, r1, Result.andThen_ok] at hr
   simp [execOp, ho, hax, resolve, invoke, builtin, hr]
  have r3 := r2.hpEq (H := Zh σ.hp id (.cells e (T.siz e) (R.take (off + len) ++ rows))) (fun i => (hset_hset_get _ _ _ _ i).symm)
  have he : evS ⟨σ.tm, Zh σ.hp id (.cells e (T.siz e) (R.take (off + len) ++ rows))⟩ x = evS σ x := by cases x <;> rfl
  have hv2 := r3.evS x (by rw [he, hx]; trivial)
  rw [he, hx, hax] at hv2
  obtain ⟨A2, cap2, hv3, _, hor2⟩ := hv2.inv_osl
  obtain ⟨μ3, S3, r4⟩ := le_any (C := C) (leAny_kill id σ.tm) a w' ⟨μ, S, r3⟩
  unfold Oper.wp
  rw [hfr]
  have hv4 := r4
  refine h off (.inl rfl) (a.put o.dst _) _ ⟨μ, S, Inv.put ?_ o.dst ?_⟩
  rw [Nat.sub_self, List.drop_zero]
  ·exact ⟨by rw [r3.size]; simp, r3.defers, fun t x hx => by
    rw [List.getElem?_map] at hx
    cases e5 : σ.tm[t]? with
    | none => rw [e5] at hx; cases hx
    | some y =>
     rw [e5] at hx
     simp only [Option.map_some, Option.some.injEq] at hx
     subst hx
     have := r3.tm t y e5
     unfold kill
     split
     ·exact .any _
     ·exact this, r3.hp, r3.dom, r3.inj, r3.frm, r3.sb⟩
  ·rcases hor2 with ⟨h5, _⟩ | ⟨g2, e3, n2, q1, q2, q3, q4⟩
   ·omega
   ·rw [k1] at q1; injection q1 with q1; subst q1
    injection hv3 with j1 j2 j3
    subst j3
    exact .osl id _ off _ cap _ hroom (.inr ⟨g', e3, n2, k1, rfl, q3, q4⟩)
 ·-- a new block
  obtain ⟨nc, z, h1, h2, hgr⟩ := run_append_grow' (ty := o.type) hT hty hs0 hb0 (by rw [← hax]; exact hol) hvs hRt hroom hsz
  have hi1 := (hi.drop id hfree).drew
  have hfr : Yk (σ.drop id).hp id = none := by simp only [St.drop, hget_hdel, if_true]
  have hnod : upd μ id none id = none := hi1.fresh hfr
  have hm : ∀ {v x}, Rd μ S w v x → id ∉ refs x → Rd (upd μ id none) S w.drew v x := fun h hn =>
   (h.other hn none).mono (fun _ _ => rfl) (fun _ h => h) (fun _ _ h => h) (fun _ _ _ => rfl)
  have hrun : (execOp a.eval o).run P w = .ok (.value (.slice (some ⟨w.heap.size, 0, none⟩) (len + rows.length) nc)) (w.drew.alloc (.cells (olds.toArray ++ vs.toArray ++ z) e)) := by
   simp [execOp, ho, hax, resolve, invoke, builtin, hgr]
  unfold Oper.wp
  rw [hrun]
  have hnew := hi1.new id hfr (.cells (olds.toArray ++ vs.toArray ++ z) e) (.cells e (T.siz e) ((R.drop off).take len ++ rows)) (.inr ⟨w.heap.size, _, by simp [upd], alloc_drew_new w _, by simp [hol.len, hvs.len, hRt, Nat.add_mul], fun row hrow => by
    rcases List.mem_append.1 hrow with h | h
    ·exact hRl row h
    ·exact hrl row h, ?_⟩)
  ·have hnew' := hnew.hpEq (H := Zh σ.hp id (.cells e (T.siz e) ((R.drop off).take len ++ rows))) (fun i => by
    simp only [St.drop, Yi, Yk, hget_hdel]
    split <;> rfl)
   refine h 0 (.inr rfl) (a.put o.dst _) _ ⟨_, _, Inv.put (by rw [Nat.sub_zero, Nat.zero_add]; exact hnew') o.dst ?_⟩
   refine .osl id _ 0 _ nc _ h1 (.inr ⟨w.heap.size, e, _, if_pos rfl, by simp, ?_, rfl⟩)
   unfold Yr
   rw [alloc_drew_new]
   simp only [gL, gM, true_and]
   simp only [Array.size_append, List.size_toArray, hol.len, hvs.len, hRt, h2, Nat.zero_add, ← Nat.add_mul]
   congr 1
   omega
  ·have hup : ∀ {v x}, Rd (upd μ id none) S w.drew v x →
     Rd (upd (upd μ id none) id (some w.heap.size)) S (World.alloc w.drew (.cells (olds.toArray ++ vs.toArray ++ z) e)) v x := fun h =>
    h.mono (fun b hb => alloc_get _ _ b (hi1.sb b hb).1) (fun _ h => h) (fun i' g hg => by
     show (if i' = id then some w.heap.size else upd μ id none i') = some g
     rw [if_neg (by rintro rfl; rw [hnod] at hg; cases hg)]; exact hg) (fun i' g hg => rowSize_same (alloc_get _ _ g (hi1.dom i' g hg).2.2.2))
   have key := joined_rd (μ := upd μ id none) (S := S) (w := w.drew) (R := (R.drop off).take len) (rows := rows) (cs := olds.toArray ++ vs.toArray ++ z) (s := T.siz e) hol.len hRl hrl
    (fun i row hi' j x hx => hm (hol.rd i row hi' j x hx) (hno row (List.mem_append_left _ (List.mem_of_mem_drop (List.mem_of_mem_take (List.mem_of_getElem? hi')))) x (List.mem_of_getElem? hx)))
    (fun i row hi' j x hx => hm (hvs.rd i row hi' j x hx) (hno row (List.mem_append_right _ (List.mem_of_getElem? hi')) x (List.mem_of_getElem? hx))) hvs.len (fun k hk => by
     rw [Array.getD_eq_getD_getElem?, List.getD_eq_getElem?_getD, Array.getElem?_append_left (by simpa using hk)]
     simp [List.append_toArray])
   exact fun i row hi' j x hx => hup (key i row hi' j x hx)
end
end Go.Eng
namespace Go.Eng
section
variable {P : Program} {T : Tab} {C : Ctx} {σ : St} {Ret : St → Prop} {w : World}
mutual
def frzM (id : Nat) (kvs : List (Int × AV)) : AV → AV
 | .mp i => if i = id then .rm kvs else .mp i
 | .ptr i size row off => if i = id then .any else .ptr i size row off
 | .osl i size off len => if i = id then .any else .osl i size off len
 | .exs i size off len cap => if i = id then .any else .exs i size off len cap
 | .agg cells => .agg (frzML id kvs cells)
 | .tup cells => .tup (frzML id kvs cells)
 | .fn f caps => .fn f (frzML id kvs caps)
 | .cnd c v => .cnd c (frzM id kvs v)
 | x => x
def frzML (id : Nat) (kvs : List (Int × AV)) : List AV → List AV
 | [] => []
 | x :: r => frzM id kvs x :: frzML id kvs r
end
theorem frzML_map (id : Nat) (kvs : List (Int × AV)) : ∀ l, frzML id kvs l = l.map (frzM id kvs)
 | [] => rfl
 | x :: r => by simp [frzML, frzML_map id kvs r]
def frzMB (id : Nat) (kvs : List (Int × AV)) : Blk → Blk
 | .cells e z R => .cells e z (R.map (frzML id kvs))
 | .map m => .map m
 | .iter m seen => .iter m seen
 | .cap j z N => if j = id then .cells 0 0 [] else .cap j z N
 | .pin j g z N => if j = id then .cells 0 0 [] else .pin j g z N
def frzMH (id : Nat) (kvs : List (Int × AV)) : List (Nat × Blk) → List (Nat × Blk)
 | [] => []
 | p :: r => if p.1 = id then frzMH id kvs r else (p.1, frzMB id kvs p.2) :: frzMH id kvs r
theorem hget_frzMH (id : Nat) (kvs : List (Int × AV)) (i : Nat) : ∀ H, Yk (frzMH id kvs H) i = if i = id then none else (Yk H i).map (frzMB id kvs)
 | [] => by simp [frzMH, Yk]
 | (j, b) :: r => by
  have ih := hget_frzMH id kvs i r
  unfold frzMH
  by_cases h : j = id
  ·subst h
   rw [if_pos rfl, ih]
   by_cases h2 : i = j
   ·rw [if_pos h2, if_pos h2]
   ·rw [if_neg h2, if_neg h2]; simp only [Yk]; rw [if_neg (fun h => h2 h.symm)]
  ·rw [if_neg h]
   simp only [Yk]
   by_cases h2 : j = i
   ·subst h2; rw [if_pos rfl, if_neg h, if_pos rfl]; rfl
   ·rw [if_neg h2, if_neg h2]; exact ih
theorem RdP.frzM_eq {S : Nat → Prop} {v : Value} {x : AV} (h : RdP S w v x) (id : Nat) (kvs : List (Int × AV)) : frzM id kvs x = x := by
 have key : ∀ (l : List AV), (∀ (j : Nat) x, l[j]? = some x → frzM id kvs x = x) → frzML id kvs l = l := by
  intro l
  induction l with
  | nil => intro _; rfl
  | cons y r ih =>
   intro h
   simp only [frzML]
   rw [h 0 y rfl, ih (fun j x hj => h (j + 1) x (by simpa using hj))]
 induction h with
 | fn f vals caps hl hr ih => simp only [frzM]; rw [key caps ih]
 | agg cs cells hl hr ih => simp only [frzM]; rw [key cells ih]
 | _ => rfl
theorem frzM_list {id : Nat} {kvs : List (Int × AV)} {R' : Value → AV → Prop} {vals : Nat → Value} {cells : List AV} (h : ∀ j x, cells[j]? = some x → R' (vals j) (frzM id kvs x)) :
  ∀ j x, (frzML id kvs cells)[j]? = some x → R' (vals j) x := by
 intro j x hx
 rw [frzML_map, List.getElem?_map] at hx
 cases e : cells[j]? with
 | none => rw [e] at hx; cases hx
 | some y =>
  rw [e] at hx; simp only [Option.map_some, Option.some.injEq] at hx; subst hx
  exact h j y e
theorem inv_freezeM {l : List AV} {H : List (Nat × Blk)} {id : Nat} {kvs : List (Int × AV)} (hb : Yk H id = some (.map kvs)) {μ : Nat → Option Nat} {S : Nat → Prop} {a : Act} (hi : Inv C μ S ⟨l, H⟩ a w) :
  Inv C (upd μ id none) (fun b => S b ∨ μ id = some b) ⟨l.map (frzM id kvs), frzMH id kvs H⟩ a w := by
 obtain ⟨g0, es0, clk0, vals0, b1, b2, b3, b4⟩ := hi.hp id _ hb
 let S2 : Nat → Prop := fun b => S b ∨ μ id = some b
 let μ2 : Nat → Option Nat := upd μ id none
 have hS : ∀ b, S b → S2 b := fun b h => .inl h
 have rd : ∀ {v : Value} {x : AV}, Rd μ S w v x → Rd μ2 S2 w v (frzM id kvs x) := by
  intro v x h
  induction h with
  | any v => exact .any v
  | pure h => rw [h.frzM_eq]; exact .pure (h.mono (SameOn.refl _ _) hS)
  | agg cs cells hl hr ih => simp only [frzM]; exact .agg cs _ (by rw [frzML_map, List.length_map]; exact hl) (frzM_list (R' := fun v x => Rd μ2 S2 w v x) (vals := fun j => cs.getD j undef) ih)
  | tup cs cells hl hr ih => simp only [frzM]; exact .tup cs _ (by rw [frzML_map, List.length_map]; exact hl) (frzM_list (R' := fun v x => Rd μ2 S2 w v x) (vals := fun j => cs.getD j undef) ih)
  | fn f vals cells hl hr ih => simp only [frzM]; exact .fn f vals _ (by rw [frzML_map, List.length_map]; exact hl) (frzM_list (R' := fun v x => Rd μ2 S2 w v x) (vals := fun j => vals.getD j undef) ih)
  | ptr i size row o g hg =>
   simp only [frzM]
   split
   ·exact .any _
   ·rename_i he
    exact .ptr i size row o g (by simp only [μ2, upd]; rw [if_neg he]; exact hg)
  | osl i size o len cap A hc h =>
   simp only [frzM]
   split
   ·exact .any _
   ·rename_i he
    refine .osl i size o len cap A hc ?_
    rcases h with h | ⟨g, e', n, h1, h2, h3, h4⟩
    ·exact .inl h
    ·exact .inr ⟨g, e', n, by simp only [μ2, upd]; rw [if_neg he]; exact h1, h2, h3, h4⟩
  | mp i g hg =>
   simp only [frzM]
   split
   ·rename_i he
    subst he
    rw [b1] at hg; injection hg with hg; subst hg
    exact .pure (.rm g0 es0 clk0 kvs vals0 (.inr b1) b2 b3 (fun p hp => (b4 p hp).mono (SameOn.refl _ _) hS))
   ·rename_i he
    exact .mp i g (by simp only [μ2, upd]; rw [if_neg he]; exact hg)
  | exs i size o len cap g e n hc hg hr hn =>
   simp only [frzM]
   split
   ·exact .any _
   ·rename_i he
    exact .exs i size o len cap g e n hc (by simp only [μ2, upd]; rw [if_neg he]; exact hg) hr hn
  | cndT v x h ih => exact .cndT v _ ih
  | cndF x => exact .cndF _
 have m2 : ∀ {i g}, μ2 i = some g → i ≠ id ∧ μ i = some g := fun {i g} hg => by
  simp only [μ2, upd] at hg
  split at hg
  ·cases hg
  ·exact ⟨by assumption, hg⟩
 refine ⟨by simp [hi.size], hi.defers, fun t x hx => ?_, fun i b hb' => ?_, fun i g hg => ?_, fun i j g h1 h2 => hi.inj i j g (m2 h1).2 (m2 h2).2, hi.frm, fun b hb' => ?_⟩
 ·simp only [List.getElem?_map] at hx
  cases e : l[t]? with
  | none => rw [e] at hx; cases hx
  | some y =>
   rw [e] at hx
   simp only [Option.map_some, Option.some.injEq] at hx
   subst hx
   exact rd (hi.tm t y e)
 ·simp only at hb'
  rw [hget_frzMH] at hb'
  split at hb'
  ·cases hb'
  ·rename_i he
   cases e1 : Yk H i with
   | none => rw [e1] at hb'; cases hb'
   | some b0 =>
    rw [e1] at hb'
    simp only [Option.map_some, Option.some.injEq] at hb'
    subst hb'
    have hμ : μ2 i = μ i := by simp only [μ2, upd]; rw [if_neg he]
    have := hi.hp i b0 e1
    cases b0 with
    | cells e' z R =>
     rcases this with ⟨rfl, h2⟩ | ⟨g, c, h1, h2, h3, h4, h5⟩
     ·exact .inl ⟨rfl, hμ.trans h2⟩
     ·refine .inr ⟨g, c, hμ.trans h1, h2, by simpa using h3, fun row hrow => ?_, fun i' row hi' j x hx => ?_⟩
      ·obtain ⟨r, hr, rfl⟩ := List.mem_map.1 hrow
       rw [frzML_map, List.length_map]; exact h4 r hr
      ·rw [List.getElem?_map] at hi'
       cases e2 : R[i']? with
       | none => rw [e2] at hi'; cases hi'
       | some r =>
        rw [e2] at hi'; simp only [Option.map_some, Option.some.injEq] at hi'; subst hi'
        exact frzM_list (R' := fun v x => Rd μ2 S2 w v x) (vals := fun j => c.getD (i' * z + j) undef) (fun j x hx => rd (h5 i' r e2 j x hx)) j x hx
    | map kvs =>
     obtain ⟨g, es, clk, vals, h1, h2, h3, h4⟩ := this
     exact ⟨g, es, clk, vals, hμ.trans h1, h2, h3, fun p hp' => (h4 p hp').mono (SameOn.refl _ _) hS⟩
    | iter kvs seen =>
     obtain ⟨g, es, clk, vals, had, h1, h2, h4⟩ := this
     obtain ⟨m, k1, k2, k3⟩ := h2.lies
     exact ⟨g, es, clk, vals, had, hμ.trans h1, ⟨⟨m, k1, hS _ k2, k3⟩, h2.map, h2.last, h2.had⟩, fun p hp' => (h4 p hp').mono (SameOn.refl _ _) hS⟩
    | cap k z N =>
     obtain ⟨h1, g, e, h2, h3⟩ := this
     simp only [frzMB]
     split
     ·exact .inl ⟨rfl, hμ.trans h1⟩
     ·rename_i hk
      refine ⟨hμ.trans h1, g, e, ?_, h3⟩
      simp only [upd]
      rw [if_neg hk]; exact h2
    | pin k g z N =>
     obtain ⟨h1, h2, h3⟩ := this
     simp only [frzMB]
     split
     ·exact .inl ⟨rfl, hμ.trans h1⟩
     ·rename_i hk
      refine ⟨hμ.trans h1, ?_, h3⟩
      simp only [upd]
      rw [if_neg hk]; exact h2
 ·obtain ⟨k1, k2⟩ := m2 hg
  obtain ⟨⟨b, h1⟩, h2, h3, h4⟩ := hi.dom i g k2
  refine ⟨⟨frzMB id kvs b, ?_⟩, h2, ?_, h4⟩
  ·simp only at h1 ⊢
   rw [hget_frzMH, if_neg k1, h1]; rfl
  ·rintro (h | h)
   ·exact h3 h
   ·exact k1 (hi.inj _ _ _ k2 h)
 ·rcases hb' with h | h
  ·exact hi.sb b h
  ·obtain ⟨_, h2, _, h4⟩ := hi.dom id b h
   exact ⟨h4, .inr h2⟩
theorem cw_freezeM {k : List It} {l : List AV} {H : List (Nat × Blk)} (id : Nat) {kvs : List (Int × AV)} (hb : Yk H id = some (.map kvs)) (h : Cw P C Ret k ⟨l.map (frzM id kvs), frzMH id kvs H⟩) : Cw P C Ret k ⟨l, H⟩ :=
 Yl (fun _ _ ⟨_, _, hi⟩ => ⟨_, _, inv_freezeM hb hi⟩) h
attribute [go_sem] frzM frzML frzMB frzMH
theorem cw_range (hT : TabOK P T) {k : List It} {all : Array Oper} {o : Oper} {l : List Oper} {t : TypeId} {x : Operand} {d : Nat} (ho : o.op = .range t x) (hd : o.dst = some d) (hg : o.guard = none) {kt et : TypeId} (ht : T.und t = .map kt et) {kvs : List (Int × AV)}
  (hx : evS σ x = (True, .rm kvs)) (hf : Yk σ.hp d = none) (h : Cw P C Ret (.ops all l :: k) ⟨σ.tm.set d (.ptr d 1 0 0), (d, .iter kvs []) :: σ.hp⟩) : Cw P C Ret (.ops all (o :: l) :: k) σ := by
 refine cw_step (by rw [hg]; rfl) (fun a w K Q ⟨μ, S, hi⟩ hK => ?_) h
 have hv := hi.evS x (by rw [hx]; trivial)
 rw [hx] at hv
 obtain ⟨g, es, clk, vals, hv', h1, h2, h3, h4⟩ := (Rd.inv_rm hv).inv_rm
 have hty : P.underlying t = some (.map kt et) := by have := hT.und t; rw [ht] at this; exact this
 have hax : a.eval x = .map (some g) := hv'
 have hrun : (execOp a.eval o).run P w = .ok (.value (.pointer (some ⟨w.heap.size, 0, none⟩))) (w.alloc (.mapIter (some g) clk #[] clk)) := by
  simp [execOp, ho, hax, run_range_map w t kt et g es clk hty h2]
 unfold Oper.wp
 rw [hrun]
 have hlt := (hi.sb g h1).1
 have hnew := hi.new d hf (.mapIter (some g) clk #[] clk) (.iter kvs []) ⟨w.heap.size, es, clk, vals, #[], by simp [upd], ⟨⟨g, alloc_new w _, h1, by rw [alloc_get w _ g hlt]; exact h2⟩, h3, fun k r h => (by cases h), fun e he k hk => by simp⟩,
  fun p hp => (h4 p hp).mono (fun b hb => alloc_get w _ b (hi.sb b hb).1) (fun _ h => h)⟩
 have hput := hnew.put o.dst (u := .pointer (some ⟨w.heap.size, 0, none⟩)) (x := .ptr d 1 0 0) (by
  have := Rd.ptr (μ := upd μ d (some w.heap.size)) (S := S) (w := w.alloc (.mapIter (some g) clk #[] clk)) d 1 0 0 w.heap.size (by simp [upd])
  simpa using this)
 rw [hd] at hput
 refine hK _ _ ⟨upd μ d (some w.heap.size), S, ?_⟩
 rw [hd]
 exact hput
theorem run_next_at {g bm since c0 : Nat} {seen : Array Nat} {es : Array MapEntry} {clock : Nat} (ty : TypeId) (hg : w.heap[g]? = some (.mapIter (some bm) since seen c0)) (hb : w.heap[bm]? = some (.map es clock)) (hold : ∀ x ∈ es.toList, x.born < since) (hsc : since ≤ c0) :
  ((leftOf es seen).size = 0 ∧ (Instr.next (.pointer (some ⟨g, 0, none⟩)) false ty).run P w = .ok (.tuple #[.bool false]) w) ∨
  ∃ e ∈ (leftOf es seen).toList, ∃ w1 : World, (w1 = w ∨ w1 = w.drew) ∧ (Instr.next (.pointer (some ⟨g, 0, none⟩)) false ty).run P w =
   ((setObj g (.mapIter (some bm) since (seen.push e.born) clock)).run P w1).andThen (fun _ w' => .ok (.tuple #[.bool true, e.key, e.val]) w') := by
 simp only [Instr.next, getObj, Sem.run_bind, Sem.run, hg, hb, Result.andThen, next_test_false seen es since c0 hold hsc, Bool.false_eq_true, if_false]
 unfold leftOf
 have hmem : ∀ x ∈ (Array.filter (fun e => !seen.contains e.born) es).toList, x.born < since := fun x hx => hold x (by simp at hx ⊢; exact hx.1)
 generalize Array.filter (fun e => !seen.contains e.born) es = L at hmem ⊢
 have e1 : L.filter (fun x => decide (x.born < since)) = L := Array.filter_eq_self.2 (fun x hx => by simpa using hmem x (by simpa using hx))
 have e2 : L.filter (fun x => decide (x.born ≥ since)) = #[] := by
  rw [Array.filter_eq_empty_iff]
  intro x hx
  have := hmem x (by simpa using hx)
  simp
  omega
 simp only [e1, e2, Array.append_empty]
 by_cases h0 : L.size = 0
 ·left
  have : L = #[] := Array.eq_empty_of_size_eq_zero h0
  subst this
  refine ⟨rfl, ?_⟩
  simp [choose, Sem.run, Question.forced]
 ·right
  have hne : L.isEmpty = false := by simp [Array.isEmpty, h0]
  simp only [hne, Bool.false_eq_true, if_false, Array.empty_append, Array.size_map]
  have hch : ∃ (j : Nat) (w1 : World), j < L.size ∧ (w1 = w ∨ w1 = w.drew) ∧ (choose (Question.mapNext L.size)).run P w = .ok j w1 := by
   by_cases hf : L.size ≤ 1
   ·exact ⟨0, w, by omega, .inl rfl, by simp [choose, Sem.run, Question.forced, hf]⟩
   ·exact ⟨_, w.drew, Nat.mod_lt _ (by omega), .inr rfl, by
     simp only [choose, Sem.run, Question.forced, decide_eq_true_eq, hf, if_false, Question.cut]
     rfl⟩
  obtain ⟨j, w1, hj, hw1, hrun⟩ := hch
  refine ⟨L[j], by simp, w1, hw1, ?_⟩
  simp only [hrun, Array.getElem?_map, Array.getElem?_eq_getElem hj, Option.map_some, Sem.run_bind, Result.andThen]
  rfl
theorem cw_next {k : List It} {all : Array Oper} {o : Oper} {l : List Oper} {x : Operand} {d : Nat} (ho : o.op = .next x false) (hg : o.guard = none) {kvs : List (Int × AV)} {seen : List Int}
  (hx : evS σ x = (True, .ptr d 1 0 0)) (hb : Yk σ.hp d = some (.iter kvs seen)) (h1 : (∀ p, p ∈ kvs → p.1 ∈ seen) → Cw P C Ret (.ops all l :: k) (σ.put o.dst (.tup [.bool false])))
  (h2 : ∀ n v, (n, v) ∈ kvs → n ∉ seen → Cw P C Ret (.ops all l :: k) (St.put ⟨σ.tm, Zh σ.hp d (.iter kvs (n :: seen))⟩ o.dst (.tup [.bool true, .int .i64 n, v]))) : Cw P C Ret (.ops all (o :: l) :: k) σ := by
 intro a w hrel
 show wpList P all _ (o :: l) a w
 unfold wpList
 obtain ⟨μ, S, hi⟩ := hrel
 rw [Zw hi (c := true) (by rw [hg]; rfl)]
 refine .inl ?_
 have hv := hi.evS x (by rw [hx]; trivial)
 rw [hx] at hv
 obtain ⟨g, hμ, hax⟩ := hv.inv_ptr
 obtain ⟨g', es, clk, vals, had, q1, q2, q3⟩ := hi.hp d _ hb
 rw [hμ] at q1; injection q1 with q1; subst q1
 obtain ⟨m, k1, k2, k3⟩ := q2.lies
 have hax' : a.eval x = .pointer (some ⟨g, 0, none⟩) := by simpa using hax
 have hcase := run_next_at (P := P) o.type k1 k3 (fun e he => q2.map.born e he) (Nat.le_refl _)
 unfold Oper.wp
 rcases hcase with ⟨c1, c2⟩ | ⟨e, c1, w1, c2, c3⟩
 ·have hrun : (execOp a.eval o).run P w = .ok (.value (.tuple #[.bool false])) w := by
   simp [execOp, ho, hax', c2]
  rw [hrun]
  refine h1 (fun p hp => ?_) _ _ ⟨μ, S, hi.put o.dst (.tup _ _ rfl fun j y hy => ?_)⟩
  ·obtain ⟨e, he, hk⟩ := q2.map.has p hp
   refine (q2.had e he p.1 hk).1 ?_
   cases hc : had.contains e.born with
   | true => rfl
   | false =>
    have : e ∈ (leftOf es had).toList := by unfold leftOf; simp at he hc ⊢; exact ⟨he, by simpa using hc⟩
    rw [Array.eq_empty_of_size_eq_zero c1] at this
    simp at this
  ·match j, hy with
   | 0, hy => injection hy with hy; subst hy; exact .pure (.bool false)
   | j + 1, hy => simp at hy
 ·have he : e ∈ es.toList ∧ had.contains e.born = false := by unfold leftOf at c1; simpa using c1
  obtain ⟨n, v, e1, e2, e3⟩ := q2.map.key e he.1
  have hn : n ∉ seen := fun hm => by rw [(q2.had e he.1 n e1).2 hm] at he; cases he.2
  have hi1 : Inv C μ S σ a w1 := by
   rcases c2 with rfl | rfl
   ·exact hi
   ·exact hi.drew
  have hh1 : w1.heap = w.heap := by rcases c2 with rfl | rfl <;> rfl
  have hw1 : w1.heap[g]? = some (.mapIter (some m) clk had clk) := by rw [hh1]; exact k1
  obtain ⟨w', r1, r2, r3, r4, r5, r6, r7⟩ := run_setObj (P := P) (o := .mapIter (some m) clk (had.push e.born) clk) hw1 (fun _ _ _ h => nomatch h)
  have hrun : (execOp a.eval o).run P w = .ok (.value (.tuple #[.bool true, e.key, e.val])) w' := by
   rw [r1] at c3
   simp [execOp, ho, hax', c3]
  rw [hrun]
  have hS : ¬ S g := (hi.dom d g hμ).2.2.1
  have hw : SameOn S w w' := fun b hb => by rw [r6 b (by rintro rfl; exact hS hb), hh1]
  have hmg : m ≠ g := by rintro rfl; exact hS k2
  have hnd : (es.toList.map (·.key)).Nodup := q2.map.once
  have hblk : BlkOK μ S w' d (.iter kvs (n :: seen)) := by
   refine ⟨g, es, clk, vals, had.push e.born, hμ, ⟨⟨m, r7, k2, by rw [r6 m hmg, hh1]; exact k3⟩, q2.map, fun k' r' hkr => ?_, fun e' he' k' hk' => ?_⟩, fun p hp => (q3 p hp).mono hw (fun _ h => h)⟩
   ·injection hkr with h1 h2
    subst h1
    exact ⟨e, he.1, e1, by simp⟩
   ·rw [List.mem_cons]
    have h0 := q2.had e' he' k' hk'
    have hc : (had.push e.born).contains e'.born = (had.contains e'.born || e'.born == e.born) := by
     rw [Bool.eq_iff_iff]; simp
    rw [hc, Bool.or_eq_true, h0, beq_iff_eq]
    constructor
    ·rintro (h | h)
     ·exact .inr h
     ·left
      -- one stamp, one entry
      have : e' = e := by
       have hb := q2.map.nodup
       obtain ⟨i, hi⟩ := List.getElem?_of_mem he'
       obtain ⟨j, hj⟩ := List.getElem?_of_mem he.1
       have h1 : (es.toList.map (·.born))[i]? = some e.born := by rw [List.getElem?_map, hi, ← h]; rfl
       have h2 : (es.toList.map (·.born))[j]? = some e.born := by rw [List.getElem?_map, hj]; rfl
       have := nodup_idx hb h1 h2
       subst this
       rw [hi] at hj; injection hj
      subst this
      rw [e1] at hk'
      injection hk' with _ hk'
      exact hk'.symm
    ·rintro (h | h)
     ·right
      subst h
      have : e' = e := by
       obtain ⟨i, hi⟩ := List.getElem?_of_mem he'
       obtain ⟨j, hj⟩ := List.getElem?_of_mem he.1
       have h1 : (es.toList.map (·.key))[i]? = some (.int .i64 k') := by rw [List.getElem?_map, hi, ← hk']; rfl
       have h2 : (es.toList.map (·.key))[j]? = some (.int .i64 k') := by rw [List.getElem?_map, hj, ← e1]; rfl
       have := nodup_idx hnd h1 h2
       subst this
       rw [hi] at hj; injection hj
      rw [this]
     ·exact .inl h
  have hi2 := hi1.write d g hμ r2 r3 r4 r5 r6 (by simp [Yr, r7, hw1]) _ hblk
  refine h2 n v e2 hn _ _ ⟨μ, S, Inv.put hi2 o.dst (.tup _ _ rfl fun j y hy => ?_)⟩
  match j, hy with
  | 0, hy => injection hy with hy; subst hy; exact .pure (.bool true)
  | 1, hy =>
   injection hy with hy; subst hy
   show Rd μ S w' e.key (.int .i64 n)
   rw [e1]; exact .pure (.int .i64 n)
  | 2, hy =>
   injection hy with hy; subst hy
   show Rd μ S w' e.val v
   rw [e3]; exact .pure ((q3 (n, v) e2).mono hw (fun _ h => h))
  | j + 3, hy => simp at hy
theorem cw_entry {k : List It} {all : Array Oper} {o : Oper} {l : List Oper} {x : Operand} {d : Nat} (ho : o.op = .entry x) (hg : o.guard = none) {kvs : List (Int × AV)} {n : Int} {seen : List Int} {v : AV}
  (hx : evS σ x = (True, .ptr d 1 0 0)) (hb : Yk σ.hp d = some (.iter kvs (n :: seen))) (hv : (n, v) ∈ kvs) (h : Cw P C Ret (.ops all l :: k) (σ.put o.dst (.tup [.int .i64 n, v]))) : Cw P C Ret (.ops all (o :: l) :: k) σ := by
 refine cw_step (by rw [hg]; rfl) (fun a w K Q ⟨μ, S, hi⟩ hK => ?_) h
 have hvx := hi.evS x (by rw [hx]; trivial)
 rw [hx] at hvx
 obtain ⟨g, hμ, hax⟩ := hvx.inv_ptr
 obtain ⟨g', es, clk, vals, had, q1, q2, q3⟩ := hi.hp d _ hb
 rw [hμ] at q1; injection q1 with q1; subst q1
 obtain ⟨m, k1, k2, k3⟩ := q2.lies
 have hax' : a.eval x = .pointer (some ⟨g, 0, none⟩) := by simpa using hax
 obtain ⟨e, he, hk, hl⟩ := q2.last n seen rfl
 have hf : es.find? (·.born == e.born) = some e := by rw [← Array.find?_toList]; exact find_born e es.toList q2.map.nodup he
 have hrun : (execOp a.eval o).run P w = .ok (.value (.tuple #[e.key, e.val])) w := by
  have h0 : (Instr.entry (.pointer (some ⟨g, 0, none⟩))).run P w = .ok (.tuple #[e.key, e.val]) w := by
   simp only [Instr.entry, getObj, Sem.run_bind, Sem.run, k1, k3, Result.andThen, hl, bne_self_eq_false, Bool.false_eq_true, if_false, hf]
   rfl
  simp [execOp, ho, hax', h0]
 unfold Oper.wp
 rw [hrun]
 obtain ⟨n', v', e1, e2, e3⟩ := q2.map.key e he
 rw [hk] at e1; injection e1 with _ e1; subst e1
 have hvv : v' = v := by
  have h1 := mget_of_mem q2.map.rise e2
  have h2 := mget_of_mem q2.map.rise hv
  rw [h1] at h2; injection h2
 subst hvv
 refine hK _ _ ⟨μ, S, hi.put o.dst (.tup _ _ rfl fun j y hy => ?_)⟩
 match j, hy with
 | 0, hy =>
  injection hy with hy; subst hy
  show Rd μ S w e.key (.int .i64 n)
  rw [hk]; exact .pure (.int .i64 n)
 | 1, hy =>
  injection hy with hy; subst hy
  show Rd μ S w e.val v'
  rw [e3]; exact .pure (q3 (n, v') e2)
 | j + 2, hy => simp at hy
end
end Go.Eng
namespace Go.Eng
section
variable {P : Program} {T : Tab} {C : Ctx} {σ σ' : St} {Ret : St → Prop}
section
variable {k k' : List It} {p : Prop}
theorem wG (hT : TabOK P T) (hk : Cw P C Ret k' σ') (h : go T 99 k σ = some (p, k', σ') := by simp only [go_sem]; try exact rfl) (hp : p := by simp [go_sem]) : Cw P C Ret k σ := cw_go hT 99 h hp hk
theorem wGq (hT : TabOK P T) (hp : p) (hk : Cw P C Ret k' σ') (h : go T 99 k σ = some (p, k', σ') := by simp only [go_sem]; try exact rfl) : Cw P C Ret k σ := cw_go hT 99 h hp hk
theorem wR (hk : Cw P C Ret k' σ) (h : goR 99 k = some k' := by simp only [go_sem]; try exact rfl) : Cw P C Ret k σ := cw_goR 99 h hk
variable {c : Operand} {x y : Code} {b : Bool}
theorem wD (ht : b = true → Cw P C Ret (.code x :: k) σ) (hf : b = false → Cw P C Ret (.code y :: k) σ) (h : evS σ c = (p, .bool b) := by simp only [go_sem]; try exact rfl) (hp : p := by trivial) : Cw P C Ret (.code (.cond c x y) :: k) σ := cw_cond h hp ht hf
theorem wDT (h : evS σ c = (p, .bool b) := by simp only [go_sem]; try exact rfl) (hp : p := by trivial) (hb : b = true) (hk : Cw P C Ret (.code x :: k) σ) : Cw P C Ret (.code (.cond c x y) :: k) σ := cw_condT h hp hb hk
theorem wDF (h : evS σ c = (p, .bool b) := by simp only [go_sem]; try exact rfl) (hp : p := by trivial) (hb : b = false) (hk : Cw P C Ret (.code y :: k) σ) : Cw P C Ret (.code (.cond c x y) :: k) σ := cw_condF h hp hb hk
theorem wN (hT : TabOK P T) (n : Nat) {all : Array Oper} {l l1 l2 : List Oper} (hk : Cw P C Ret (.ops all l2 :: k) σ') (h1 : l.take n = l1 := by simp only [go_sem]; exact rfl) (h2 : l.drop n = l2 := by simp only [go_sem]; exact rfl)
  (h : runL T all l1 σ = some (p, [], σ') := by simp only [go_sem]; try exact rfl) (hp : p := by simp [go_sem]) : Cw P C Ret (.ops all l :: k) σ := cw_runN hT n h1 h2 h hp hk
theorem wNq (hT : TabOK P T) (n : Nat) {all : Array Oper} {l l1 l2 : List Oper} (hp : p) (hk : Cw P C Ret (.ops all l2 :: k) σ') (h1 : l.take n = l1 := by simp only [go_sem]; exact rfl) (h2 : l.drop n = l2 := by simp only [go_sem]; exact rfl)
  (h : runL T all l1 σ = some (p, [], σ') := by simp only [go_sem]; try exact rfl) : Cw P C Ret (.ops all l :: k) σ := cw_runN hT n h1 h2 h hp hk
variable {all : Array Oper} {o : Oper} {l : List Oper} {args : Array Operand} {ats : Array TypeId} {f : FuncId} {fn : Func} {xs : List AV} {r : AV}
theorem wC (F : P.funcs[f]? = some fn) (ho : o.op = .call { callee := .value c, args, argTypes := ats } := by rfl) (hg : o.guard = none := by rfl) (h : Yc σ c args.toList = some (p, f, xs) := by simp only [go_sem]; try exact rfl) (hp : p := by simp [go_sem]) (c1 : (fn.name == "runtime.NumGoroutine") = false := by kernel_rfl) (c2 : fn.body.isSome = true := by rfl) (hx : refsL xs = [] := by simp [go_sem]) (hf : FnOK P f xs [] fun r' _ => r' = r) (hr : refs r = [] := by simp [go_sem]) (ha : σ.put o.dst r = σ' := by simp only [go_sem]; exact rfl) (hk : Cw P C Ret (.ops all l :: k) σ') : Cw P C Ret (.ops all (o :: l) :: k) σ := cw_call ho hg h hp ⟨fn, F, c1, c2⟩ hx hf hr ha hk
theorem wCC {b : Bool} (F : P.funcs[f]? = some fn) (ho : o.op = .call { callee := .value c, args, argTypes := ats } := by rfl) (hg : Yo all σ o.guard = some b := by simp only [go_sem]; try exact rfl) (h : Yc σ c args.toList = some (p, f, xs) := by simp only [go_sem]; try exact rfl) (hp : b = true → p := by simp [go_sem]) (c1 : (fn.name == "runtime.NumGoroutine") = false := by kernel_rfl) (c2 : fn.body.isSome = true := by rfl) (hx : refsL xs = [] := by simp [go_sem]) (hf : b = true → FnOK P f xs [] fun r' _ => r' = r) (hr : refs r = [] := by simp [go_sem]) (ha : σ.put o.dst (.cnd b r) = σ' := by simp only [go_sem]; exact rfl) (hk : Cw P C Ret (.ops all l :: k) σ') : Cw P C Ret (.ops all (o :: l) :: k) σ := cw_callC ho hg h hp ⟨fn, F, c1, c2⟩ hx hf hr ha hk
theorem wV {q : Prop} {ys : List AV} (F : P.funcs[f]? = some fn) (ho : o.op = .call { callee := .value c, args, argTypes := ats } := by rfl) (hg : o.guard = none := by rfl) (h : Yc σ c args.toList = some (p, f, xs) := by simp only [go_sem]; try exact rfl) (hp : p := by simp [go_sem]) (hv : viewL σ.hp xs = some (q, ys) := by simp only [go_sem]; try exact rfl) (hq : q := by simp [go_sem]) (c1 : (fn.name == "runtime.NumGoroutine") = false := by kernel_rfl) (c2 : fn.body.isSome = true := by rfl) (hf : FnOK P f ys [] fun r' _ => r' = r) (hr : r.scalar = true := by simp [go_sem]) (ha : σ.put o.dst r = σ' := by simp only [go_sem]; exact rfl) (hk : Cw P C Ret (.ops all l :: k) σ') : Cw P C Ret (.ops all (o :: l) :: k) σ := cw_view ho hg h hp hv hq ⟨fn, F, c1, c2⟩ hf hr ha hk
theorem wCG (ids : List Nat) (off : Nat) {H K : List (Nat × Blk)} (F : P.funcs[f]? = some fn) (ho : o.op = .call { callee := .value c, args, argTypes := ats } := by rfl) (hg : o.guard = none := by rfl) (h : Yc σ c args.toList = some (p, f, xs) := by simp only [go_sem]; try exact rfl) (hp : p := by simp [go_sem]) (c1 : (fn.name == "runtime.NumGoroutine") = false := by kernel_rfl) (c2 : fn.body.isSome = true := by rfl) (hH : sub ids σ.hp = H := by simp only [go_sem, Bool.false_or, Bool.or_true, Bool.true_or, if_true]; try exact rfl) (hf : FnOK P f xs H fun r' H' => r' = r ∧ ∀ id b, Yk K id = some b → Yk H' id = some b) (hck : (refsL xs).all ids.contains = true := by simp [go_sem]) (hc1 : (H.all fun p => (refsB p.2).all ids.contains) = true := by simp [go_sem]) (hc2 : ((del ids σ.hp).all fun p => (refsB p.2).all fun i => !ids.contains i) = true := by simp [go_sem]) (hc3 : closed K (refs r) = true := by simp only [go_sem]) (hc4 : (K.all fun p => (Yk σ.hp (p.1 + off)).isNone) = true := by simp [go_sem]) (hτ : (⟨σ.tm.map (killL ids), renH off K ++ del ids σ.hp⟩ : St).put o.dst (ren off r) = σ' := by simp only [go_sem, Bool.false_or, Bool.or_true, Bool.true_or, Bool.or_false, ↓reduceIte]; exact rfl) (hk : Cw P C Ret (.ops all l :: k) σ') : Cw P C Ret (.ops all (o :: l) :: k) σ :=
 cw_callG ids off ho hg h hp ⟨fn, F, c1, c2⟩ hH hf hck hc1 hc2 hc3 hc4 hτ hk
theorem wTP (ids : List Nat) {H K : List (Nat × Blk)} (F : P.funcs[f]? = some fn) (ho : o.op = .call { callee := .value c, args, argTypes := ats } := by rfl) (h : Yc σ c args.toList = some (p, f, xs) := by simp only [go_sem]; try exact rfl) (hp : p := by simp [go_sem]) (c1 : (fn.name == "runtime.NumGoroutine") = false := by kernel_rfl) (c2 : fn.body.isSome = true := by rfl) (hH : sub ids σ.hp = H := by simp only [go_sem, Bool.false_or, Bool.or_true, Bool.true_or, Bool.or_false, ↓reduceIte]; try exact rfl) (hck : ((refsL xs).all ids.contains && (refs r).all ids.contains && ids.all (fun i => decide (i < 5000) && (Yk K i).isSome) && K.all (fun q => ids.contains q.1)) = true := by simp [go_sem]) (hnd : (K.map (·.1)).Nodup := by simp) (hpin : (ids.all fun i => match Yk H i with | some b => pinnable b | none => false) = true := by simp [go_sem]) (hc1 : (H.all fun q => (refsB q.2).all ids.contains) = true := by simp [go_sem]) (hc2 : (K.all fun q => (refsB q.2).all ids.contains) = true := by simp [go_sem]) (hf : ∀ G Y N : Nat → Nat, FnOK P f xs (H ++ Yx ids G Y N) fun r' H' => r' = r ∧ ∀ i b, Yk (K ++ Yx ids G Y N) i = some b → Yk H' i = some b) (hτ : (⟨σ.tm, hsetAll σ.hp K⟩ : St).put o.dst r = σ' := by simp only [go_sem, Bool.false_or, Bool.or_true, Bool.true_or, Bool.or_false, ↓reduceIte]; exact rfl) : Trip P C o σ σ' := trip_callP ho h hp ⟨fn, F, c1, c2⟩ ids hH hck hnd hpin hc1 hc2 hf hτ
theorem wP (ids : List Nat) {H K : List (Nat × Blk)} (F : P.funcs[f]? = some fn) (hg : Yo all σ o.guard = some true := by rfl) (ho : o.op = .call { callee := .value c, args, argTypes := ats } := by rfl) (h : Yc σ c args.toList = some (p, f, xs) := by simp only [go_sem]; try exact rfl) (hp : p := by simp [go_sem]) (c1 : (fn.name == "runtime.NumGoroutine") = false := by kernel_rfl) (c2 : fn.body.isSome = true := by rfl) (hH : sub ids σ.hp = H := by simp only [go_sem, Bool.false_or, Bool.or_true, Bool.true_or, Bool.or_false, ↓reduceIte]; try exact rfl) (hck : ((refsL xs).all ids.contains && (refs r).all ids.contains && ids.all (fun i => decide (i < 5000) && (Yk K i).isSome) && K.all (fun q => ids.contains q.1)) = true := by simp [go_sem]) (hnd : (K.map (·.1)).Nodup := by simp) (hpin : (ids.all fun i => match Yk H i with | some b => pinnable b | none => false) = true := by simp [go_sem]) (hc1 : (H.all fun q => (refsB q.2).all ids.contains) = true := by simp [go_sem]) (hc2 : (K.all fun q => (refsB q.2).all ids.contains) = true := by simp [go_sem]) (hf : ∀ G Y N : Nat → Nat, FnOK P f xs (H ++ Yx ids G Y N) fun r' H' => r' = r ∧ ∀ i b, Yk (K ++ Yx ids G Y N) i = some b → Yk H' i = some b) (hτ : (⟨σ.tm, hsetAll σ.hp K⟩ : St).put o.dst r = σ' := by simp only [go_sem, Bool.false_or, Bool.or_true, Bool.true_or, Bool.or_false, ↓reduceIte]; exact rfl) (hk : Cw P C Ret (.ops all l :: k) σ') : Cw P C Ret (.ops all (o :: l) :: k) σ := cw_step hg (trip_callP ho h hp ⟨fn, F, c1, c2⟩ ids hH hck hnd hpin hc1 hc2 hf hτ) hk
end
section
variable {ops : Array Oper} {Q : Exit → Go.Act → World → Prop} {k n : Nat} {acc : Skel} {o : Oper} {l l' : List Oper} {p : Prop} {ps : List Sp} {sk : Skel} {s1 : List Loc × List Loc}
theorem sN (hT : TabOK P T) (m : Nat) {l1 l2 : List Oper} (hk : SegFrom P C ops Q k n (acc ++ sk) l2 σ') (h1 : l.take m = l1 := by simp only [go_sem]; exact rfl) (h2 : l.drop m = l2 := by simp only [go_sem]; exact rfl)
  (h : runD T ops l1 σ = some (p, ps, [], σ') := by simp only [go_sem]; try exact rfl) (hp : p := by simp [go_sem]) (hs : skel ps = sk := by simp only [go_sem]; exact rfl) : SegFrom P C ops Q k n acc l σ := seg_runN hT m h1 h2 h hp hs hk
theorem sNq (hT : TabOK P T) (m : Nat) {l1 l2 : List Oper} (hp : p) (hk : SegFrom P C ops Q k n (acc ++ sk) l2 σ') (h1 : l.take m = l1 := by simp only [go_sem]; exact rfl) (h2 : l.drop m = l2 := by simp only [go_sem]; exact rfl)
  (h : runD T ops l1 σ = some (p, ps, [], σ') := by simp only [go_sem]; try exact rfl) (hs : skel ps = sk := by simp only [go_sem]; exact rfl) : SegFrom P C ops Q k n acc l σ := seg_runN hT m h1 h2 h hp hs hk
theorem sG (hT : TabOK P T) (hk : SegFrom P C ops Q k n (acc ++ sk) l' σ') (h : runD T ops l σ = some (p, ps, l', σ') := by simp only [go_sem]; try exact rfl) (hp : p := by simp [go_sem]) (hs : skel ps = sk := by simp only [go_sem]; exact rfl) : SegFrom P C ops Q k n acc l σ := seg_run hT h hp hs hk
theorem sE {j : Nat} (h : DrawOK P C ops Q j σ) (hc : (segOK ops k acc && dstOK n acc) = true := by kernel_rfl) (hj : k + acc.length = j := by simp only [go_sem]; exact rfl) : SegFrom P C ops Q k n acc l σ := seg_end hc hj h
theorem sS (hk : SegFrom P C ops Q k n (acc ++ [s1]) l σ') (hg : Yo ops σ o.guard = some false := by simp only [go_sem]; try exact rfl) (hs : ((⟨o.dst, .cnd false .any, [], locsG ops o.guard ++ []⟩ : Sp).wr, locsG ops o.guard) = s1 := by simp only [go_sem]; exact rfl)
  (ha : σ.put o.dst (.cnd false .any) = σ' := by simp only [go_sem]; exact rfl) : SegFrom P C ops Q k n acc (o :: l) σ := seg_skip .any hg hs ha hk
theorem sSB (hk : SegFrom P C ops Q k n (acc ++ [s1]) l σ') (hg : Yo ops σ o.guard = some false := by simp only [go_sem]; try exact rfl) (hs : ((⟨o.dst, .cnd false (.bool false), [], locsG ops o.guard ++ []⟩ : Sp).wr, locsG ops o.guard) = s1 := by simp only [go_sem]; exact rfl)
  (ha : σ.put o.dst (.cnd false (.bool false)) = σ' := by simp only [go_sem]; exact rfl) : SegFrom P C ops Q k n acc (o :: l) σ := seg_skip (.bool false) hg hs ha hk
variable {c : Operand} {args : Array Operand} {ats : Array TypeId} {f : FuncId} {fn : Func} {xs : List AV} {r : AV}
theorem sC (F : P.funcs[f]? = some fn) (ho : o.op = .call { callee := .value c, args, argTypes := ats } := by rfl) (hg : o.guard = none := by rfl) (h : Yc σ c args.toList = some (p, f, xs) := by simp only [go_sem]; try exact rfl) (hp : p := by simp [go_sem]) (c1 : (fn.name == "runtime.NumGoroutine") = false := by kernel_rfl) (c2 : fn.body.isSome = true := by rfl) (hx : refsL xs = [] := by simp [go_sem]) (hf : FnOK P f xs [] fun r' _ => r' = r) (hr : refs r = [] := by simp [go_sem]) (hs : ((spCall ops σ o c args.toList r).wr, (spCall ops σ o c args.toList r).rd) = s1 := by simp only [go_sem]; exact rfl) (ha : σ.put o.dst r = σ' := by simp only [go_sem]; exact rfl) (hk : SegFrom P C ops Q k n (acc ++ [s1]) l σ') : SegFrom P C ops Q k n acc (o :: l) σ := seg_call ho hg h hp ⟨fn, F, c1, c2⟩ hx hf hr hs ha hk
theorem sCC {b : Bool} (F : P.funcs[f]? = some fn) (ho : o.op = .call { callee := .value c, args, argTypes := ats } := by rfl) (hg : Yo ops σ o.guard = some b := by simp only [go_sem]; try exact rfl) (h : Yc σ c args.toList = some (p, f, xs) := by simp only [go_sem]; try exact rfl) (hp : b = true → p := by simp [go_sem]) (c1 : (fn.name == "runtime.NumGoroutine") = false := by kernel_rfl) (c2 : fn.body.isSome = true := by rfl) (hx : refsL xs = [] := by simp [go_sem]) (hf : b = true → FnOK P f xs [] fun r' _ => r' = r) (hr : refs r = [] := by simp [go_sem]) (hs : ((spCall ops σ o c args.toList (.cnd b r)).wr, (spCall ops σ o c args.toList (.cnd b r)).rd) = s1 := by simp only [go_sem]; exact rfl) (ha : σ.put o.dst (.cnd b r) = σ' := by simp only [go_sem]; exact rfl) (hk : SegFrom P C ops Q k n (acc ++ [s1]) l σ') : SegFrom P C ops Q k n acc (o :: l) σ := seg_callC ho hg h hp ⟨fn, F, c1, c2⟩ hx hf hr hs ha hk
theorem sW (hT : TabOK P T) {d : Nat} {b : Blk} {x : AV} (hk : SegFrom P C ops Q k n (acc ++ [s1]) l σ') (hd : o.dst = some d := by rfl) (hg : Yo ops σ o.guard = some true := by simp only [go_sem]; try exact rfl) (h : newOp T σ d o.op = some (p, b, x) := by simp only [go_sem]; try exact rfl) (hp : p := by simp [go_sem])
  (hf : Yk σ.hp d = none := by simp only [go_sem]; try exact rfl) (hs : ([Loc.tm d, Loc.blk d], locsG ops o.guard ++ locsL σ o.op.operands.toList) = s1 := by simp only [go_sem]; exact rfl) (ha : St.put ⟨σ.tm, (d, b) :: σ.hp⟩ (some d) x = σ' := by simp only [go_sem]; exact rfl) :
  SegFrom P C ops Q k n acc (o :: l) σ := seg_new hT hd hg h hp hf hs ha hk
theorem sB (hT : TabOK P T) {t : TypeId} {parts : Array (Nat × Operand)} {b : Bool} {x y : AV} (hk : SegFrom P C ops Q k n (acc ++ [s1]) l σ') (ho : o.op = .build t parts := by rfl) (hg : Yo ops σ o.guard = some b := by simp only [go_sem]; try exact rfl) (h : buildAV T σ t parts.toList = some (p, x) := by simp only [go_sem]; try exact rfl)
  (hp : b = true → p := by simp [go_sem]) (hy : (bif b then x else .cnd false x) = y := by simp only [go_sem, cond_true, cond_false]; exact rfl) (hs : ((Sp.mk o.dst y [] (locsG ops o.guard ++ locsL σ (parts.toList.map (·.2)))).wr, locsG ops o.guard ++ locsL σ (parts.toList.map (·.2))) = s1 := by simp only [go_sem]; exact rfl)
  (ha : σ.put o.dst y = σ' := by simp only [go_sem]; exact rfl) : SegFrom P C ops Q k n acc (o :: l) σ := seg_build hT ho hg h hp hy hs ha hk
theorem sT (hT : TabOK P T) {t : TypeId} {x y : Operand} {id size row off : Nat} {q : Prop} {v : AV} {H : List (Nat × Blk)} {b : Blk} (hk : SegFrom P C ops Q k n (acc ++ [s1]) l σ') (ho : o.op = .store t x y := by rfl) (hd : o.dst = none := by rfl) (hg : Yo ops σ o.guard = some true := by simp only [go_sem]; try exact rfl)
  (hx : evS σ x = (True, .ptr id size row off) := by simp only [go_sem]; try exact rfl) (hy : evS σ y = (q, v) := by simp only [go_sem]; try exact rfl) (hq : q := by first | trivial | simp [go_sem]) (h : storeOp T σ t (.ptr id size row off) v = some (p, H) := by simp only [go_sem]; exact rfl) (hp : p := by simp [go_sem])
  (hH : Yk H id = some b := by simp only [go_sem]; exact rfl) (hs : ([Loc.blk id], locsG ops o.guard ++ (locsL σ [x, y] ++ [Loc.blk id])) = s1 := by simp only [go_sem]; exact rfl) (ha : (⟨σ.tm, Zh σ.hp id b⟩ : St) = σ' := by simp only [go_sem]; exact rfl) : SegFrom P C ops Q k n acc (o :: l) σ :=
 seg_store hT ho hd hg hx hy hq h hp hH hs ha hk
theorem dS (hT : TabOK P T) {j : Nat} (hk : DrawOK P C ops Q j σ') (ho : ops[k]? = some o := by rfl) (hc : Region.ready .any ops (Yt ops.size k) = [k] := by kernel_rfl) (hg : o.guard = none := by rfl) (h : stepOp T σ o.dst o.op = some (p, σ') := by simp only [go_sem]; try exact rfl) (hp : p := by simp [go_sem]) (hj : k + 1 = j := by rfl) :
  DrawOK P C ops Q k σ := draw_step hT ho hc hg h hp hj hk
theorem dSq (hT : TabOK P T) {j : Nat} (hp : p) (hk : DrawOK P C ops Q j σ') (ho : ops[k]? = some o := by rfl) (hc : Region.ready .any ops (Yt ops.size k) = [k] := by kernel_rfl) (hg : o.guard = none := by rfl) (h : stepOp T σ o.dst o.op = some (p, σ') := by simp only [go_sem]; try exact rfl) (hj : k + 1 = j := by rfl) :
  DrawOK P C ops Q k σ := draw_step hT ho hc hg h hp hj hk
end
end
section
variable {P : Program} {C : Ctx} {σ : St} {Ret : St → Prop} {k : List It} {p : Prop} {c : Operand} {x y : Code} {b : Bool}
theorem Vt (hb : b = true) (hk : Cw P C Ret (.code x :: k) σ) (h : evS σ c = (p, .bool b) := by simp only [go_sem]; try exact rfl) (hp : p := by trivial) : Cw P C Ret (.code (.cond c x y) :: k) σ := cw_condT h hp hb hk
theorem Vf (hb : b = false) (hk : Cw P C Ret (.code y :: k) σ) (h : evS σ c = (p, .bool b) := by simp only [go_sem]; try exact rfl) (hp : p := by trivial) : Cw P C Ret (.code (.cond c x y) :: k) σ := cw_condF h hp hb hk
end
section
variable {P : Program} {C : Ctx} {σ : St}
theorem wT {k : List It} {p : Prop} {r : AV} {res : St → Option (Prop × AV)} {post : AV → St → Prop} (hk : post r σ) (h : res σ = some (p, r) := by simp only [go_sem]; try exact rfl) (hp : p := by simp [go_sem]) : Cw P C (fun s => ∃ p r, res s = some (p, r) ∧ p ∧ ∃ r', wk r r' ∧ post r' s) (.code .ret :: k) σ := cw_ret ⟨p, r, h, hp, r, .inr (.inl rfl), hk⟩
theorem wU {k : List It} {p : Prop} {r : AV} {res : St → Option (Prop × AV)} {A B : AV → St → Prop} (ha : A r σ) (hb : B r σ) (h : res σ = some (p, r) := by simp only [go_sem]; try exact rfl) (hp : p := by simp [go_sem]) : Cw P C (fun s => ∃ p r, res s = some (p, r) ∧ p ∧ ∃ r', wk r r' ∧ (A r' s ∧ B r' s)) (.code .ret :: k) σ := cw_ret ⟨p, r, h, hp, r, .inr (.inl rfl), ha, hb⟩
theorem wKd {Ret : St → Prop} {k : List It} {ops : Array Oper} {n : Nat} (h : Cw P C Ret k σ) (hn : n = ops.size := by kernel_rfl) : DrawOK P C ops (aft (RetOf C Ret) (sem P C (RetOf C Ret) k)) n σ := draw_close hn h
end
theorem gD (n : Nat) : n - 0 = n := rfl
theorem gE {α : Type _} (l : List α) : l.drop 0 = l := rfl
theorem gF {α β : Type _} (l : List α) (f : α → β) : (l.map f).length = l.length := List.length_map f
theorem gG (n : Nat) : 0 + n = n := Nat.zero_add n
theorem wi1 {i : Nat} (h : i ≤ 2000000000000) : IntKind.i64.wrap ((i : Int) + 1) = ((i + 1 : Nat) : Int) := by rw [Eng.wrap_small (by omega) (by omega)]; rfl
theorem gA {α : Type _} {xs : List α} {i : Nat} (h : i < xs.toArray.size) : xs.toArray[i] = xs[i]'(by simpa using h) := List.getElem_toArray h
theorem gB {α : Type _} (a : α) (l : List α) (i : Nat) (h : i + 1 < (a :: l).length) : (a :: l)[i + 1] = l[i]'(Nat.lt_of_succ_lt_succ h) := rfl
theorem gC {α : Type _} (a : α) (l : List α) (h : 0 < (a :: l).length) : (a :: l)[0] = a := rfl
end Go.Eng
