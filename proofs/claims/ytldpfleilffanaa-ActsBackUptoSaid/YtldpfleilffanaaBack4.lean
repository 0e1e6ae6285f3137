/- Texts of this claim, part 4: EngAF, Nam, Doer, SameN, PutsS, Make, Rise, Walk. No condition. -/
import Derived.Test.YtldpfleilffanaaBack3
namespace Go.Eng
section
variable {P : Program} {T : Tab} {C : Ctx} {μ : Nat → Option Nat} {S : Nat → Prop} {σ σ' : St} {Ret : St → Prop} {k : List It}

/-- where what is handed over lies -/
def pins (ids : List Nat) (G Y N : Nat → Nat) : List (Nat × Blk) := ids.map fun i => (5000 + i, .pin i (G i) (Y i) (N i))

theorem hget_pins (G Y N : Nat → Nat) (i : Nat) : ∀ (ids : List Nat), hget (pins ids G Y N) i = if 5000 ≤ i ∧ ids.contains (i - 5000) = true then some (.pin (i - 5000) (G (i - 5000)) (Y (i - 5000)) (N (i - 5000))) else none
  | [] => by simp [pins, hget]
  | j :: r => by
    have ih := hget_pins G Y N i r
    simp only [pins, List.map_cons, hget] at ih ⊢
    by_cases e : 5000 + j = i
    · subst e
      rw [if_pos rfl, if_pos ⟨by omega, by rw [Nat.add_sub_cancel_left]; simp⟩, Nat.add_sub_cancel_left]
    · rw [if_neg e, ih]
      by_cases h : 5000 ≤ i
      · have hne : i - 5000 ≠ j := by omega
        simp only [h, true_and, List.contains_cons]
        simp [hne]
      · rw [if_neg (fun hh => h hh.1), if_neg (fun hh => h hh.1)]

theorem hget_hsetAll (i : Nat) : ∀ (K H : List (Nat × Blk)), (K.map (·.1)).Nodup → hget (hsetAll H K) i = if (hget K i).isSome = true then hget K i else hget H i
  | [], H, _ => by simp [hsetAll, hget]
  | (j, b) :: r, H, hn => by
    simp only [List.map_cons, List.nodup_cons] at hn
    simp only [hsetAll, hget]
    rw [hget_hsetAll i r _ hn.2, hget_hset]
    by_cases e : j = i
    · subst e
      have h0 : hget r j = none := by
        cases h : hget r j with
        | none => rfl
        | some c => exact absurd (List.mem_map.2 ⟨_, hget_mem h, rfl⟩) hn.1
      simp [h0]
    · simp [e]

/-- what may be pinned: rows of cells, or a map -/
def pinnable : Blk → Bool
  | .cells _ s rows => !rows.isEmpty && s != 0
  | .map _ => true
  | _ => false

theorem pin_of {w : World} {id : Nat} {b : Blk} (h : BlkOK μ S w id b) (hp : pinnable b = true) : ∃ g t n, μ id = some g ∧ rowSize w g = pinS t n := by
  cases b with
  | cells e s rows =>
    simp only [pinnable, Bool.and_eq_true, Bool.not_eq_true', List.isEmpty_eq_false_iff, bne_iff_ne] at hp
    rcases h with ⟨rfl, _⟩ | ⟨g, c, h1, h2, h3, _⟩
    · exact absurd rfl hp.1
    · refine ⟨g, e, c.size, h1, ?_⟩
      have hpos : 0 < rows.length := by
        rcases Nat.eq_zero_or_pos rows.length with h | h
        · exact absurd (List.eq_nil_of_length_eq_zero h) hp.1
        · exact h
      have : 0 < rows.length * s := Nat.mul_pos hpos (Nat.pos_of_ne_zero hp.2)
      unfold rowSize pinS
      rw [h2, if_neg (by omega)]; rfl
  | map kvs =>
    obtain ⟨g, es, clk, vals, h1, h2, _⟩ := h
    refine ⟨g, 0, 0, h1, ?_⟩
    unfold rowSize pinS
    rw [h2]; rfl
  | iter kvs seen => cases hp
  | cap id s N => cases hp
  | pin id g t n => cases hp

/-- A CALL THAT TURNS WHAT 'ids' NAME IN ITS PLACE. -/
theorem trip_callP {o : Oper} {c : Operand} {args : Array Operand} {ats : Array TypeId} (ho : o.op = .call { callee := .value c, args, argTypes := ats }) {p : Prop} {f : FuncId} {xs : List AV}
    (h : callArgs σ c args.toList = some (p, f, xs)) (hp : p) (hc : Callable P f) (ids : List Nat) {H K : List (Nat × Blk)} {r : AV} (hH : sub ids σ.hp = H)
    (hck : ((refsL xs).all ids.contains && (refs r).all ids.contains && ids.all (fun i => decide (i < 5000) && (hget K i).isSome) && K.all (fun q => ids.contains q.1)) = true) (hnd : (K.map (·.1)).Nodup)
    (hpin : (ids.all fun i => match hget H i with | some b => pinnable b | none => false) = true) (hc1 : (H.all fun q => (refsB q.2).all ids.contains) = true) (hc2 : (K.all fun q => (refsB q.2).all ids.contains) = true)
    (hf : ∀ G Y N : Nat → Nat, FnOK P f xs (H ++ pins ids G Y N) fun r' H' => r' = r ∧ ∀ i b, hget (K ++ pins ids G Y N) i = some b → hget H' i = some b) {τ : St} (hτ : (⟨σ.tm, hsetAll σ.hp K⟩ : St).put o.dst r = τ) : Trip P C o σ τ := by
  subst hH hτ
  simp only [Bool.and_eq_true] at hck
  obtain ⟨⟨⟨hx, hr⟩, hi1⟩, hK1⟩ := hck
  have hxr : ∀ i, i ∈ refsL xs → ids.contains i = true := fun i h => List.all_eq_true.1 hx i h
  have hrr : ∀ i, i ∈ refs r → ids.contains i = true := fun i h => List.all_eq_true.1 hr i h
  have hid : ∀ i, ids.contains i = true → i < 5000 ∧ ∃ b, hget K i = some b := fun i h => by
    have := List.all_eq_true.1 hi1 i (by simpa using h)
    rw [Bool.and_eq_true, decide_eq_true_eq] at this
    exact ⟨this.1, Option.isSome_iff_exists.1 this.2⟩
  have hKi : ∀ i b, hget K i = some b → ids.contains i = true := fun i b h => List.all_eq_true.1 hK1 _ (hget_mem h)
  intro a w Kp Q ⟨μ, S, hi⟩ hKp
  obtain ⟨vs, h1, h2, h3⟩ := exec_call hi ho h hp hc
  unfold Oper.wp
  rw [h3]
  have hpn : ∀ i, ∃ g t n, ids.contains i = true → μ i = some g ∧ rowSize w g = pinS t n := fun i => by
    by_cases e : ids.contains i = true
    · have := List.all_eq_true.1 hpin i (by simpa using e)
      cases e2 : hget (sub ids σ.hp) i with
      | none => rw [e2] at this; cases this
      | some b =>
        rw [e2] at this
        have e3 : hget σ.hp i = some b := by
          rw [hget_sub, if_pos e] at e2; exact e2
        obtain ⟨g, t, n, k1, k2⟩ := pin_of (hi.hp i b e3) this
        exact ⟨g, t, n, fun _ => ⟨k1, k2⟩⟩
    · exact ⟨0, 0, 0, fun h => absurd h e⟩
  let G : Nat → Nat := fun i => Classical.choose (hpn i)
  let Y : Nat → Nat := fun i => Classical.choose (Classical.choose_spec (hpn i))
  let N : Nat → Nat := fun i => Classical.choose (Classical.choose_spec (Classical.choose_spec (hpn i)))
  have hg : ∀ i, ids.contains i = true → μ i = some (G i) ∧ rowSize w (G i) = pinS (Y i) (N i) := fun i => Classical.choose_spec (Classical.choose_spec (Classical.choose_spec (hpn i)))
  let μc : Nat → Option Nat := fun i => if ids.contains i then μ i else none
  have mc : ∀ {i g}, μc i = some g → ids.contains i = true ∧ μ i = some g := fun {i g} h => by
    simp only [μc] at h; split at h
    · exact ⟨by assumption, h⟩
    · cases h
  have mc' : ∀ {i}, ids.contains i = true → μc i = μ i := fun {i} h => by simp only [μc, h, if_true]
  have mcn : ∀ {i}, ids.contains i = false → μc i = none := fun {i} h => by simp only [μc, h, Bool.false_eq_true, if_false]
  have hsubk : ∀ i b, hget (sub ids σ.hp) i = some b → ids.contains i = true ∧ hget σ.hp i = some b := fun i b h => by
    rw [hget_sub] at h
    split at h
    · exact ⟨by assumption, h⟩
    · cases h
  refine (hf G Y N S μc w vs h1 (fun j x hj => (h2 j x hj).less fun id hid g hg => by rw [mc' (hxr id (refsL_mem hj hid))]; exact hg) ⟨fun id b hb => ?_, fun id g hg' => ?_, fun id id' g hg hg' => hi.inj id id' g (mc hg).2 (mc hg').2⟩ (fun b hb => (hi.sb b hb).1)).mono ?_
  · rw [hget_append] at hb
    split at hb
    · obtain ⟨q1, q2⟩ := hsubk id b hb
      have hall := List.all_eq_true.1 hc1 _ (hget_mem hb)
      exact (hi.hp id b q2).less (mc' q1) (fun i hi' g hg => by rw [mc' (List.all_eq_true.1 hall i hi')]; exact hg)
    · rw [hget_pins] at hb
      split at hb
      · rename_i hc5
        injection hb with hb
        subst hb
        have hno : ids.contains id = false := by
          cases e : ids.contains id with
          | false => rfl
          | true => have := (hid id e).1; omega
        exact ⟨mcn hno, by rw [mc' hc5.2]; exact (hg _ hc5.2).1, (hg _ hc5.2).2⟩
      · cases hb
  · obtain ⟨k1, k2⟩ := mc hg'
    obtain ⟨⟨b, j1⟩, _, j3⟩ := hi.dom id g k2
    refine ⟨⟨b, ?_⟩, j3⟩
    rw [hget_append, if_pos ⟨(id, b), hget_mem (by rw [hget_sub, if_pos k1]; exact j1), rfl⟩, hget_sub, if_pos k1]; exact j1
  rintro e w' ⟨v, r', H', μ', S', rfl, ⟨rfl, hKH⟩, k1, k2, k3, k4, k5⟩
  have hKget : ∀ i b, hget K i = some b → hget H' i = some b := fun i b hb => hKH i b (by
    rw [hget_append, if_pos ⟨(i, b), hget_mem hb, rfl⟩]; exact hb)
  have hPget : ∀ i, ids.contains i = true → hget H' (5000 + i) = some (.pin i (G i) (Y i) (N i)) := fun i hi' => hKH _ _ (by
    rw [hget_append, if_neg (by
      rintro ⟨b, hb, hb2⟩
      have : ids.contains b.1 = true := List.all_eq_true.1 hK1 b hb
      have := (hid _ this).1
      omega), hget_pins, if_pos ⟨by omega, by rw [Nat.add_sub_cancel_left]; exact hi'⟩, Nat.add_sub_cancel_left])
  have hpin' : ∀ i, ids.contains i = true → μ' i = some (G i) ∧ rowSize w' (G i) = pinS (Y i) (N i) := fun i hi' => (k2.blk _ _ (hPget i hi')).2
  have hfr : Frm (fun g => ∃ id, μc id = some g) w w' := k3
  have hS : SameOn S w w' := fun b hb => hfr.block b (hi.sb b hb).1 (by rintro ⟨id, h⟩; exact (hi.dom id b (mc h).2).2.2.1 hb)
  have hO : ∀ i g, μ i = some g → ids.contains i = false → w'.heap[g]? = w.heap[g]? := fun i g hg hn => hfr.block g (hi.dom i g hg).2.2.2 (by
    rintro ⟨id, h⟩
    obtain ⟨q1, q2⟩ := mc h
    have := hi.inj _ _ _ hg q2
    subst this
    rw [q1] at hn; cases hn)
  have hz : ∀ i g, μ i = some g → rowSize w' g = rowSize w g := fun i g hg' => by
    cases e : ids.contains i with
    | false => exact rowSize_same (hO i g hg' e)
    | true =>
      obtain ⟨q1, q2⟩ := hg i e
      rw [hg'] at q1; injection q1 with q1
      rw [q1, (hpin' i e).2, q2]
  let S2 : Nat → Prop := fun b => S b ∨ S' b
  have hrd : ∀ {v x}, Rd μ S w v x → Rd μ S2 w' v x := fun hv => hv.mono hS (fun _ h => .inl h) (fun _ _ h => h) hz
  have inv : Inv C μ S2 ⟨σ.tm, hsetAll σ.hp K⟩ a w' := by
    refine ⟨hi.size, hi.defers, fun t x hx => hrd (hi.tm t x hx), fun i b hb => ?_, fun i g hg' => ?_, hi.inj, hi.frm.step _ hfr (fun g ⟨id, h⟩ => (hi.dom id g (mc h).2).2.1), fun b hb => ?_⟩
    · rw [hget_hsetAll i K σ.hp hnd] at hb
      split at hb
      · have hib := hKi i b hb
        have hB := k2.blk i b (hKget i b hb)
        have hall := List.all_eq_true.1 hc2 _ (hget_mem hb)
        have h1 : BlkOK μ S' w' i b := hB.less (by rw [(hg i hib).1, (hpin' i hib).1]) (fun j hj q hq => by
          have hjb := List.all_eq_true.1 hall j hj
          rw [(hpin' j hjb).1] at hq
          rw [(hg j hjb).1]; exact hq)
        exact h1.mono (SameOn.refl _ _) (fun _ h => .inr h) (fun _ _ h => h) (fun _ _ _ => rfl) (fun h => h) (fun _ _ => rfl)
      · rename_i hno
        have hib : ids.contains i = false := by
          cases e : ids.contains i with
          | false => rfl
          | true =>
            obtain ⟨_, c, hc'⟩ := hid i e
            rw [hc'] at hno
            exact absurd rfl hno
        exact (hi.hp i b hb).mono hS (fun _ h => .inl h) (fun _ _ h => h) hz (fun h => h) (fun g hg' => hO i g hg' hib)
    · obtain ⟨⟨b, j1⟩, j2, j3, j4⟩ := hi.dom i g hg'
      refine ⟨?_, j2, ?_, Nat.lt_of_lt_of_le j4 hfr.size⟩
      · rw [hget_hsetAll i K σ.hp hnd]
        split
        · rename_i hs
          exact Option.isSome_iff_exists.1 hs
        · exact ⟨b, j1⟩
      · rintro (h | h)
        · exact j3 h
        · cases e : ids.contains i with
          | true =>
            have := (hg i e).1
            rw [hg'] at this; injection this with this
            subst this
            exact (k2.dom i _ (hpin' i e).1).2.1 h
          | false =>
            rcases (k5 g h).2 with q | ⟨id, q⟩ | q
            · exact j3 q
            · obtain ⟨q1, q2⟩ := mc q
              have := hi.inj _ _ _ hg' q2
              subst this
              rw [q1] at e; cases e
            · omega
    · rcases hb with h | h
      · exact ⟨Nat.lt_of_lt_of_le (hi.sb b h).1 hfr.size, (hi.sb b h).2⟩
      · refine ⟨(k5 b h).1, ?_⟩
        rcases (k5 b h).2 with q | ⟨id, q⟩ | q
        · exact (hi.sb b q).2
        · rcases (hi.dom id b (mc q).2).2.1 with z | z
          · exact .inr (.inl z)
          · exact .inr (.inr z)
        · have := hi.frm.size
          exact .inr (.inr (by omega))
  refine hKp _ _ ⟨μ, S2, inv.put o.dst ?_⟩
  have h1 : Rd μ S' w' v r' := k1.less fun i hi' g hg' => by
    have hib := hrr i hi'
    rw [(hpin' i hib).1] at hg'
    rw [(hg i hib).1]; exact hg'
  exact h1.mono (SameOn.refl _ _) (fun _ h => .inr h) (fun _ _ h => h) (fun _ _ _ => rfl)

theorem partsS_agree {s : St} {t : TypeId} : ∀ {parts : List (Nat × Operand)}, (∀ q, q ∈ parts → evS s q.2 = evS σ q.2) → partsS T s t parts = partsS T σ t parts
  | [], _ => rfl
  | (j, o) :: r, h => by
    simp only [partsS]
    rw [h (j, o) (by simp), partsS_agree (fun q hq => h q (by simp [hq]))]

/-- A STRUCT IS BUILT IN A REGION THAT DRAWS. -/
theorem seg_build (hT : TabOK P T) {ops : Array Oper} {Q : Exit → Act → World → Prop} {k n : Nat} {acc : Skel} {o : Oper} {l : List Oper} {t : TypeId} {parts : Array (Nat × Operand)} (ho : o.op = .build t parts) {b : Bool} (hg : guardOf ops σ o.guard = some b)
    {p : Prop} {x : AV} (h : buildAV T σ t parts.toList = some (p, x)) (hp : b = true → p) {y : AV} (hy : (bif b then x else .cnd false x) = y)
    {sk : List Loc × List Loc} (hs : ((Sp.mk o.dst y [] (locsG ops o.guard ++ locsL σ (parts.toList.map (·.2)))).wr, locsG ops o.guard ++ locsL σ (parts.toList.map (·.2))) = sk) (ha : σ.put o.dst y = σ') (hk : SegFrom P C ops Q k n (acc ++ [sk]) l σ') : SegFrom P C ops Q k n acc (o :: l) σ := by
  refine seg_rob (rob_trip (x := y) (rd := locsL σ (parts.toList.map (·.2))) hg (by
    cases b
    · exact .inr ⟨x, hy.symm⟩
    · exact .inl rfl) (fun hb s hag => ?_)) rfl (by rw [← hs]) (by rw [← ha]; simp [Sp.app]) hk
  subst hb
  have hyx : x = y := hy
  subst hyx
  have hb2 : buildAV T s t parts.toList = some (p, x) := by
    rw [← h]
    unfold buildAV
    rw [partsS_agree (fun q hq => evS_agree fun z hz => hag z (locsL_mem (List.mem_map.2 ⟨q, hq, rfl⟩) z hz))]
  refine step_sound hT o (p := p) ?_ (hp rfl)
  rw [ho]
  simp only [stepOp, hb2, Option.map_some]
attribute [go_sem] pins pinnable
end
end Go.Eng

namespace La
open Go Go.Eng Go.Proofs
set_option maxRecDepth 10000
set_option linter.unusedSimpArgs false
set_option linter.unusedVariables false

def okC (c : UInt8) : Bool := (decide (97 ≤ c.toNat) && decide (c.toNat ≤ 122)) || (decide (48 ≤ c.toNat) && decide (c.toNat ≤ 57))
def nameB (s : List UInt8) : Bool := decide (1 ≤ s.length) && decide (s.length ≤ 8) && s.all okC

theorem name_ok (s : List UInt8) (hs : s.length ≤ 100000000) : FnOK Try.prog 160 [.str s] [] (fun r _ => r = .bool (nameB s)) := by
  refine fn_of_cwW tabOK (Go.Proofs.Try.func160) rfl (fun C => ?_)
  simp only [Go.Proofs.Try.ntmps160, Go.Proofs.Try.results160, go_sem, Nat.reduceLT, Nat.reduceBEq, Nat.reduceLeDiff, Nat.reduceAdd, Nat.reduceMul, Nat.reduceSub, Nat.reduceEqDiff, Int.reduceNeg, Int.reduceToNat, Int.reduceAdd, Int.reduceSub]
  refine cw_goR 99 (by simp only [go_sem, Nat.reduceLT, Nat.reduceBEq, Nat.reduceLeDiff, Nat.reduceAdd, Nat.reduceMul, Nat.reduceSub, Nat.reduceEqDiff, Int.reduceNeg, Int.reduceToNat, Int.reduceAdd, Int.reduceSub]; try exact rfl) ?_
  refine cw_runN tabOK 1 (by simp only [go_sem, Nat.reduceLT, Nat.reduceBEq, Nat.reduceLeDiff, Nat.reduceAdd, Nat.reduceMul, Nat.reduceSub, Nat.reduceEqDiff, Int.reduceNeg, Int.reduceToNat, Int.reduceAdd, Int.reduceSub]; exact rfl) (by simp only [go_sem, Nat.reduceLT, Nat.reduceBEq, Nat.reduceLeDiff, Nat.reduceAdd, Nat.reduceMul, Nat.reduceSub, Nat.reduceEqDiff, Int.reduceNeg, Int.reduceToNat, Int.reduceAdd, Int.reduceSub]; exact rfl) (by simp only [go_sem, Nat.reduceLT, Nat.reduceBEq, Nat.reduceLeDiff, Nat.reduceAdd, Nat.reduceMul, Nat.reduceSub, Nat.reduceEqDiff, Int.reduceNeg, Int.reduceToNat, Int.reduceAdd, Int.reduceSub]; try exact rfl) (by simp [go_sem]) ?_
  refine cw_goR 99 (by simp only [go_sem, Nat.reduceLT, Nat.reduceBEq, Nat.reduceLeDiff, Nat.reduceAdd, Nat.reduceMul, Nat.reduceSub, Nat.reduceEqDiff, Int.reduceNeg, Int.reduceToNat, Int.reduceAdd, Int.reduceSub]; try exact rfl) ?_
  cases e1 : decide ((s.length : Int) < 1) with
  | true =>
    have hno : nameB s = false := by
      have h1 := of_decide_eq_true e1
      unfold nameB
      rw [show decide (1 ≤ s.length) = false from decide_eq_false (by omega)]; rfl
    refine cw_go tabOK 99 (by simp only [go_sem, Nat.reduceLT, Nat.reduceBEq, Nat.reduceLeDiff, Nat.reduceAdd, Nat.reduceMul, Nat.reduceSub, Nat.reduceEqDiff, Int.reduceNeg, Int.reduceToNat, Int.reduceAdd, Int.reduceSub, e1]; try exact rfl) (by simp [go_sem, e1]) ?_
    refine cw_cond (by simp only [go_sem, Nat.reduceLT, Nat.reduceBEq, Nat.reduceLeDiff, Nat.reduceAdd, Nat.reduceMul, Nat.reduceSub, Nat.reduceEqDiff, Int.reduceNeg, Int.reduceToNat, Int.reduceAdd, Int.reduceSub]; try exact rfl) trivial (fun h => ?_) (fun h => ?_)
    · refine cw_go tabOK 99 (by simp only [go_sem, Nat.reduceLT, Nat.reduceBEq, Nat.reduceLeDiff, Nat.reduceAdd, Nat.reduceMul, Nat.reduceSub, Nat.reduceEqDiff, Int.reduceNeg, Int.reduceToNat, Int.reduceAdd, Int.reduceSub]; try exact rfl) (by simp [go_sem]) ?_
      refine cw_ret ⟨_, _, (by simp only [go_sem, Nat.reduceLT, Nat.reduceBEq, Nat.reduceLeDiff, Nat.reduceAdd, Nat.reduceMul, Nat.reduceSub, Nat.reduceEqDiff, Int.reduceNeg, Int.reduceToNat, Int.reduceAdd, Int.reduceSub]; try exact rfl), by simp [go_sem], _, .inr (.inl rfl), ?_⟩
      rw [hno]
    · cases h
  | false =>
    have h1 := of_decide_eq_false e1
    cases e2 : decide ((s.length : Int) > 8) with
    | true =>
      have hno : nameB s = false := by
        have h2 := of_decide_eq_true e2
        unfold nameB
        rw [show decide (s.length ≤ 8) = false from decide_eq_false (by omega), Bool.and_false]; rfl
      refine cw_go tabOK 99 (by simp only [go_sem, Nat.reduceLT, Nat.reduceBEq, Nat.reduceLeDiff, Nat.reduceAdd, Nat.reduceMul, Nat.reduceSub, Nat.reduceEqDiff, Int.reduceNeg, Int.reduceToNat, Int.reduceAdd, Int.reduceSub, e1, e2]; try exact rfl) (by simp [go_sem, e1, e2]) ?_
      refine cw_cond (by simp only [go_sem, Nat.reduceLT, Nat.reduceBEq, Nat.reduceLeDiff, Nat.reduceAdd, Nat.reduceMul, Nat.reduceSub, Nat.reduceEqDiff, Int.reduceNeg, Int.reduceToNat, Int.reduceAdd, Int.reduceSub]; try exact rfl) trivial (fun h => ?_) (fun h => ?_)
      · refine cw_go tabOK 99 (by simp only [go_sem, Nat.reduceLT, Nat.reduceBEq, Nat.reduceLeDiff, Nat.reduceAdd, Nat.reduceMul, Nat.reduceSub, Nat.reduceEqDiff, Int.reduceNeg, Int.reduceToNat, Int.reduceAdd, Int.reduceSub]; try exact rfl) (by simp [go_sem]) ?_
        refine cw_ret ⟨_, _, (by simp only [go_sem, Nat.reduceLT, Nat.reduceBEq, Nat.reduceLeDiff, Nat.reduceAdd, Nat.reduceMul, Nat.reduceSub, Nat.reduceEqDiff, Int.reduceNeg, Int.reduceToNat, Int.reduceAdd, Int.reduceSub]; try exact rfl), by simp [go_sem], _, .inr (.inl rfl), ?_⟩
        rw [hno]
      · cases h
    | false =>
      have h2 := of_decide_eq_false e2
      have hyes : nameB s = s.all okC := by
        unfold nameB
        rw [show decide (1 ≤ s.length) = true from decide_eq_true (by omega), show decide (s.length ≤ 8) = true from decide_eq_true (by omega)]; rfl
      rw [hyes]
      refine cw_go tabOK 99 (by simp only [go_sem, Nat.reduceLT, Nat.reduceBEq, Nat.reduceLeDiff, Nat.reduceAdd, Nat.reduceMul, Nat.reduceSub, Nat.reduceEqDiff, Int.reduceNeg, Int.reduceToNat, Int.reduceAdd, Int.reduceSub, e1, e2]; try exact rfl) (by simp [go_sem, e1, e2]) ?_
      refine cw_cond (by simp only [go_sem, Nat.reduceLT, Nat.reduceBEq, Nat.reduceLeDiff, Nat.reduceAdd, Nat.reduceMul, Nat.reduceSub, Nat.reduceEqDiff, Int.reduceNeg, Int.reduceToNat, Int.reduceAdd, Int.reduceSub]; try exact rfl) trivial (fun h => ?_) (fun h => ?_)
      · cases h
      refine cw_go tabOK 99 (by simp only [go_sem, Nat.reduceLT, Nat.reduceBEq, Nat.reduceLeDiff, Nat.reduceAdd, Nat.reduceMul, Nat.reduceSub, Nat.reduceEqDiff, Int.reduceNeg, Int.reduceToNat, Int.reduceAdd, Int.reduceSub]; try exact rfl) (by simp [go_sem]) ?_
      refine cw_loopS (fun i : Nat => i ≤ s.length ∧ ∀ j, j < i → okC (s.getD j 0) = true) (fun i => s.length - i) (fun i => [(3, .any), (4, .any), (15, .int .i64 i), (16, .any), (17, .any), (18, .any), (19, .any), (20, .any), (21, .any), (22, .any), (23, .any), (24, .any), (25, .any), (26, .any), (27, .any), (28, .any), (29, .any), (30, .any), (31, .any), (32, .any), (33, .any), (34, .any), (35, .any)]) (fun _ => []) 0 ⟨by omega, by omega⟩ ?_ fun i hi => ?_
      · simp only [go_sem, Nat.reduceLT, Nat.reduceBEq, Nat.reduceLeDiff, Nat.reduceAdd, Nat.reduceMul, Nat.reduceSub, Nat.reduceEqDiff, Int.reduceNeg, Int.reduceToNat, Int.reduceAdd, Int.reduceSub]
        exact le_sub (by simp [go_sem]) (by simp [go_sem]) (by simp [go_sem])
      obtain ⟨hi, hs⟩ := hi
      simp only [go_sem, Nat.reduceLT, Nat.reduceBEq, Nat.reduceLeDiff, Nat.reduceAdd, Nat.reduceMul, Nat.reduceSub, Nat.reduceEqDiff, Int.reduceNeg, Int.reduceToNat, Int.reduceAdd, Int.reduceSub]
      refine cw_go tabOK 99 (by simp only [go_sem, Nat.reduceLT, Nat.reduceBEq, Nat.reduceLeDiff, Nat.reduceAdd, Nat.reduceMul, Nat.reduceSub, Nat.reduceEqDiff, Int.reduceNeg, Int.reduceToNat, Int.reduceAdd, Int.reduceSub]; try exact rfl) (by simp [go_sem]) ?_
      refine cw_cond (by simp only [go_sem, Nat.reduceLT, Nat.reduceBEq, Nat.reduceLeDiff, Nat.reduceAdd, Nat.reduceMul, Nat.reduceSub, Nat.reduceEqDiff, Int.reduceNeg, Int.reduceToNat, Int.reduceAdd, Int.reduceSub]; try exact rfl) trivial (fun h => ?_) (fun h => ?_)
      · have hlt : i < s.length := by simp at h; omega
        have hw : IntKind.i64.wrap ((i : Int) + 1) = ((i + 1 : Nat) : Int) := by rw [Eng.wrap_small (by omega) (by omega)]; rfl
        have hno : okC (s.getD i 0) = false → s.all okC = false := fun h0 => by
          cases e : s.all okC with
          | false => rfl
          | true =>
            have := List.all_eq_true.1 e (s.getD i 0) (by rw [List.getD_eq_getElem?_getD, List.getElem?_eq_getElem hlt]; exact List.getElem_mem hlt)
            rw [this] at h0; cases h0
        have hyes : okC (s.getD i 0) = true → ∀ j, j < i + 1 → okC (s.getD j 0) = true := fun h0 j hj => by
          rcases Nat.lt_succ_iff_lt_or_eq.1 hj with h1 | rfl
          · exact hs j h1
          · exact h0
        refine cw_goR 99 (by simp only [go_sem, Nat.reduceLT, Nat.reduceBEq, Nat.reduceLeDiff, Nat.reduceAdd, Nat.reduceMul, Nat.reduceSub, Nat.reduceEqDiff, Int.reduceNeg, Int.reduceToNat, Int.reduceAdd, Int.reduceSub]; try exact rfl) ?_
        refine cw_runN tabOK 2 (by simp only [go_sem, Nat.reduceLT, Nat.reduceBEq, Nat.reduceLeDiff, Nat.reduceAdd, Nat.reduceMul, Nat.reduceSub, Nat.reduceEqDiff, Int.reduceNeg, Int.reduceToNat, Int.reduceAdd, Int.reduceSub]; exact rfl) (by simp only [go_sem, Nat.reduceLT, Nat.reduceBEq, Nat.reduceLeDiff, Nat.reduceAdd, Nat.reduceMul, Nat.reduceSub, Nat.reduceEqDiff, Int.reduceNeg, Int.reduceToNat, Int.reduceAdd, Int.reduceSub]; exact rfl) (by simp only [go_sem, Nat.reduceLT, Nat.reduceBEq, Nat.reduceLeDiff, Nat.reduceAdd, Nat.reduceMul, Nat.reduceSub, Nat.reduceEqDiff, Int.reduceNeg, Int.reduceToNat, Int.reduceAdd, Int.reduceSub]; try exact rfl) (by simp [go_sem]) ?_
        refine cw_goR 99 (by simp only [go_sem, Nat.reduceLT, Nat.reduceBEq, Nat.reduceLeDiff, Nat.reduceAdd, Nat.reduceMul, Nat.reduceSub, Nat.reduceEqDiff, Int.reduceNeg, Int.reduceToNat, Int.reduceAdd, Int.reduceSub]; try exact rfl) ?_
        refine cw_runN tabOK 2 (by simp only [go_sem, Nat.reduceLT, Nat.reduceBEq, Nat.reduceLeDiff, Nat.reduceAdd, Nat.reduceMul, Nat.reduceSub, Nat.reduceEqDiff, Int.reduceNeg, Int.reduceToNat, Int.reduceAdd, Int.reduceSub]; exact rfl) (by simp only [go_sem, Nat.reduceLT, Nat.reduceBEq, Nat.reduceLeDiff, Nat.reduceAdd, Nat.reduceMul, Nat.reduceSub, Nat.reduceEqDiff, Int.reduceNeg, Int.reduceToNat, Int.reduceAdd, Int.reduceSub]; exact rfl) (by simp only [go_sem, Nat.reduceLT, Nat.reduceBEq, Nat.reduceLeDiff, Nat.reduceAdd, Nat.reduceMul, Nat.reduceSub, Nat.reduceEqDiff, Int.reduceNeg, Int.reduceToNat, Int.reduceAdd, Int.reduceSub]; try exact rfl) (by simp [go_sem]) ?_
        refine cw_runN tabOK 1 (by simp only [go_sem, Nat.reduceLT, Nat.reduceBEq, Nat.reduceLeDiff, Nat.reduceAdd, Nat.reduceMul, Nat.reduceSub, Nat.reduceEqDiff, Int.reduceNeg, Int.reduceToNat, Int.reduceAdd, Int.reduceSub]; exact rfl) (by simp only [go_sem, Nat.reduceLT, Nat.reduceBEq, Nat.reduceLeDiff, Nat.reduceAdd, Nat.reduceMul, Nat.reduceSub, Nat.reduceEqDiff, Int.reduceNeg, Int.reduceToNat, Int.reduceAdd, Int.reduceSub]; exact rfl) (by simp only [go_sem, Nat.reduceLT, Nat.reduceBEq, Nat.reduceLeDiff, Nat.reduceAdd, Nat.reduceMul, Nat.reduceSub, Nat.reduceEqDiff, Int.reduceNeg, Int.reduceToNat, Int.reduceAdd, Int.reduceSub]; try exact rfl) ?_ ?_
        · simp; omega
        refine cw_runN tabOK 1 (by simp only [go_sem, Nat.reduceLT, Nat.reduceBEq, Nat.reduceLeDiff, Nat.reduceAdd, Nat.reduceMul, Nat.reduceSub, Nat.reduceEqDiff, Int.reduceNeg, Int.reduceToNat, Int.reduceAdd, Int.reduceSub]; exact rfl) (by simp only [go_sem, Nat.reduceLT, Nat.reduceBEq, Nat.reduceLeDiff, Nat.reduceAdd, Nat.reduceMul, Nat.reduceSub, Nat.reduceEqDiff, Int.reduceNeg, Int.reduceToNat, Int.reduceAdd, Int.reduceSub]; exact rfl) (by simp only [go_sem, Nat.reduceLT, Nat.reduceBEq, Nat.reduceLeDiff, Nat.reduceAdd, Nat.reduceMul, Nat.reduceSub, Nat.reduceEqDiff, Int.reduceNeg, Int.reduceToNat, Int.reduceAdd, Int.reduceSub]; try exact rfl) (by simp [go_sem]) ?_
        refine cw_goR 99 (by simp only [go_sem, Nat.reduceLT, Nat.reduceBEq, Nat.reduceLeDiff, Nat.reduceAdd, Nat.reduceMul, Nat.reduceSub, Nat.reduceEqDiff, Int.reduceNeg, Int.reduceToNat, Int.reduceAdd, Int.reduceSub]; try exact rfl) ?_
        generalize s.getD i 0 = c at hno hyes
        have hc : okC c = ((!(decide ((c.toNat : Int) < 97)) && !(decide ((c.toNat : Int) > 122))) || (!(decide ((c.toNat : Int) < 48)) && !(decide ((c.toNat : Int) > 57)))) := by
          unfold okC
          rw [Bool.eq_iff_iff]
          simp only [Bool.or_eq_true, Bool.and_eq_true, decide_eq_true_eq, Bool.not_eq_true', decide_eq_false_iff_not]
          omega
        generalize hf1 : decide ((c.toNat : Int) < 97) = f1 at hc
        generalize hf2 : decide ((c.toNat : Int) > 122) = f2 at hc
        generalize hf3 : decide ((c.toNat : Int) < 48) = f3 at hc
        generalize hf4 : decide ((c.toNat : Int) > 57) = f4 at hc
        refine cw_runN tabOK 14 (by simp only [go_sem, Nat.reduceLT, Nat.reduceBEq, Nat.reduceLeDiff, Nat.reduceAdd, Nat.reduceMul, Nat.reduceSub, Nat.reduceEqDiff, Int.reduceNeg, Int.reduceToNat, Int.reduceAdd, Int.reduceSub]; exact rfl) (by simp only [go_sem, Nat.reduceLT, Nat.reduceBEq, Nat.reduceLeDiff, Nat.reduceAdd, Nat.reduceMul, Nat.reduceSub, Nat.reduceEqDiff, Int.reduceNeg, Int.reduceToNat, Int.reduceAdd, Int.reduceSub]; exact rfl) (by simp only [go_sem, Nat.reduceLT, Nat.reduceBEq, Nat.reduceLeDiff, Nat.reduceAdd, Nat.reduceMul, Nat.reduceSub, Nat.reduceEqDiff, Int.reduceNeg, Int.reduceToNat, Int.reduceAdd, Int.reduceSub, hf1, hf2, hf3, hf4]; try exact rfl) ?_ ?_
        · cases f1 <;> cases f2 <;> cases f3 <;> cases f4 <;> simp
        have hb : (bif (bif f1 then true else f2) then (bif f3 then true else f4) else false) = !okC c := by
          rw [hc]; cases f1 <;> cases f2 <;> cases f3 <;> cases f4 <;> rfl
        simp only [go_sem, Nat.reduceLT, Nat.reduceBEq, Nat.reduceLeDiff, Nat.reduceAdd, Nat.reduceMul, Nat.reduceSub, Nat.reduceEqDiff, Int.reduceNeg, Int.reduceToNat, Int.reduceAdd, Int.reduceSub, hb]
        refine cw_cond (by simp only [go_sem, Nat.reduceLT, Nat.reduceBEq, Nat.reduceLeDiff, Nat.reduceAdd, Nat.reduceMul, Nat.reduceSub, Nat.reduceEqDiff, Int.reduceNeg, Int.reduceToNat, Int.reduceAdd, Int.reduceSub]; try exact rfl) trivial (fun h => ?_) (fun h => ?_)
        · have h0 : okC c = false := by simpa using h
          refine cw_go tabOK 99 (by simp only [go_sem, Nat.reduceLT, Nat.reduceBEq, Nat.reduceLeDiff, Nat.reduceAdd, Nat.reduceMul, Nat.reduceSub, Nat.reduceEqDiff, Int.reduceNeg, Int.reduceToNat, Int.reduceAdd, Int.reduceSub]; try exact rfl) (by simp [go_sem]) ?_
          refine cw_ret ⟨_, _, (by simp only [go_sem, Nat.reduceLT, Nat.reduceBEq, Nat.reduceLeDiff, Nat.reduceAdd, Nat.reduceMul, Nat.reduceSub, Nat.reduceEqDiff, Int.reduceNeg, Int.reduceToNat, Int.reduceAdd, Int.reduceSub]; try exact rfl), by simp [go_sem], _, .inr (.inl rfl), ?_⟩
          rw [hno h0]
        · have h0 : okC c = true := by simpa using h
          refine cw_go tabOK 99 (by simp only [go_sem, Nat.reduceLT, Nat.reduceBEq, Nat.reduceLeDiff, Nat.reduceAdd, Nat.reduceMul, Nat.reduceSub, Nat.reduceEqDiff, Int.reduceNeg, Int.reduceToNat, Int.reduceAdd, Int.reduceSub, hw]; try exact rfl) (by simp [go_sem, hw]) ?_
          refine cw_back ⟨i + 1, ⟨by omega, hyes h0⟩, by omega, le_sub ?_ ?_ ?_⟩
          · simp [go_sem]
          · simp [go_sem]
          · simp [go_sem]
      · have e : i = s.length := by simp at h; omega
        have : s.all okC = true := List.all_eq_true.2 fun x hx => by
          obtain ⟨j, hj⟩ := List.getElem?_of_mem hx
          have := hs j (by rw [e]; exact (List.getElem?_eq_some_iff.1 hj).1)
          rwa [List.getD_eq_getElem?_getD, hj] at this
        refine cw_go tabOK 99 (by simp only [go_sem, Nat.reduceLT, Nat.reduceBEq, Nat.reduceLeDiff, Nat.reduceAdd, Nat.reduceMul, Nat.reduceSub, Nat.reduceEqDiff, Int.reduceNeg, Int.reduceToNat, Int.reduceAdd, Int.reduceSub]; try exact rfl) (by simp [go_sem]) ?_
        refine cw_ret ⟨_, _, (by simp only [go_sem, Nat.reduceLT, Nat.reduceBEq, Nat.reduceLeDiff, Nat.reduceAdd, Nat.reduceMul, Nat.reduceSub, Nat.reduceEqDiff, Int.reduceNeg, Int.reduceToNat, Int.reduceAdd, Int.reduceSub]; try exact rfl), by simp [go_sem], _, .inr (.inl rfl), ?_⟩
        rw [this]
end La

namespace La
open Go Go.Eng Go.Proofs
set_option maxRecDepth 10000
set_option linter.unusedSimpArgs false
set_option linter.unusedVariables false

theorem hold {K H : List (Nat × Blk)} (h : ∀ p, p ∈ K → hget H p.1 = some p.2) : ∀ i b, hget K i = some b → hget H i = some b := fun i b hb => h (i, b) (hget_mem hb)

theorem hold2 {a b : Nat} {x y : Blk} {H : List (Nat × Blk)} (h1 : hget H a = some x) (h2 : hget H b = some y) : ∀ i c, (if a = i then some x else if b = i then some y else none) = some c → hget H i = some c := fun i c hc => by
  by_cases e1 : a = i
  · subst e1; rw [if_pos rfl] at hc; rw [h1, hc]
  · rw [if_neg e1] at hc
    by_cases e2 : b = i
    · subst e2; rw [if_pos rfl] at hc; rw [h2, hc]
    · rw [if_neg e2] at hc; cases hc

def getN (l : List Node) (k : Int) : Node := (findN l k).getD zeroN
def dirE (l : List Node) (k : Int) : Int := match findN l k with
  | none => 12
  | some n => if n.dir then 0 else 8
def roomE (n : Node) (s : List UInt8) : Int := if nameB s then (if isE n.entries s then 7 else if n.entries.length ≥ 6 then 5 else 0) else 7
def doerRow (l : List Node) (a : Act) (v : Int) : List AV := [.sl (l.map nodeRow), .int .i64 a.kind, .int .i64 a.fid, .int .i64 a.dir, .str a.name, .int .i64 a.to, .str a.toName, .sl (a.data.map byteRow), .int .i64 v]
@[go_sem, simp] theorem doerRow_refsL (l : List Node) (a : Act) (v : Int) : refsL (doerRow l a v) = [] := rfl
def dH (R : List AV) (G Y N : Nat → Nat) : List (Nat × Blk) := [(15, .cells 143 9 [R])] ++ pins [15] G Y N

theorem room_ok (n : Node) (s : List UInt8) (hn : n.Small) (hs : s.length ≤ 100000000) : FnOK Try.prog 146 [.agg (nodeRow n), .str s] [] (fun r _ => r = .int .i64 (roomE n s)) := by
  have hlen := hn.entries
  refine fn_of_cwW tabOK (Go.Proofs.Try.func146) rfl (fun C => ?_)
  simp only [Go.Proofs.Try.ntmps146, Go.Proofs.Try.results146, go_sem, Nat.reduceLT, Nat.reduceBEq, Nat.reduceLeDiff, Nat.reduceAdd, Nat.reduceMul, Nat.reduceSub, Nat.reduceEqDiff, Int.reduceNeg, Int.reduceToNat, Int.reduceAdd, Int.reduceSub]
  refine cw_go tabOK 99 (by simp only [go_sem, Nat.reduceLT, Nat.reduceBEq, Nat.reduceLeDiff, Nat.reduceAdd, Nat.reduceMul, Nat.reduceSub, Nat.reduceEqDiff, Int.reduceNeg, Int.reduceToNat, Int.reduceAdd, Int.reduceSub, nodeRow]; try exact rfl) ?_ ?_
  · simp
  refine cw_call rfl rfl (by simp only [go_sem, Nat.reduceLT, Nat.reduceBEq, Nat.reduceLeDiff, Nat.reduceAdd, Nat.reduceMul, Nat.reduceSub, Nat.reduceEqDiff, Int.reduceNeg, Int.reduceToNat, Int.reduceAdd, Int.reduceSub]; try exact rfl) (by simp [go_sem]) ⟨_, Go.Proofs.Try.func160, by kernel_rfl, rfl⟩ (by simp [go_sem]) (name_ok s hs) (by simp [go_sem]) (by simp only [go_sem, Nat.reduceLT, Nat.reduceBEq, Nat.reduceLeDiff, Nat.reduceAdd, Nat.reduceMul, Nat.reduceSub, Nat.reduceEqDiff, Int.reduceNeg, Int.reduceToNat, Int.reduceAdd, Int.reduceSub]; exact rfl) ?_
  refine cw_go tabOK 99 (by simp only [go_sem, Nat.reduceLT, Nat.reduceBEq, Nat.reduceLeDiff, Nat.reduceAdd, Nat.reduceMul, Nat.reduceSub, Nat.reduceEqDiff, Int.reduceNeg, Int.reduceToNat, Int.reduceAdd, Int.reduceSub]; try exact rfl) (by simp [go_sem]) ?_
  refine cw_cond (by simp only [go_sem, Nat.reduceLT, Nat.reduceBEq, Nat.reduceLeDiff, Nat.reduceAdd, Nat.reduceMul, Nat.reduceSub, Nat.reduceEqDiff, Int.reduceNeg, Int.reduceToNat, Int.reduceAdd, Int.reduceSub]; try exact rfl) trivial (fun h => ?_) (fun h => ?_)
  · have h0 : nameB s = false := by simpa using h
    refine cw_go tabOK 99 (by simp only [go_sem, Nat.reduceLT, Nat.reduceBEq, Nat.reduceLeDiff, Nat.reduceAdd, Nat.reduceMul, Nat.reduceSub, Nat.reduceEqDiff, Int.reduceNeg, Int.reduceToNat, Int.reduceAdd, Int.reduceSub]; try exact rfl) (by simp [go_sem]) ?_
    refine cw_ret ⟨_, _, (by simp only [go_sem, Nat.reduceLT, Nat.reduceBEq, Nat.reduceLeDiff, Nat.reduceAdd, Nat.reduceMul, Nat.reduceSub, Nat.reduceEqDiff, Int.reduceNeg, Int.reduceToNat, Int.reduceAdd, Int.reduceSub]; try exact rfl), by simp [go_sem], _, .inr (.inl rfl), ?_⟩
    simp [roomE, h0]
  have h0 : nameB s = true := by simpa using h
  refine cw_go tabOK 99 (by simp only [go_sem, Nat.reduceLT, Nat.reduceBEq, Nat.reduceLeDiff, Nat.reduceAdd, Nat.reduceMul, Nat.reduceSub, Nat.reduceEqDiff, Int.reduceNeg, Int.reduceToNat, Int.reduceAdd, Int.reduceSub, nodeRow]; try exact rfl) ?_ ?_
  · simp [nodeRow]
  refine cw_call rfl rfl (by simp only [go_sem, Nat.reduceLT, Nat.reduceBEq, Nat.reduceLeDiff, Nat.reduceAdd, Nat.reduceMul, Nat.reduceSub, Nat.reduceEqDiff, Int.reduceNeg, Int.reduceToNat, Int.reduceAdd, Int.reduceSub]; try exact rfl) (by simp [go_sem]) ⟨_, Go.Proofs.Try.func36, by kernel_rfl, rfl⟩ (by simp [go_sem]) (entry_ok n s hn) (by simp [go_sem]) (by simp only [go_sem, Nat.reduceLT, Nat.reduceBEq, Nat.reduceLeDiff, Nat.reduceAdd, Nat.reduceMul, Nat.reduceSub, Nat.reduceEqDiff, Int.reduceNeg, Int.reduceToNat, Int.reduceAdd, Int.reduceSub]; exact rfl) ?_
  cases he : isE n.entries s with
  | true =>
    have e1 : entryN n s = some (n.entries.getD (eplace n.entries s) default).fid := by unfold entryN; rw [if_pos he]
    rw [e1]
    simp only [optInt]
    refine cw_go tabOK 99 (by simp only [go_sem, Nat.reduceLT, Nat.reduceBEq, Nat.reduceLeDiff, Nat.reduceAdd, Nat.reduceMul, Nat.reduceSub, Nat.reduceEqDiff, Int.reduceNeg, Int.reduceToNat, Int.reduceAdd, Int.reduceSub]; try exact rfl) (by simp [go_sem]) ?_
    refine cw_cond (by simp only [go_sem, Nat.reduceLT, Nat.reduceBEq, Nat.reduceLeDiff, Nat.reduceAdd, Nat.reduceMul, Nat.reduceSub, Nat.reduceEqDiff, Int.reduceNeg, Int.reduceToNat, Int.reduceAdd, Int.reduceSub]; try exact rfl) trivial (fun h => ?_) (fun h => ?_)
    · refine cw_go tabOK 99 (by simp only [go_sem, Nat.reduceLT, Nat.reduceBEq, Nat.reduceLeDiff, Nat.reduceAdd, Nat.reduceMul, Nat.reduceSub, Nat.reduceEqDiff, Int.reduceNeg, Int.reduceToNat, Int.reduceAdd, Int.reduceSub]; try exact rfl) (by simp [go_sem]) ?_
      refine cw_ret ⟨_, _, (by simp only [go_sem, Nat.reduceLT, Nat.reduceBEq, Nat.reduceLeDiff, Nat.reduceAdd, Nat.reduceMul, Nat.reduceSub, Nat.reduceEqDiff, Int.reduceNeg, Int.reduceToNat, Int.reduceAdd, Int.reduceSub]; try exact rfl), by simp [go_sem], _, .inr (.inl rfl), ?_⟩
      simp [roomE, h0, he]
    · cases h
  | false =>
    have e1 : entryN n s = none := by unfold entryN; rw [if_neg (by simp [he])]
    rw [e1]
    simp only [optInt]
    refine cw_go tabOK 99 (by simp only [go_sem, Nat.reduceLT, Nat.reduceBEq, Nat.reduceLeDiff, Nat.reduceAdd, Nat.reduceMul, Nat.reduceSub, Nat.reduceEqDiff, Int.reduceNeg, Int.reduceToNat, Int.reduceAdd, Int.reduceSub]; try exact rfl) (by simp [go_sem]) ?_
    refine cw_cond (by simp only [go_sem, Nat.reduceLT, Nat.reduceBEq, Nat.reduceLeDiff, Nat.reduceAdd, Nat.reduceMul, Nat.reduceSub, Nat.reduceEqDiff, Int.reduceNeg, Int.reduceToNat, Int.reduceAdd, Int.reduceSub]; try exact rfl) trivial (fun h => ?_) (fun h => ?_)
    · cases h
    refine cw_go tabOK 99 (by simp only [go_sem, Nat.reduceLT, Nat.reduceBEq, Nat.reduceLeDiff, Nat.reduceAdd, Nat.reduceMul, Nat.reduceSub, Nat.reduceEqDiff, Int.reduceNeg, Int.reduceToNat, Int.reduceAdd, Int.reduceSub, nodeRow]; try exact rfl) ?_ ?_
    · simp [nodeRow]
    refine cw_cond (by simp only [go_sem, Nat.reduceLT, Nat.reduceBEq, Nat.reduceLeDiff, Nat.reduceAdd, Nat.reduceMul, Nat.reduceSub, Nat.reduceEqDiff, Int.reduceNeg, Int.reduceToNat, Int.reduceAdd, Int.reduceSub]; try exact rfl) trivial (fun h => ?_) (fun h => ?_)
    · have h6 : 6 ≤ n.entries.length := by simp at h; omega
      refine cw_go tabOK 99 (by simp only [go_sem, Nat.reduceLT, Nat.reduceBEq, Nat.reduceLeDiff, Nat.reduceAdd, Nat.reduceMul, Nat.reduceSub, Nat.reduceEqDiff, Int.reduceNeg, Int.reduceToNat, Int.reduceAdd, Int.reduceSub]; try exact rfl) (by simp [go_sem]) ?_
      refine cw_ret ⟨_, _, (by simp only [go_sem, Nat.reduceLT, Nat.reduceBEq, Nat.reduceLeDiff, Nat.reduceAdd, Nat.reduceMul, Nat.reduceSub, Nat.reduceEqDiff, Int.reduceNeg, Int.reduceToNat, Int.reduceAdd, Int.reduceSub]; try exact rfl), by simp [go_sem], _, .inr (.inl rfl), ?_⟩
      simp [roomE, h0, he, h6]
    · have h6 : ¬ 6 ≤ n.entries.length := by simp at h; omega
      refine cw_go tabOK 99 (by simp only [go_sem, Nat.reduceLT, Nat.reduceBEq, Nat.reduceLeDiff, Nat.reduceAdd, Nat.reduceMul, Nat.reduceSub, Nat.reduceEqDiff, Int.reduceNeg, Int.reduceToNat, Int.reduceAdd, Int.reduceSub]; try exact rfl) (by simp [go_sem]) ?_
      refine cw_ret ⟨_, _, (by simp only [go_sem, Nat.reduceLT, Nat.reduceBEq, Nat.reduceLeDiff, Nat.reduceAdd, Nat.reduceMul, Nat.reduceSub, Nat.reduceEqDiff, Int.reduceNeg, Int.reduceToNat, Int.reduceAdd, Int.reduceSub]; try exact rfl), by simp [go_sem], _, .inr (.inl rfl), ?_⟩
      simp [roomE, h0, he, h6]

theorem dir_ok (l : List Node) (a : Act) (v k : Int) (hl : Small l) (G Y N : Nat → Nat) : FnOK Try.prog 145 [.ptr 15 9 0 0, .int .i64 k] (dH (doerRow l a v) G Y N)
    (fun r H => r = .tup [.agg (nodeRow (getN l k)), .int .i64 (dirE l k)] ∧ ∀ i b, hget (dH (doerRow l a v) G Y N) i = some b → hget H i = some b) := by
  unfold dH
  refine fn_of_cwW tabOK (Go.Proofs.Try.func145) rfl (fun C => ?_)
  simp only [Go.Proofs.Try.ntmps145, Go.Proofs.Try.results145, go_sem, Nat.reduceLT, Nat.reduceBEq, Nat.reduceLeDiff, Nat.reduceAdd, Nat.reduceMul, Nat.reduceSub, Nat.reduceEqDiff, Int.reduceNeg, Int.reduceToNat, Int.reduceAdd, Int.reduceSub]
  refine cw_go tabOK 99 (by simp only [go_sem, Nat.reduceLT, Nat.reduceBEq, Nat.reduceLeDiff, Nat.reduceAdd, Nat.reduceMul, Nat.reduceSub, Nat.reduceEqDiff, Int.reduceNeg, Int.reduceToNat, Int.reduceAdd, Int.reduceSub, doerRow]; try exact rfl) ?_ ?_
  · simp [doerRow]
  refine cw_call rfl rfl (by simp only [go_sem, Nat.reduceLT, Nat.reduceBEq, Nat.reduceLeDiff, Nat.reduceAdd, Nat.reduceMul, Nat.reduceSub, Nat.reduceEqDiff, Int.reduceNeg, Int.reduceToNat, Int.reduceAdd, Int.reduceSub]; try exact rfl) (by simp [go_sem]) ⟨_, Go.Proofs.Try.func33, by kernel_rfl, rfl⟩ (by simp [go_sem]) (find_ok l k hl) (by simp [go_sem]) (by simp only [go_sem, Nat.reduceLT, Nat.reduceBEq, Nat.reduceLeDiff, Nat.reduceAdd, Nat.reduceMul, Nat.reduceSub, Nat.reduceEqDiff, Int.reduceNeg, Int.reduceToNat, Int.reduceAdd, Int.reduceSub]; exact rfl) ?_
  simp only [go_sem, Nat.reduceLT, Nat.reduceBEq, Nat.reduceLeDiff, Nat.reduceAdd, Nat.reduceMul, Nat.reduceSub, Nat.reduceEqDiff, Int.reduceNeg, Int.reduceToNat, Int.reduceAdd, Int.reduceSub, findR]
  rw [isAt_eq]
  unfold getN dirE
  generalize findN l k = o
  cases o with
  | none =>
    simp only [Option.getD_none, Option.isSome_none]
    refine cw_go tabOK 99 (by simp only [go_sem, Nat.reduceLT, Nat.reduceBEq, Nat.reduceLeDiff, Nat.reduceAdd, Nat.reduceMul, Nat.reduceSub, Nat.reduceEqDiff, Int.reduceNeg, Int.reduceToNat, Int.reduceAdd, Int.reduceSub, nodeRow, zeroN]; try exact rfl) ?_ ?_
    · simp [nodeRow]
    refine cw_cond (by simp only [go_sem, Nat.reduceLT, Nat.reduceBEq, Nat.reduceLeDiff, Nat.reduceAdd, Nat.reduceMul, Nat.reduceSub, Nat.reduceEqDiff, Int.reduceNeg, Int.reduceToNat, Int.reduceAdd, Int.reduceSub]; try exact rfl) trivial (fun h => ?_) (fun h => ?_)
    · refine cw_go tabOK 99 (by simp only [go_sem, Nat.reduceLT, Nat.reduceBEq, Nat.reduceLeDiff, Nat.reduceAdd, Nat.reduceMul, Nat.reduceSub, Nat.reduceEqDiff, Int.reduceNeg, Int.reduceToNat, Int.reduceAdd, Int.reduceSub, nodeRow, zeroN]; try exact rfl) ?_ ?_
      · simp [nodeRow]
      refine cw_ret ⟨_, _, by simp only [go_sem, Nat.reduceLT, Nat.reduceBEq, Nat.reduceLeDiff, Nat.reduceAdd, Nat.reduceMul, Nat.reduceSub, Nat.reduceEqDiff, Int.reduceNeg, Int.reduceToNat, Int.reduceAdd, Int.reduceSub]; try exact rfl, by simp [go_sem], _, .inr (.inl rfl), ?_, hold2 ?_ ?_⟩
      · simp [nodeRow, zeroN]
      · simp [go_sem, doerRow]
      · simp [go_sem]
    · cases h
  | some n =>
    simp only [Option.getD_some, Option.isSome_some]
    refine cw_go tabOK 99 (by simp only [go_sem, Nat.reduceLT, Nat.reduceBEq, Nat.reduceLeDiff, Nat.reduceAdd, Nat.reduceMul, Nat.reduceSub, Nat.reduceEqDiff, Int.reduceNeg, Int.reduceToNat, Int.reduceAdd, Int.reduceSub, nodeRow]; try exact rfl) ?_ ?_
    · simp [nodeRow]
    refine cw_cond (by simp only [go_sem, Nat.reduceLT, Nat.reduceBEq, Nat.reduceLeDiff, Nat.reduceAdd, Nat.reduceMul, Nat.reduceSub, Nat.reduceEqDiff, Int.reduceNeg, Int.reduceToNat, Int.reduceAdd, Int.reduceSub]; try exact rfl) trivial (fun h => ?_) (fun h => ?_)
    · cases h
    refine cw_go tabOK 99 (by simp only [go_sem, Nat.reduceLT, Nat.reduceBEq, Nat.reduceLeDiff, Nat.reduceAdd, Nat.reduceMul, Nat.reduceSub, Nat.reduceEqDiff, Int.reduceNeg, Int.reduceToNat, Int.reduceAdd, Int.reduceSub, nodeRow]; try exact rfl) ?_ ?_
    · simp [nodeRow]
    refine cw_cond (by simp only [go_sem, Nat.reduceLT, Nat.reduceBEq, Nat.reduceLeDiff, Nat.reduceAdd, Nat.reduceMul, Nat.reduceSub, Nat.reduceEqDiff, Int.reduceNeg, Int.reduceToNat, Int.reduceAdd, Int.reduceSub]; try exact rfl) trivial (fun h => ?_) (fun h => ?_)
    · have hd : n.dir = false := by simpa using h
      refine cw_go tabOK 99 (by simp only [go_sem, Nat.reduceLT, Nat.reduceBEq, Nat.reduceLeDiff, Nat.reduceAdd, Nat.reduceMul, Nat.reduceSub, Nat.reduceEqDiff, Int.reduceNeg, Int.reduceToNat, Int.reduceAdd, Int.reduceSub, nodeRow]; try exact rfl) ?_ ?_
      · simp [nodeRow]
      refine cw_ret ⟨_, _, by simp only [go_sem, Nat.reduceLT, Nat.reduceBEq, Nat.reduceLeDiff, Nat.reduceAdd, Nat.reduceMul, Nat.reduceSub, Nat.reduceEqDiff, Int.reduceNeg, Int.reduceToNat, Int.reduceAdd, Int.reduceSub]; try exact rfl, by simp [go_sem], _, .inr (.inl rfl), ?_, hold2 ?_ ?_⟩
      · simp [nodeRow, hd]
      · simp [go_sem, doerRow]
      · simp [go_sem]
    · have hd : n.dir = true := by simpa using h
      refine cw_go tabOK 99 (by simp only [go_sem, Nat.reduceLT, Nat.reduceBEq, Nat.reduceLeDiff, Nat.reduceAdd, Nat.reduceMul, Nat.reduceSub, Nat.reduceEqDiff, Int.reduceNeg, Int.reduceToNat, Int.reduceAdd, Int.reduceSub, nodeRow]; try exact rfl) ?_ ?_
      · simp [nodeRow]
      refine cw_ret ⟨_, _, by simp only [go_sem, Nat.reduceLT, Nat.reduceBEq, Nat.reduceLeDiff, Nat.reduceAdd, Nat.reduceMul, Nat.reduceSub, Nat.reduceEqDiff, Int.reduceNeg, Int.reduceToNat, Int.reduceAdd, Int.reduceSub]; try exact rfl, by simp [go_sem], _, .inr (.inl rfl), ?_, hold2 ?_ ?_⟩
      · simp [nodeRow, hd]
      · simp [go_sem, doerRow]
      · simp [go_sem]

theorem put_in (l : List Node) (a : Act) (v : Int) (n : Node) (hl : Small l) (hn : n.Small) (G Y N : Nat → Nat) : FnOK Try.prog 147 [.ptr 15 9 0 0, .agg (nodeRow n)] (dH (doerRow l a v) G Y N)
    (fun r H => r = .tup [] ∧ ∀ i b, hget (dH (doerRow (putN l { n with version := v }) a v) G Y N) i = some b → hget H i = some b) := by
  have hp := put_ok l ({ n with version := v } : Node) hl ⟨hn.data, hn.entries⟩
  unfold dH
  refine fn_of_cwW tabOK (Go.Proofs.Try.func147) rfl (fun C => ?_)
  simp only [Go.Proofs.Try.ntmps147, Go.Proofs.Try.results147, go_sem, Nat.reduceLT, Nat.reduceBEq, Nat.reduceLeDiff, Nat.reduceAdd, Nat.reduceMul, Nat.reduceSub, Nat.reduceEqDiff, Int.reduceNeg, Int.reduceToNat, Int.reduceAdd, Int.reduceSub]
  refine cw_go tabOK 99 (by simp only [go_sem, Nat.reduceLT, Nat.reduceBEq, Nat.reduceLeDiff, Nat.reduceAdd, Nat.reduceMul, Nat.reduceSub, Nat.reduceEqDiff, Int.reduceNeg, Int.reduceToNat, Int.reduceAdd, Int.reduceSub, doerRow, nodeRow]; try exact rfl) ?_ ?_
  · simp [doerRow]
  refine cw_freeze 3 rfl (rfl) ?_
  simp only [go_sem, Nat.reduceLT, Nat.reduceBEq, Nat.reduceLeDiff, Nat.reduceAdd, Nat.reduceMul, Nat.reduceSub, Nat.reduceEqDiff, Int.reduceNeg, Int.reduceToNat, Int.reduceAdd, Int.reduceSub]
  refine cw_draw mixed ?_
  refine seg_start rfl ?_
  refine seg_run tabOK (by simp only [go_sem, Nat.reduceLT, Nat.reduceBEq, Nat.reduceLeDiff, Nat.reduceAdd, Nat.reduceMul, Nat.reduceSub, Nat.reduceEqDiff, Int.reduceNeg, Int.reduceToNat, Int.reduceAdd, Int.reduceSub]; try exact rfl) (by simp [go_sem]) (by simp only [go_sem, Nat.reduceLT, Nat.reduceBEq, Nat.reduceLeDiff, Nat.reduceAdd, Nat.reduceMul, Nat.reduceSub, Nat.reduceEqDiff, Int.reduceNeg, Int.reduceToNat, Int.reduceAdd, Int.reduceSub]; exact rfl) ?_
  refine seg_call rfl rfl (by simp only [go_sem, Nat.reduceLT, Nat.reduceBEq, Nat.reduceLeDiff, Nat.reduceAdd, Nat.reduceMul, Nat.reduceSub, Nat.reduceEqDiff, Int.reduceNeg, Int.reduceToNat, Int.reduceAdd, Int.reduceSub]; try exact rfl) (by simp [go_sem]) ⟨_, Go.Proofs.Try.func32, by kernel_rfl, rfl⟩ (by simp [go_sem]) (hp) (by simp [go_sem]) (by simp only [go_sem, Nat.reduceLT, Nat.reduceBEq, Nat.reduceLeDiff, Nat.reduceAdd, Nat.reduceMul, Nat.reduceSub, Nat.reduceEqDiff, Int.reduceNeg, Int.reduceToNat, Int.reduceAdd, Int.reduceSub]; exact rfl) (by simp only [go_sem, Nat.reduceLT, Nat.reduceBEq, Nat.reduceLeDiff, Nat.reduceAdd, Nat.reduceMul, Nat.reduceSub, Nat.reduceEqDiff, Int.reduceNeg, Int.reduceToNat, Int.reduceAdd, Int.reduceSub]; exact rfl) ?_
  refine seg_run tabOK (by simp only [go_sem, Nat.reduceLT, Nat.reduceBEq, Nat.reduceLeDiff, Nat.reduceAdd, Nat.reduceMul, Nat.reduceSub, Nat.reduceEqDiff, Int.reduceNeg, Int.reduceToNat, Int.reduceAdd, Int.reduceSub]; try exact rfl) (by simp [go_sem]) (by simp only [go_sem, Nat.reduceLT, Nat.reduceBEq, Nat.reduceLeDiff, Nat.reduceAdd, Nat.reduceMul, Nat.reduceSub, Nat.reduceEqDiff, Int.reduceNeg, Int.reduceToNat, Int.reduceAdd, Int.reduceSub]; exact rfl) ?_
  refine seg_end (by kernel_rfl) (by simp only [go_sem, Nat.reduceLT, Nat.reduceBEq, Nat.reduceLeDiff, Nat.reduceAdd, Nat.reduceMul, Nat.reduceSub, Nat.reduceEqDiff, Int.reduceNeg, Int.reduceToNat, Int.reduceAdd, Int.reduceSub]; exact rfl) ?_
  refine draw_step tabOK rfl (by kernel_rfl) rfl (by simp only [go_sem, Nat.reduceLT, Nat.reduceBEq, Nat.reduceLeDiff, Nat.reduceAdd, Nat.reduceMul, Nat.reduceSub, Nat.reduceEqDiff, Int.reduceNeg, Int.reduceToNat, Int.reduceAdd, Int.reduceSub]; try exact rfl) (by simp [go_sem]) rfl ?_
  refine draw_close (by kernel_rfl) ?_
  try simp only [go_sem, Nat.reduceLT, Nat.reduceBEq, Nat.reduceLeDiff, Nat.reduceAdd, Nat.reduceMul, Nat.reduceSub, Nat.reduceEqDiff, Int.reduceNeg, Int.reduceToNat, Int.reduceAdd, Int.reduceSub, List.getElem_toArray, List.getElem_cons_succ, List.getElem_cons_zero]
  refine cw_nil ⟨_, _, rfl, trivial, .tup [], .inr (.inl rfl), rfl, hold2 ?_ ?_⟩
  · simp [go_sem, doerRow]
  · simp [go_sem]
end La

namespace La
open Go Go.Eng Go.Proofs
set_option maxRecDepth 10000
set_option linter.unusedSimpArgs false
set_option linter.unusedVariables false

theorem bytesEqual_ok (a b : List UInt8) : FnOK Try.prog 133 [.sl (a.map byteRow), .sl (b.map byteRow)] [] (fun r _ => r = .bool (a == b)) := by
  refine fn_of_cwW tabOK (Go.Proofs.Try.func133) rfl (fun C => ?_)
  simp only [Go.Proofs.Try.ntmps133, Go.Proofs.Try.results133, go_sem, Nat.reduceLT, Nat.reduceBEq, Nat.reduceLeDiff, Nat.reduceAdd, Nat.reduceMul, Nat.reduceSub, Nat.reduceEqDiff, Int.reduceNeg, Int.reduceToNat, Int.reduceAdd, Int.reduceSub]
  refine cw_go tabOK 99 (by simp only [go_sem, Nat.reduceLT, Nat.reduceBEq, Nat.reduceLeDiff, Nat.reduceAdd, Nat.reduceMul, Nat.reduceSub, Nat.reduceEqDiff, Int.reduceNeg, Int.reduceToNat, Int.reduceAdd, Int.reduceSub]; try exact rfl) ?_ ?_
  · simp
  refine cw_ret ⟨_, _, (by simp only [go_sem, Nat.reduceLT, Nat.reduceBEq, Nat.reduceLeDiff, Nat.reduceAdd, Nat.reduceMul, Nat.reduceSub, Nat.reduceEqDiff, Int.reduceNeg, Int.reduceToNat, Int.reduceAdd, Int.reduceSub]; try exact rfl), by simp [go_sem], _, .inr (.inl rfl), ?_⟩
  simp

/-- two lists that are alike as far as one looked -/
theorem take_same {α : Type} [Inhabited α] [DecidableEq α] {a b : List α} {i : Nat} (h : a.take i = b.take i) (ha : i < a.length) (hb : i < b.length) (e : a.getD i default = b.getD i default) : a.take (i + 1) = b.take (i + 1) := by
  rw [take_succ_getD ha, take_succ_getD hb, h, e]
theorem take_diff {α : Type} [Inhabited α] {a b : List α} {i : Nat} (e : ¬ a.getD i default = b.getD i default) : a ≠ b := by rintro rfl; exact e rfl

set_option maxHeartbeats 1000000 in
theorem entriesEqual_ok (a b : List Entry) (ha : a.length ≤ 100000000) (hb : b.length ≤ 100000000) : FnOK Try.prog 134 [.sl (a.map entryRow), .sl (b.map entryRow)] [] (fun r _ => r = .bool (decide (a = b))) := by
  refine fn_of_cwW tabOK (Go.Proofs.Try.func134) rfl (fun C => ?_)
  simp only [Go.Proofs.Try.ntmps134, Go.Proofs.Try.results134, go_sem, Nat.reduceLT, Nat.reduceBEq, Nat.reduceLeDiff, Nat.reduceAdd, Nat.reduceMul, Nat.reduceSub, Nat.reduceEqDiff, Int.reduceNeg, Int.reduceToNat, Int.reduceAdd, Int.reduceSub]
  refine cw_go tabOK 99 (by simp only [go_sem, Nat.reduceLT, Nat.reduceBEq, Nat.reduceLeDiff, Nat.reduceAdd, Nat.reduceMul, Nat.reduceSub, Nat.reduceEqDiff, Int.reduceNeg, Int.reduceToNat, Int.reduceAdd, Int.reduceSub]; try exact rfl) (by simp [go_sem]) ?_
  refine cw_cond (by simp only [go_sem, Nat.reduceLT, Nat.reduceBEq, Nat.reduceLeDiff, Nat.reduceAdd, Nat.reduceMul, Nat.reduceSub, Nat.reduceEqDiff, Int.reduceNeg, Int.reduceToNat, Int.reduceAdd, Int.reduceSub]; try exact rfl) trivial (fun h => ?_) (fun h => ?_)
  · have hne : a ≠ b := by rintro rfl; simp at h
    refine cw_go tabOK 99 (by simp only [go_sem, Nat.reduceLT, Nat.reduceBEq, Nat.reduceLeDiff, Nat.reduceAdd, Nat.reduceMul, Nat.reduceSub, Nat.reduceEqDiff, Int.reduceNeg, Int.reduceToNat, Int.reduceAdd, Int.reduceSub]; try exact rfl) (by simp [go_sem]) ?_
    refine cw_ret ⟨_, _, (by simp only [go_sem, Nat.reduceLT, Nat.reduceBEq, Nat.reduceLeDiff, Nat.reduceAdd, Nat.reduceMul, Nat.reduceSub, Nat.reduceEqDiff, Int.reduceNeg, Int.reduceToNat, Int.reduceAdd, Int.reduceSub]; try exact rfl), by simp [go_sem], _, .inr (.inl rfl), ?_⟩
    simp [hne]
  have hl : a.length = b.length := by simp at h; omega
  refine cw_go tabOK 99 (by simp only [go_sem, Nat.reduceLT, Nat.reduceBEq, Nat.reduceLeDiff, Nat.reduceAdd, Nat.reduceMul, Nat.reduceSub, Nat.reduceEqDiff, Int.reduceNeg, Int.reduceToNat, Int.reduceAdd, Int.reduceSub]; try exact rfl) (by simp [go_sem]) ?_
  refine cw_loopS (fun i : Nat => i ≤ a.length ∧ a.take i = b.take i) (fun i => a.length - i) (fun i => [(5, .any), (13, .int .i64 i), (14, .any), (15, .any), (16, .any), (17, .any), (18, .any), (19, .any), (20, .any), (21, .any), (22, .any), (23, .any), (24, .any), (25, .any)]) (fun _ => []) 0 ⟨by omega, by simp⟩ ?_ fun i hi => ?_
  · simp only [go_sem, Nat.reduceLT, Nat.reduceBEq, Nat.reduceLeDiff, Nat.reduceAdd, Nat.reduceMul, Nat.reduceSub, Nat.reduceEqDiff, Int.reduceNeg, Int.reduceToNat, Int.reduceAdd, Int.reduceSub]
    exact le_sub (by simp [go_sem]) (by simp [go_sem]) (by simp [go_sem])
  obtain ⟨hi, hs⟩ := hi
  simp only [go_sem, Nat.reduceLT, Nat.reduceBEq, Nat.reduceLeDiff, Nat.reduceAdd, Nat.reduceMul, Nat.reduceSub, Nat.reduceEqDiff, Int.reduceNeg, Int.reduceToNat, Int.reduceAdd, Int.reduceSub]
  refine cw_go tabOK 99 (by simp only [go_sem, Nat.reduceLT, Nat.reduceBEq, Nat.reduceLeDiff, Nat.reduceAdd, Nat.reduceMul, Nat.reduceSub, Nat.reduceEqDiff, Int.reduceNeg, Int.reduceToNat, Int.reduceAdd, Int.reduceSub]; try exact rfl) (by simp [go_sem]) ?_
  refine cw_cond (by simp only [go_sem, Nat.reduceLT, Nat.reduceBEq, Nat.reduceLeDiff, Nat.reduceAdd, Nat.reduceMul, Nat.reduceSub, Nat.reduceEqDiff, Int.reduceNeg, Int.reduceToNat, Int.reduceAdd, Int.reduceSub]; try exact rfl) trivial (fun h => ?_) (fun h => ?_)
  · have hlt : i < a.length := by simp at h; omega
    have hltb : i < b.length := by omega
    have hga : (a.map entryRow).getD i [] = entryRow (a.getD i default) := Fam.getD hlt
    have hgb : (b.map entryRow).getD i [] = entryRow (b.getD i default) := Fam.getD hltb
    have htk := take_same hs hlt hltb
    have htd := take_diff (a := a) (b := b) (i := i)
    generalize a.getD i default = x at hga htk htd
    generalize b.getD i default = y at hgb htk htd
    refine cw_go tabOK 99 (by simp only [go_sem, Nat.reduceLT, Nat.reduceBEq, Nat.reduceLeDiff, Nat.reduceAdd, Nat.reduceMul, Nat.reduceSub, Nat.reduceEqDiff, Int.reduceNeg, Int.reduceToNat, Int.reduceAdd, Int.reduceSub]; try exact rfl) (by simp [go_sem]) ?_
    refine cw_draw mixed ?_
    refine seg_start rfl ?_
    refine seg_runN tabOK 8 (by simp only [go_sem, Nat.reduceLT, Nat.reduceBEq, Nat.reduceLeDiff, Nat.reduceAdd, Nat.reduceMul, Nat.reduceSub, Nat.reduceEqDiff, Int.reduceNeg, Int.reduceToNat, Int.reduceAdd, Int.reduceSub]; exact rfl) (by simp only [go_sem, Nat.reduceLT, Nat.reduceBEq, Nat.reduceLeDiff, Nat.reduceAdd, Nat.reduceMul, Nat.reduceSub, Nat.reduceEqDiff, Int.reduceNeg, Int.reduceToNat, Int.reduceAdd, Int.reduceSub]; exact rfl) (by simp only [go_sem, Nat.reduceLT, Nat.reduceBEq, Nat.reduceLeDiff, Nat.reduceAdd, Nat.reduceMul, Nat.reduceSub, Nat.reduceEqDiff, Int.reduceNeg, Int.reduceToNat, Int.reduceAdd, Int.reduceSub, hga, hgb, entryRow]; try exact rfl) ?_ (by simp only [go_sem, Nat.reduceLT, Nat.reduceBEq, Nat.reduceLeDiff, Nat.reduceAdd, Nat.reduceMul, Nat.reduceSub, Nat.reduceEqDiff, Int.reduceNeg, Int.reduceToNat, Int.reduceAdd, Int.reduceSub]; exact rfl) ?_
    · simp [hga, hgb, entryRow, hlt, hltb]
    refine seg_end (by kernel_rfl) (by simp only [go_sem, Nat.reduceLT, Nat.reduceBEq, Nat.reduceLeDiff, Nat.reduceAdd, Nat.reduceMul, Nat.reduceSub, Nat.reduceEqDiff, Int.reduceNeg, Int.reduceToNat, Int.reduceAdd, Int.reduceSub]; exact rfl) ?_
    refine draw_trip rfl (by kernel_rfl) rfl (trip_eqS tabOK rfl (tys := [9, 3]) (by kernel_rfl) (by simp only [go_sem, Nat.reduceLT, Nat.reduceBEq, Nat.reduceLeDiff, Nat.reduceAdd, Nat.reduceMul, Nat.reduceSub, Nat.reduceEqDiff, Int.reduceNeg, Int.reduceToNat, Int.reduceAdd, Int.reduceSub]; try exact rfl) (by simp only [go_sem, Nat.reduceLT, Nat.reduceBEq, Nat.reduceLeDiff, Nat.reduceAdd, Nat.reduceMul, Nat.reduceSub, Nat.reduceEqDiff, Int.reduceNeg, Int.reduceToNat, Int.reduceAdd, Int.reduceSub]; try exact rfl) (by simp only [go_sem, Nat.reduceLT, Nat.reduceBEq, Nat.reduceLeDiff, Nat.reduceAdd, Nat.reduceMul, Nat.reduceSub, Nat.reduceEqDiff, Int.reduceNeg, Int.reduceToNat, Int.reduceAdd, Int.reduceSub]; exact rfl) (by first | exact .inl ⟨rfl, rfl⟩ | exact .inr ⟨rfl, rfl⟩)) rfl ?_
    refine draw_close (by kernel_rfl) ?_
    have hxy : (x.name == y.name && x.fid == y.fid) = decide (x = y) := by
      obtain ⟨n1, f1⟩ := x
      obtain ⟨n2, f2⟩ := y
      by_cases h1 : n1 = n2 <;> by_cases h2 : f1 = f2 <;> simp [h1, h2]
    simp only [go_sem, Nat.reduceLT, Nat.reduceBEq, Nat.reduceLeDiff, Nat.reduceAdd, Nat.reduceMul, Nat.reduceSub, Nat.reduceEqDiff, Int.reduceNeg, Int.reduceToNat, Int.reduceAdd, Int.reduceSub, Bool.and_true, hxy]
    refine cw_go tabOK 99 (by simp only [go_sem, Nat.reduceLT, Nat.reduceBEq, Nat.reduceLeDiff, Nat.reduceAdd, Nat.reduceMul, Nat.reduceSub, Nat.reduceEqDiff, Int.reduceNeg, Int.reduceToNat, Int.reduceAdd, Int.reduceSub]; try exact rfl) (by simp [go_sem]) ?_
    refine cw_cond (by simp only [go_sem, Nat.reduceLT, Nat.reduceBEq, Nat.reduceLeDiff, Nat.reduceAdd, Nat.reduceMul, Nat.reduceSub, Nat.reduceEqDiff, Int.reduceNeg, Int.reduceToNat, Int.reduceAdd, Int.reduceSub]; try exact rfl) trivial (fun h => ?_) (fun h => ?_)
    · have hne : x ≠ y := by simpa using h
      have := htd hne
      refine cw_go tabOK 99 (by simp only [go_sem, Nat.reduceLT, Nat.reduceBEq, Nat.reduceLeDiff, Nat.reduceAdd, Nat.reduceMul, Nat.reduceSub, Nat.reduceEqDiff, Int.reduceNeg, Int.reduceToNat, Int.reduceAdd, Int.reduceSub]; try exact rfl) (by simp [go_sem]) ?_
      refine cw_ret ⟨_, _, (by simp only [go_sem, Nat.reduceLT, Nat.reduceBEq, Nat.reduceLeDiff, Nat.reduceAdd, Nat.reduceMul, Nat.reduceSub, Nat.reduceEqDiff, Int.reduceNeg, Int.reduceToNat, Int.reduceAdd, Int.reduceSub]; try exact rfl), by simp [go_sem], _, .inr (.inl rfl), ?_⟩
      simp [this]
    · have heq : x = y := by simpa using h
      have hw : IntKind.i64.wrap ((i : Int) + 1) = ((i + 1 : Nat) : Int) := by rw [Eng.wrap_small (by omega) (by omega)]; rfl
      refine cw_go tabOK 99 (by simp only [go_sem, Nat.reduceLT, Nat.reduceBEq, Nat.reduceLeDiff, Nat.reduceAdd, Nat.reduceMul, Nat.reduceSub, Nat.reduceEqDiff, Int.reduceNeg, Int.reduceToNat, Int.reduceAdd, Int.reduceSub, hw]; try exact rfl) (by simp [go_sem, hw]) ?_
      refine cw_back ⟨i + 1, ⟨by omega, htk heq⟩, by omega, le_sub ?_ ?_ ?_⟩
      · simp [go_sem]; exact hw
      · simp [go_sem]
      · simp [go_sem]
  · have e : i = a.length := by simp at h; omega
    have hab : a = b := by
      rw [e, List.take_length, hl, List.take_length] at hs; exact hs
    refine cw_go tabOK 99 (by simp only [go_sem, Nat.reduceLT, Nat.reduceBEq, Nat.reduceLeDiff, Nat.reduceAdd, Nat.reduceMul, Nat.reduceSub, Nat.reduceEqDiff, Int.reduceNeg, Int.reduceToNat, Int.reduceAdd, Int.reduceSub]; try exact rfl) (by simp [go_sem]) ?_
    refine cw_ret ⟨_, _, (by simp only [go_sem, Nat.reduceLT, Nat.reduceBEq, Nat.reduceLeDiff, Nat.reduceAdd, Nat.reduceMul, Nat.reduceSub, Nat.reduceEqDiff, Int.reduceNeg, Int.reduceToNat, Int.reduceAdd, Int.reduceSub]; try exact rfl), by simp [go_sem], _, .inr (.inl rfl), ?_⟩
    simp [hab]

def sameN (v : Bool) (a b : Node) : Bool := a.fid == b.fid && a.dir == b.dir && a.data == b.data && decide (a.entries = b.entries) && (!v || a.version == b.version)

set_option maxHeartbeats 1000000 in
theorem sameNode_ok (a b : Node) (v : Bool) (ha : a.Small) (hb : b.Small) : FnOK Try.prog 34 [.agg (nodeRow a), .agg (nodeRow b), .bool v] [] (fun r _ => r = .bool (sameN v a b)) := by
  have hla := ha.entries
  have hlb := hb.entries
  unfold nodeRow
  refine fn_of_cwW tabOK (Go.Proofs.Try.func34) rfl (fun C => ?_)
  simp only [Go.Proofs.Try.ntmps34, Go.Proofs.Try.results34, go_sem, Nat.reduceLT, Nat.reduceBEq, Nat.reduceLeDiff, Nat.reduceAdd, Nat.reduceMul, Nat.reduceSub, Nat.reduceEqDiff, Int.reduceNeg, Int.reduceToNat, Int.reduceAdd, Int.reduceSub]
  refine cw_goR 99 (by simp only [go_sem, Nat.reduceLT, Nat.reduceBEq, Nat.reduceLeDiff, Nat.reduceAdd, Nat.reduceMul, Nat.reduceSub, Nat.reduceEqDiff, Int.reduceNeg, Int.reduceToNat, Int.reduceAdd, Int.reduceSub]; try exact rfl) ?_
  refine cw_runN tabOK 3 (by simp only [go_sem, Nat.reduceLT, Nat.reduceBEq, Nat.reduceLeDiff, Nat.reduceAdd, Nat.reduceMul, Nat.reduceSub, Nat.reduceEqDiff, Int.reduceNeg, Int.reduceToNat, Int.reduceAdd, Int.reduceSub]; exact rfl) (by simp only [go_sem, Nat.reduceLT, Nat.reduceBEq, Nat.reduceLeDiff, Nat.reduceAdd, Nat.reduceMul, Nat.reduceSub, Nat.reduceEqDiff, Int.reduceNeg, Int.reduceToNat, Int.reduceAdd, Int.reduceSub]; exact rfl) (by simp only [go_sem, Nat.reduceLT, Nat.reduceBEq, Nat.reduceLeDiff, Nat.reduceAdd, Nat.reduceMul, Nat.reduceSub, Nat.reduceEqDiff, Int.reduceNeg, Int.reduceToNat, Int.reduceAdd, Int.reduceSub]; try exact rfl) (by simp [go_sem]) ?_
  refine cw_goR 99 (by simp only [go_sem, Nat.reduceLT, Nat.reduceBEq, Nat.reduceLeDiff, Nat.reduceAdd, Nat.reduceMul, Nat.reduceSub, Nat.reduceEqDiff, Int.reduceNeg, Int.reduceToNat, Int.reduceAdd, Int.reduceSub]; try exact rfl) ?_
  refine cw_freeze 3 rfl (rfl) ?_
  refine cw_freeze 4 rfl (rfl) ?_
  simp only [go_sem, Nat.reduceLT, Nat.reduceBEq, Nat.reduceLeDiff, Nat.reduceAdd, Nat.reduceMul, Nat.reduceSub, Nat.reduceEqDiff, Int.reduceNeg, Int.reduceToNat, Int.reduceAdd, Int.reduceSub]
  refine cw_runN tabOK 5 (by simp only [go_sem, Nat.reduceLT, Nat.reduceBEq, Nat.reduceLeDiff, Nat.reduceAdd, Nat.reduceMul, Nat.reduceSub, Nat.reduceEqDiff, Int.reduceNeg, Int.reduceToNat, Int.reduceAdd, Int.reduceSub]; exact rfl) (by simp only [go_sem, Nat.reduceLT, Nat.reduceBEq, Nat.reduceLeDiff, Nat.reduceAdd, Nat.reduceMul, Nat.reduceSub, Nat.reduceEqDiff, Int.reduceNeg, Int.reduceToNat, Int.reduceAdd, Int.reduceSub]; exact rfl) (by simp only [go_sem, Nat.reduceLT, Nat.reduceBEq, Nat.reduceLeDiff, Nat.reduceAdd, Nat.reduceMul, Nat.reduceSub, Nat.reduceEqDiff, Int.reduceNeg, Int.reduceToNat, Int.reduceAdd, Int.reduceSub]; try exact rfl) (by simp [go_sem]) ?_
  refine cw_name 12 (by simp only [go_sem, Nat.reduceLT, Nat.reduceBEq, Nat.reduceLeDiff, Nat.reduceAdd, Nat.reduceMul, Nat.reduceSub, Nat.reduceEqDiff, Int.reduceNeg, Int.reduceToNat, Int.reduceAdd, Int.reduceSub]; exact rfl) (fun c12 h12 => ?_)
  simp only [go_sem, Nat.reduceLT, Nat.reduceBEq, Nat.reduceLeDiff, Nat.reduceAdd, Nat.reduceMul, Nat.reduceSub, Nat.reduceEqDiff, Int.reduceNeg, Int.reduceToNat, Int.reduceAdd, Int.reduceSub]
  refine cw_runN tabOK 7 (by simp only [go_sem, Nat.reduceLT, Nat.reduceBEq, Nat.reduceLeDiff, Nat.reduceAdd, Nat.reduceMul, Nat.reduceSub, Nat.reduceEqDiff, Int.reduceNeg, Int.reduceToNat, Int.reduceAdd, Int.reduceSub]; exact rfl) (by simp only [go_sem, Nat.reduceLT, Nat.reduceBEq, Nat.reduceLeDiff, Nat.reduceAdd, Nat.reduceMul, Nat.reduceSub, Nat.reduceEqDiff, Int.reduceNeg, Int.reduceToNat, Int.reduceAdd, Int.reduceSub]; exact rfl) (by simp only [go_sem, Nat.reduceLT, Nat.reduceBEq, Nat.reduceLeDiff, Nat.reduceAdd, Nat.reduceMul, Nat.reduceSub, Nat.reduceEqDiff, Int.reduceNeg, Int.reduceToNat, Int.reduceAdd, Int.reduceSub]; try exact rfl) (by simp [go_sem]) ?_
  refine cw_name 19 (by simp only [go_sem, Nat.reduceLT, Nat.reduceBEq, Nat.reduceLeDiff, Nat.reduceAdd, Nat.reduceMul, Nat.reduceSub, Nat.reduceEqDiff, Int.reduceNeg, Int.reduceToNat, Int.reduceAdd, Int.reduceSub]; exact rfl) (fun c19 h19 => ?_)
  simp only [go_sem, Nat.reduceLT, Nat.reduceBEq, Nat.reduceLeDiff, Nat.reduceAdd, Nat.reduceMul, Nat.reduceSub, Nat.reduceEqDiff, Int.reduceNeg, Int.reduceToNat, Int.reduceAdd, Int.reduceSub]
  refine cw_runN tabOK 9 (by simp only [go_sem, Nat.reduceLT, Nat.reduceBEq, Nat.reduceLeDiff, Nat.reduceAdd, Nat.reduceMul, Nat.reduceSub, Nat.reduceEqDiff, Int.reduceNeg, Int.reduceToNat, Int.reduceAdd, Int.reduceSub]; exact rfl) (by simp only [go_sem, Nat.reduceLT, Nat.reduceBEq, Nat.reduceLeDiff, Nat.reduceAdd, Nat.reduceMul, Nat.reduceSub, Nat.reduceEqDiff, Int.reduceNeg, Int.reduceToNat, Int.reduceAdd, Int.reduceSub]; exact rfl) (by simp only [go_sem, Nat.reduceLT, Nat.reduceBEq, Nat.reduceLeDiff, Nat.reduceAdd, Nat.reduceMul, Nat.reduceSub, Nat.reduceEqDiff, Int.reduceNeg, Int.reduceToNat, Int.reduceAdd, Int.reduceSub]; try exact rfl) (by simp [go_sem]) ?_
  refine cw_name 28 (by simp only [go_sem, Nat.reduceLT, Nat.reduceBEq, Nat.reduceLeDiff, Nat.reduceAdd, Nat.reduceMul, Nat.reduceSub, Nat.reduceEqDiff, Int.reduceNeg, Int.reduceToNat, Int.reduceAdd, Int.reduceSub]; exact rfl) (fun c28 h28 => ?_)
  simp only [go_sem, Nat.reduceLT, Nat.reduceBEq, Nat.reduceLeDiff, Nat.reduceAdd, Nat.reduceMul, Nat.reduceSub, Nat.reduceEqDiff, Int.reduceNeg, Int.reduceToNat, Int.reduceAdd, Int.reduceSub]
  refine cw_runN tabOK 9 (by simp only [go_sem, Nat.reduceLT, Nat.reduceBEq, Nat.reduceLeDiff, Nat.reduceAdd, Nat.reduceMul, Nat.reduceSub, Nat.reduceEqDiff, Int.reduceNeg, Int.reduceToNat, Int.reduceAdd, Int.reduceSub]; exact rfl) (by simp only [go_sem, Nat.reduceLT, Nat.reduceBEq, Nat.reduceLeDiff, Nat.reduceAdd, Nat.reduceMul, Nat.reduceSub, Nat.reduceEqDiff, Int.reduceNeg, Int.reduceToNat, Int.reduceAdd, Int.reduceSub]; exact rfl) (by simp only [go_sem, Nat.reduceLT, Nat.reduceBEq, Nat.reduceLeDiff, Nat.reduceAdd, Nat.reduceMul, Nat.reduceSub, Nat.reduceEqDiff, Int.reduceNeg, Int.reduceToNat, Int.reduceAdd, Int.reduceSub]; try exact rfl) (by simp [go_sem]) ?_
  refine cw_name 37 (by simp only [go_sem, Nat.reduceLT, Nat.reduceBEq, Nat.reduceLeDiff, Nat.reduceAdd, Nat.reduceMul, Nat.reduceSub, Nat.reduceEqDiff, Int.reduceNeg, Int.reduceToNat, Int.reduceAdd, Int.reduceSub]; exact rfl) (fun c37 h37 => ?_)
  simp only [go_sem, Nat.reduceLT, Nat.reduceBEq, Nat.reduceLeDiff, Nat.reduceAdd, Nat.reduceMul, Nat.reduceSub, Nat.reduceEqDiff, Int.reduceNeg, Int.reduceToNat, Int.reduceAdd, Int.reduceSub]
  refine cw_runN tabOK 10 (by simp only [go_sem, Nat.reduceLT, Nat.reduceBEq, Nat.reduceLeDiff, Nat.reduceAdd, Nat.reduceMul, Nat.reduceSub, Nat.reduceEqDiff, Int.reduceNeg, Int.reduceToNat, Int.reduceAdd, Int.reduceSub]; exact rfl) (by simp only [go_sem, Nat.reduceLT, Nat.reduceBEq, Nat.reduceLeDiff, Nat.reduceAdd, Nat.reduceMul, Nat.reduceSub, Nat.reduceEqDiff, Int.reduceNeg, Int.reduceToNat, Int.reduceAdd, Int.reduceSub]; exact rfl) (by simp only [go_sem, Nat.reduceLT, Nat.reduceBEq, Nat.reduceLeDiff, Nat.reduceAdd, Nat.reduceMul, Nat.reduceSub, Nat.reduceEqDiff, Int.reduceNeg, Int.reduceToNat, Int.reduceAdd, Int.reduceSub]; try exact rfl) ?_ ?_
  · cases c37 <;> cases v <;> simp
  refine cw_name 47 (by simp only [go_sem, Nat.reduceLT, Nat.reduceBEq, Nat.reduceLeDiff, Nat.reduceAdd, Nat.reduceMul, Nat.reduceSub, Nat.reduceEqDiff, Int.reduceNeg, Int.reduceToNat, Int.reduceAdd, Int.reduceSub]; exact rfl) (fun c47 h47 => ?_)
  simp only [go_sem, Nat.reduceLT, Nat.reduceBEq, Nat.reduceLeDiff, Nat.reduceAdd, Nat.reduceMul, Nat.reduceSub, Nat.reduceEqDiff, Int.reduceNeg, Int.reduceToNat, Int.reduceAdd, Int.reduceSub]
  have hdiff : c47 = !(a.fid == b.fid && a.dir == b.dir && a.data == b.data && (a.entries.length == b.entries.length) && (!v || a.version == b.version)) := by
    subst h47 h37 h28 h19 h12
    have e : ((a.entries.length : Int) != (b.entries.length : Int)) = !(a.entries.length == b.entries.length) := by
      rw [Bool.eq_iff_iff]; simp; omega
    rw [e]
    simp only [bne]
    cases (a.fid == b.fid) <;> cases (a.dir == b.dir) <;> cases (a.data == b.data) <;> cases (a.entries.length == b.entries.length) <;> cases v <;> cases (a.version == b.version) <;> rfl
  refine cw_cond (by simp only [go_sem, Nat.reduceLT, Nat.reduceBEq, Nat.reduceLeDiff, Nat.reduceAdd, Nat.reduceMul, Nat.reduceSub, Nat.reduceEqDiff, Int.reduceNeg, Int.reduceToNat, Int.reduceAdd, Int.reduceSub]; try exact rfl) trivial (fun h => ?_) (fun h => ?_)
  · rw [hdiff] at h
    refine cw_go tabOK 99 (by simp only [go_sem, Nat.reduceLT, Nat.reduceBEq, Nat.reduceLeDiff, Nat.reduceAdd, Nat.reduceMul, Nat.reduceSub, Nat.reduceEqDiff, Int.reduceNeg, Int.reduceToNat, Int.reduceAdd, Int.reduceSub]; try exact rfl) (by simp [go_sem]) ?_
    refine cw_ret ⟨_, _, (by simp only [go_sem, Nat.reduceLT, Nat.reduceBEq, Nat.reduceLeDiff, Nat.reduceAdd, Nat.reduceMul, Nat.reduceSub, Nat.reduceEqDiff, Int.reduceNeg, Int.reduceToNat, Int.reduceAdd, Int.reduceSub]; try exact rfl), by simp [go_sem], _, .inr (.inl rfl), ?_⟩
    have : sameN v a b = false := by
      unfold sameN
      have hn : decide (a.entries = b.entries) = true → (a.entries.length == b.entries.length) = true := fun h => by
        rw [of_decide_eq_true h]; simp
      revert h hn
      cases (a.fid == b.fid) <;> cases (a.dir == b.dir) <;> cases (a.data == b.data) <;> cases (a.entries.length == b.entries.length) <;> cases v <;> cases (a.version == b.version) <;> cases decide (a.entries = b.entries) <;> simp
    rw [this]
  rw [hdiff] at h
  have hl : a.entries.length = b.entries.length := by
    revert h
    cases e : (a.entries.length == b.entries.length)
    · simp
    · intro _; simpa using e
  have hsn : sameN v a b = decide (a.entries = b.entries) := by
    unfold sameN
    revert h
    cases (a.fid == b.fid) <;> cases (a.dir == b.dir) <;> cases (a.data == b.data) <;> cases (a.entries.length == b.entries.length) <;> cases v <;> cases (a.version == b.version) <;> simp
  rw [hsn]
  clear h12 h19 h28 h37 h47
  refine cw_go tabOK 99 (by simp only [go_sem, Nat.reduceLT, Nat.reduceBEq, Nat.reduceLeDiff, Nat.reduceAdd, Nat.reduceMul, Nat.reduceSub, Nat.reduceEqDiff, Int.reduceNeg, Int.reduceToNat, Int.reduceAdd, Int.reduceSub]; try exact rfl) (by simp [go_sem]) ?_
  refine cw_loopS (fun i : Nat => i ≤ a.entries.length ∧ a.entries.take i = b.entries.take i) (fun i => a.entries.length - i) (fun i => [(7, .any), (51, .int .i64 i), (52, .any), (53, .any), (54, .any), (55, .any), (56, .any), (57, .any), (58, .any), (59, .any), (60, .any), (61, .any), (62, .any), (63, .any), (64, .any), (65, .any)]) (fun _ => []) 0 ⟨by omega, by simp⟩ ?_ fun i hi => ?_
  · simp only [go_sem, Nat.reduceLT, Nat.reduceBEq, Nat.reduceLeDiff, Nat.reduceAdd, Nat.reduceMul, Nat.reduceSub, Nat.reduceEqDiff, Int.reduceNeg, Int.reduceToNat, Int.reduceAdd, Int.reduceSub]
    exact le_sub (by simp [go_sem]) (by simp [go_sem]) (by simp [go_sem])
  obtain ⟨hi, hs⟩ := hi
  simp only [go_sem, Nat.reduceLT, Nat.reduceBEq, Nat.reduceLeDiff, Nat.reduceAdd, Nat.reduceMul, Nat.reduceSub, Nat.reduceEqDiff, Int.reduceNeg, Int.reduceToNat, Int.reduceAdd, Int.reduceSub]
  refine cw_go tabOK 99 (by simp only [go_sem, Nat.reduceLT, Nat.reduceBEq, Nat.reduceLeDiff, Nat.reduceAdd, Nat.reduceMul, Nat.reduceSub, Nat.reduceEqDiff, Int.reduceNeg, Int.reduceToNat, Int.reduceAdd, Int.reduceSub]; try exact rfl) (by simp [go_sem]) ?_
  refine cw_cond (by simp only [go_sem, Nat.reduceLT, Nat.reduceBEq, Nat.reduceLeDiff, Nat.reduceAdd, Nat.reduceMul, Nat.reduceSub, Nat.reduceEqDiff, Int.reduceNeg, Int.reduceToNat, Int.reduceAdd, Int.reduceSub]; try exact rfl) trivial (fun h => ?_) (fun h => ?_)
  · have hlt : i < a.entries.length := by simp at h; omega
    have hltb : i < b.entries.length := by omega
    have hga : (a.entries.map entryRow).getD i [] = entryRow (a.entries.getD i default) := Fam.getD hlt
    have hgb : (b.entries.map entryRow).getD i [] = entryRow (b.entries.getD i default) := Fam.getD hltb
    have htk := take_same hs hlt hltb
    have htd := take_diff (a := a.entries) (b := b.entries) (i := i)
    generalize a.entries.getD i default = x at hga htk htd
    generalize b.entries.getD i default = y at hgb htk htd
    refine cw_go tabOK 99 (by simp only [go_sem, Nat.reduceLT, Nat.reduceBEq, Nat.reduceLeDiff, Nat.reduceAdd, Nat.reduceMul, Nat.reduceSub, Nat.reduceEqDiff, Int.reduceNeg, Int.reduceToNat, Int.reduceAdd, Int.reduceSub]; try exact rfl) (by simp [go_sem]) ?_
    refine cw_draw mixed ?_
    refine seg_start rfl ?_
    refine seg_runN tabOK 10 (by simp only [go_sem, Nat.reduceLT, Nat.reduceBEq, Nat.reduceLeDiff, Nat.reduceAdd, Nat.reduceMul, Nat.reduceSub, Nat.reduceEqDiff, Int.reduceNeg, Int.reduceToNat, Int.reduceAdd, Int.reduceSub]; exact rfl) (by simp only [go_sem, Nat.reduceLT, Nat.reduceBEq, Nat.reduceLeDiff, Nat.reduceAdd, Nat.reduceMul, Nat.reduceSub, Nat.reduceEqDiff, Int.reduceNeg, Int.reduceToNat, Int.reduceAdd, Int.reduceSub]; exact rfl) (by simp only [go_sem, Nat.reduceLT, Nat.reduceBEq, Nat.reduceLeDiff, Nat.reduceAdd, Nat.reduceMul, Nat.reduceSub, Nat.reduceEqDiff, Int.reduceNeg, Int.reduceToNat, Int.reduceAdd, Int.reduceSub, hga, hgb, entryRow]; try exact rfl) ?_ (by simp only [go_sem, Nat.reduceLT, Nat.reduceBEq, Nat.reduceLeDiff, Nat.reduceAdd, Nat.reduceMul, Nat.reduceSub, Nat.reduceEqDiff, Int.reduceNeg, Int.reduceToNat, Int.reduceAdd, Int.reduceSub]; exact rfl) ?_
    · simp [hga, hgb, entryRow, hlt, hltb]
    refine seg_end (by kernel_rfl) (by simp only [go_sem, Nat.reduceLT, Nat.reduceBEq, Nat.reduceLeDiff, Nat.reduceAdd, Nat.reduceMul, Nat.reduceSub, Nat.reduceEqDiff, Int.reduceNeg, Int.reduceToNat, Int.reduceAdd, Int.reduceSub]; exact rfl) ?_
    refine draw_trip rfl (by kernel_rfl) rfl (trip_eqS tabOK rfl (tys := [9, 3]) (by kernel_rfl) (by simp only [go_sem, Nat.reduceLT, Nat.reduceBEq, Nat.reduceLeDiff, Nat.reduceAdd, Nat.reduceMul, Nat.reduceSub, Nat.reduceEqDiff, Int.reduceNeg, Int.reduceToNat, Int.reduceAdd, Int.reduceSub]; try exact rfl) (by simp only [go_sem, Nat.reduceLT, Nat.reduceBEq, Nat.reduceLeDiff, Nat.reduceAdd, Nat.reduceMul, Nat.reduceSub, Nat.reduceEqDiff, Int.reduceNeg, Int.reduceToNat, Int.reduceAdd, Int.reduceSub]; try exact rfl) (by simp only [go_sem, Nat.reduceLT, Nat.reduceBEq, Nat.reduceLeDiff, Nat.reduceAdd, Nat.reduceMul, Nat.reduceSub, Nat.reduceEqDiff, Int.reduceNeg, Int.reduceToNat, Int.reduceAdd, Int.reduceSub]; exact rfl) (by first | exact .inl ⟨rfl, rfl⟩ | exact .inr ⟨rfl, rfl⟩)) rfl ?_
    refine draw_close (by kernel_rfl) ?_
    have hxy : (x.name == y.name && x.fid == y.fid) = decide (x = y) := by
      obtain ⟨n1, f1⟩ := x
      obtain ⟨n2, f2⟩ := y
      by_cases h1 : n1 = n2 <;> by_cases h2 : f1 = f2 <;> simp [h1, h2]
    simp only [go_sem, Nat.reduceLT, Nat.reduceBEq, Nat.reduceLeDiff, Nat.reduceAdd, Nat.reduceMul, Nat.reduceSub, Nat.reduceEqDiff, Int.reduceNeg, Int.reduceToNat, Int.reduceAdd, Int.reduceSub, Bool.and_true, hxy]
    refine cw_go tabOK 99 (by simp only [go_sem, Nat.reduceLT, Nat.reduceBEq, Nat.reduceLeDiff, Nat.reduceAdd, Nat.reduceMul, Nat.reduceSub, Nat.reduceEqDiff, Int.reduceNeg, Int.reduceToNat, Int.reduceAdd, Int.reduceSub]; try exact rfl) (by simp [go_sem]) ?_
    refine cw_cond (by simp only [go_sem, Nat.reduceLT, Nat.reduceBEq, Nat.reduceLeDiff, Nat.reduceAdd, Nat.reduceMul, Nat.reduceSub, Nat.reduceEqDiff, Int.reduceNeg, Int.reduceToNat, Int.reduceAdd, Int.reduceSub]; try exact rfl) trivial (fun h => ?_) (fun h => ?_)
    · have hne : x ≠ y := by simpa using h
      have := htd hne
      refine cw_go tabOK 99 (by simp only [go_sem, Nat.reduceLT, Nat.reduceBEq, Nat.reduceLeDiff, Nat.reduceAdd, Nat.reduceMul, Nat.reduceSub, Nat.reduceEqDiff, Int.reduceNeg, Int.reduceToNat, Int.reduceAdd, Int.reduceSub]; try exact rfl) (by simp [go_sem]) ?_
      refine cw_ret ⟨_, _, (by simp only [go_sem, Nat.reduceLT, Nat.reduceBEq, Nat.reduceLeDiff, Nat.reduceAdd, Nat.reduceMul, Nat.reduceSub, Nat.reduceEqDiff, Int.reduceNeg, Int.reduceToNat, Int.reduceAdd, Int.reduceSub]; try exact rfl), by simp [go_sem], _, .inr (.inl rfl), ?_⟩
      simp [this]
    · have heq : x = y := by simpa using h
      have hw : IntKind.i64.wrap ((i : Int) + 1) = ((i + 1 : Nat) : Int) := by rw [Eng.wrap_small (by omega) (by omega)]; rfl
      refine cw_go tabOK 99 (by simp only [go_sem, Nat.reduceLT, Nat.reduceBEq, Nat.reduceLeDiff, Nat.reduceAdd, Nat.reduceMul, Nat.reduceSub, Nat.reduceEqDiff, Int.reduceNeg, Int.reduceToNat, Int.reduceAdd, Int.reduceSub, hw]; try exact rfl) (by simp [go_sem, hw]) ?_
      refine cw_back ⟨i + 1, ⟨by omega, htk heq⟩, by omega, le_sub ?_ ?_ ?_⟩
      · simp [go_sem]; exact hw
      · simp [go_sem]
      · simp [go_sem]
  · have e : i = a.entries.length := by simp at h; omega
    have hab : a.entries = b.entries := by
      rw [e, List.take_length, hl, List.take_length] at hs; exact hs
    refine cw_go tabOK 99 (by simp only [go_sem, Nat.reduceLT, Nat.reduceBEq, Nat.reduceLeDiff, Nat.reduceAdd, Nat.reduceMul, Nat.reduceSub, Nat.reduceEqDiff, Int.reduceNeg, Int.reduceToNat, Int.reduceAdd, Int.reduceSub]; try exact rfl) (by simp [go_sem]) ?_
    refine cw_ret ⟨_, _, (by simp only [go_sem, Nat.reduceLT, Nat.reduceBEq, Nat.reduceLeDiff, Nat.reduceAdd, Nat.reduceMul, Nat.reduceSub, Nat.reduceEqDiff, Int.reduceNeg, Int.reduceToNat, Int.reduceAdd, Int.reduceSub]; try exact rfl), by simp [go_sem], _, .inr (.inl rfl), ?_⟩
    simp [hab]
end La

namespace La
open Go Go.Eng Go.Proofs
set_option linter.unusedVariables false

theorem putN_small {l : List Node} (hl : Small l) {n : Node} (hn : n.Small) (hlen : l.length ≤ 99999999) : Small (putN l n) := by
  refine ⟨by have := putN_length l n; omega, fun x hx => ?_⟩
  unfold putN at hx
  split at hx
  · rcases List.mem_or_eq_of_mem_set hx with h | rfl
    · exact hl.each x h
    · exact hn
  · rcases List.mem_append.1 hx with h | h
    · exact hl.each x (List.mem_of_mem_take h)
    · rcases List.mem_cons.1 h with rfl | h
      · exact hn
      · exact hl.each x (List.mem_of_mem_drop h)
theorem dropN_small {l : List Node} (hl : Small l) (f : Int) : Small (dropN l f) :=
  ⟨by have := List.length_filter_le (fun n : Node => !(n.fid == f)) l; unfold dropN; have := hl.len; omega, fun x hx => hl.each x ((List.mem_filter.1 hx).1)⟩
theorem sameN_self (v : Bool) (n : Node) : sameN v n n = true := by unfold sameN; simp

theorem enterN_small {n : Node} (hn : n.Small) (s : List UInt8) (f : Int) (h : n.entries.length ≤ 99999999) : (enterN n s f).Small := by
  refine ⟨hn.data, ?_⟩
  show (enterE n.entries s f).length ≤ _
  unfold enterE
  split
  · simp; omega
  · have := eplace_le n.entries s
    simp; omega
theorem leaveN_small {n : Node} (hn : n.Small) (s : List UInt8) : (leaveN n s).Small :=
  ⟨hn.data, by
    have := List.length_filter_le (fun e : Entry => !(e.name == s)) n.entries
    have := hn.entries
    show (leaveE n.entries s).length ≤ _
    unfold leaveE; omega⟩

end La

namespace La
open Go Go.Eng Go.Proofs
set_option maxRecDepth 10000
set_option linter.unusedSimpArgs false
set_option linter.unusedVariables false

def namedE (l : List Node) (a : Act) : Int := if dirE l a.dir = 0 then (match entryN (getN l a.dir) a.name with
  | none => 6
  | some f => if f = a.fid then 0 else 13) else dirE l a.dir


set_option maxHeartbeats 1000000 in
theorem named_ok (l : List Node) (a : Act) (v : Int) (hl : Small l) (hname : a.name.length ≤ 100000000) (G Y N : Nat → Nat) : FnOK Try.prog 148 [.ptr 15 9 0 0] (dH (doerRow l a v) G Y N)
    (fun r H => r = .tup [.agg (nodeRow (getN l a.dir)), .int .i64 (namedE l a)] ∧ ∀ i b, hget (dH (doerRow l a v) G Y N) i = some b → hget H i = some b) := by
  have hsm : (getN l a.dir).Small := hl.find a.dir
  unfold namedE
  unfold dH
  refine fn_of_cwW tabOK (Go.Proofs.Try.func148) rfl (fun C => ?_)
  simp only [Go.Proofs.Try.ntmps148, Go.Proofs.Try.results148, go_sem, Nat.reduceLT, Nat.reduceBEq, Nat.reduceLeDiff, Nat.reduceAdd, Nat.reduceMul, Nat.reduceSub, Nat.reduceEqDiff, Int.reduceNeg, Int.reduceToNat, Int.reduceAdd, Int.reduceSub]
  refine cw_go tabOK 99 (by simp only [go_sem, Nat.reduceLT, Nat.reduceBEq, Nat.reduceLeDiff, Nat.reduceAdd, Nat.reduceMul, Nat.reduceSub, Nat.reduceEqDiff, Int.reduceNeg, Int.reduceToNat, Int.reduceAdd, Int.reduceSub, doerRow]; try exact rfl) ?_ ?_
  · simp [doerRow]
  refine cw_step rfl (trip_callP rfl (by simp only [go_sem, Nat.reduceLT, Nat.reduceBEq, Nat.reduceLeDiff, Nat.reduceAdd, Nat.reduceMul, Nat.reduceSub, Nat.reduceEqDiff, Int.reduceNeg, Int.reduceToNat, Int.reduceAdd, Int.reduceSub]; try exact rfl) (by simp [go_sem]) ⟨_, Go.Proofs.Try.func145, by kernel_rfl, rfl⟩ [15] (by simp only [go_sem, Nat.reduceLT, Nat.reduceBEq, Nat.reduceLeDiff, Nat.reduceAdd, Nat.reduceMul, Nat.reduceSub, Nat.reduceEqDiff, Int.reduceNeg, Int.reduceToNat, Int.reduceAdd, Int.reduceSub, Bool.false_or, Bool.or_true, Bool.true_or, Bool.or_false, ↓reduceIte]; try exact rfl) (by simp [go_sem]) (by simp) (by simp [go_sem]) (by simp [go_sem]) (by simp [go_sem]) (dir_ok l a v a.dir hl) (by simp only [go_sem, Nat.reduceLT, Nat.reduceBEq, Nat.reduceLeDiff, Nat.reduceAdd, Nat.reduceMul, Nat.reduceSub, Nat.reduceEqDiff, Int.reduceNeg, Int.reduceToNat, Int.reduceAdd, Int.reduceSub, Bool.false_or, Bool.or_true, Bool.true_or, Bool.or_false, ↓reduceIte]; exact rfl)) ?_
  generalize hgn : getN l a.dir = n at hsm
  generalize hge : dirE l a.dir = e
  refine cw_go tabOK 99 (by simp only [go_sem, Nat.reduceLT, Nat.reduceBEq, Nat.reduceLeDiff, Nat.reduceAdd, Nat.reduceMul, Nat.reduceSub, Nat.reduceEqDiff, Int.reduceNeg, Int.reduceToNat, Int.reduceAdd, Int.reduceSub, nodeRow]; try exact rfl) ?_ ?_
  · simp [nodeRow]
  refine cw_cond (by simp only [go_sem, Nat.reduceLT, Nat.reduceBEq, Nat.reduceLeDiff, Nat.reduceAdd, Nat.reduceMul, Nat.reduceSub, Nat.reduceEqDiff, Int.reduceNeg, Int.reduceToNat, Int.reduceAdd, Int.reduceSub]; try exact rfl) trivial (fun h => ?_) (fun h => ?_)
  · have he : e ≠ 0 := by simpa using h
    refine cw_go tabOK 99 (by simp only [go_sem, Nat.reduceLT, Nat.reduceBEq, Nat.reduceLeDiff, Nat.reduceAdd, Nat.reduceMul, Nat.reduceSub, Nat.reduceEqDiff, Int.reduceNeg, Int.reduceToNat, Int.reduceAdd, Int.reduceSub, nodeRow]; try exact rfl) ?_ ?_
    · simp [nodeRow]
    refine cw_ret ⟨_, _, by simp only [go_sem, Nat.reduceLT, Nat.reduceBEq, Nat.reduceLeDiff, Nat.reduceAdd, Nat.reduceMul, Nat.reduceSub, Nat.reduceEqDiff, Int.reduceNeg, Int.reduceToNat, Int.reduceAdd, Int.reduceSub]; try exact rfl, by simp [go_sem], _, .inr (.inl rfl), ?_, hold2 ?_ ?_⟩
    · simp [nodeRow, he]
    · simp [go_sem, doerRow]
    · simp [go_sem]
  have he : e = 0 := by simpa using h
  subst he
  refine cw_go tabOK 99 (by simp only [go_sem, Nat.reduceLT, Nat.reduceBEq, Nat.reduceLeDiff, Nat.reduceAdd, Nat.reduceMul, Nat.reduceSub, Nat.reduceEqDiff, Int.reduceNeg, Int.reduceToNat, Int.reduceAdd, Int.reduceSub]; try exact rfl) (by simp [go_sem]) ?_
  refine cw_draw mixed ?_
  refine seg_start rfl ?_
  refine seg_runN tabOK 6 (by simp only [go_sem, Nat.reduceLT, Nat.reduceBEq, Nat.reduceLeDiff, Nat.reduceAdd, Nat.reduceMul, Nat.reduceSub, Nat.reduceEqDiff, Int.reduceNeg, Int.reduceToNat, Int.reduceAdd, Int.reduceSub]; exact rfl) (by simp only [go_sem, Nat.reduceLT, Nat.reduceBEq, Nat.reduceLeDiff, Nat.reduceAdd, Nat.reduceMul, Nat.reduceSub, Nat.reduceEqDiff, Int.reduceNeg, Int.reduceToNat, Int.reduceAdd, Int.reduceSub]; exact rfl) (by simp only [go_sem, Nat.reduceLT, Nat.reduceBEq, Nat.reduceLeDiff, Nat.reduceAdd, Nat.reduceMul, Nat.reduceSub, Nat.reduceEqDiff, Int.reduceNeg, Int.reduceToNat, Int.reduceAdd, Int.reduceSub, nodeRow, doerRow]; try exact rfl) ?_ (by simp only [go_sem, Nat.reduceLT, Nat.reduceBEq, Nat.reduceLeDiff, Nat.reduceAdd, Nat.reduceMul, Nat.reduceSub, Nat.reduceEqDiff, Int.reduceNeg, Int.reduceToNat, Int.reduceAdd, Int.reduceSub]; exact rfl) ?_
  · simp [nodeRow, doerRow]
  refine seg_call rfl rfl (by simp only [go_sem, Nat.reduceLT, Nat.reduceBEq, Nat.reduceLeDiff, Nat.reduceAdd, Nat.reduceMul, Nat.reduceSub, Nat.reduceEqDiff, Int.reduceNeg, Int.reduceToNat, Int.reduceAdd, Int.reduceSub]; try exact rfl) (by simp [go_sem]) ⟨_, Go.Proofs.Try.func36, by kernel_rfl, rfl⟩ (by simp [go_sem]) (entry_ok n a.name hsm) (by simp [go_sem]) (by simp only [go_sem, Nat.reduceLT, Nat.reduceBEq, Nat.reduceLeDiff, Nat.reduceAdd, Nat.reduceMul, Nat.reduceSub, Nat.reduceEqDiff, Int.reduceNeg, Int.reduceToNat, Int.reduceAdd, Int.reduceSub]; exact rfl) (by simp only [go_sem, Nat.reduceLT, Nat.reduceBEq, Nat.reduceLeDiff, Nat.reduceAdd, Nat.reduceMul, Nat.reduceSub, Nat.reduceEqDiff, Int.reduceNeg, Int.reduceToNat, Int.reduceAdd, Int.reduceSub]; exact rfl) ?_
  cases hen : entryN n a.name with
  | none =>
    simp only [optInt]
    refine seg_run tabOK (by simp only [go_sem, Nat.reduceLT, Nat.reduceBEq, Nat.reduceLeDiff, Nat.reduceAdd, Nat.reduceMul, Nat.reduceSub, Nat.reduceEqDiff, Int.reduceNeg, Int.reduceToNat, Int.reduceAdd, Int.reduceSub]; try exact rfl) (by simp [go_sem]) (by simp only [go_sem, Nat.reduceLT, Nat.reduceBEq, Nat.reduceLeDiff, Nat.reduceAdd, Nat.reduceMul, Nat.reduceSub, Nat.reduceEqDiff, Int.reduceNeg, Int.reduceToNat, Int.reduceAdd, Int.reduceSub]; exact rfl) ?_
    refine seg_end (by kernel_rfl) (by simp only [go_sem, Nat.reduceLT, Nat.reduceBEq, Nat.reduceLeDiff, Nat.reduceAdd, Nat.reduceMul, Nat.reduceSub, Nat.reduceEqDiff, Int.reduceNeg, Int.reduceToNat, Int.reduceAdd, Int.reduceSub]; exact rfl) ?_
    refine draw_close (by kernel_rfl) ?_
    try simp only [go_sem, Nat.reduceLT, Nat.reduceBEq, Nat.reduceLeDiff, Nat.reduceAdd, Nat.reduceMul, Nat.reduceSub, Nat.reduceEqDiff, Int.reduceNeg, Int.reduceToNat, Int.reduceAdd, Int.reduceSub, List.getElem_toArray, List.getElem_cons_succ, List.getElem_cons_zero]
    refine cw_go tabOK 99 (by simp only [go_sem, Nat.reduceLT, Nat.reduceBEq, Nat.reduceLeDiff, Nat.reduceAdd, Nat.reduceMul, Nat.reduceSub, Nat.reduceEqDiff, Int.reduceNeg, Int.reduceToNat, Int.reduceAdd, Int.reduceSub]; try exact rfl) (by simp [go_sem]) ?_
    refine cw_cond (by simp only [go_sem, Nat.reduceLT, Nat.reduceBEq, Nat.reduceLeDiff, Nat.reduceAdd, Nat.reduceMul, Nat.reduceSub, Nat.reduceEqDiff, Int.reduceNeg, Int.reduceToNat, Int.reduceAdd, Int.reduceSub]; try exact rfl) trivial (fun h => ?_) (fun h => ?_)
    · refine cw_go tabOK 99 (by simp only [go_sem, Nat.reduceLT, Nat.reduceBEq, Nat.reduceLeDiff, Nat.reduceAdd, Nat.reduceMul, Nat.reduceSub, Nat.reduceEqDiff, Int.reduceNeg, Int.reduceToNat, Int.reduceAdd, Int.reduceSub, nodeRow]; try exact rfl) ?_ ?_
      · simp [nodeRow]
      refine cw_ret ⟨_, _, by simp only [go_sem, Nat.reduceLT, Nat.reduceBEq, Nat.reduceLeDiff, Nat.reduceAdd, Nat.reduceMul, Nat.reduceSub, Nat.reduceEqDiff, Int.reduceNeg, Int.reduceToNat, Int.reduceAdd, Int.reduceSub]; try exact rfl, by simp [go_sem], _, .inr (.inl rfl), ?_, hold2 ?_ ?_⟩
      · simp [nodeRow]
      · simp [go_sem, doerRow]
      · simp [go_sem]
    · cases h
  | some f =>
    simp only [optInt]
    refine seg_run tabOK (by simp only [go_sem, Nat.reduceLT, Nat.reduceBEq, Nat.reduceLeDiff, Nat.reduceAdd, Nat.reduceMul, Nat.reduceSub, Nat.reduceEqDiff, Int.reduceNeg, Int.reduceToNat, Int.reduceAdd, Int.reduceSub]; try exact rfl) (by simp [go_sem]) (by simp only [go_sem, Nat.reduceLT, Nat.reduceBEq, Nat.reduceLeDiff, Nat.reduceAdd, Nat.reduceMul, Nat.reduceSub, Nat.reduceEqDiff, Int.reduceNeg, Int.reduceToNat, Int.reduceAdd, Int.reduceSub]; exact rfl) ?_
    refine seg_end (by kernel_rfl) (by simp only [go_sem, Nat.reduceLT, Nat.reduceBEq, Nat.reduceLeDiff, Nat.reduceAdd, Nat.reduceMul, Nat.reduceSub, Nat.reduceEqDiff, Int.reduceNeg, Int.reduceToNat, Int.reduceAdd, Int.reduceSub]; exact rfl) ?_
    refine draw_close (by kernel_rfl) ?_
    try simp only [go_sem, Nat.reduceLT, Nat.reduceBEq, Nat.reduceLeDiff, Nat.reduceAdd, Nat.reduceMul, Nat.reduceSub, Nat.reduceEqDiff, Int.reduceNeg, Int.reduceToNat, Int.reduceAdd, Int.reduceSub, List.getElem_toArray, List.getElem_cons_succ, List.getElem_cons_zero]
    refine cw_go tabOK 99 (by simp only [go_sem, Nat.reduceLT, Nat.reduceBEq, Nat.reduceLeDiff, Nat.reduceAdd, Nat.reduceMul, Nat.reduceSub, Nat.reduceEqDiff, Int.reduceNeg, Int.reduceToNat, Int.reduceAdd, Int.reduceSub]; try exact rfl) (by simp [go_sem]) ?_
    refine cw_cond (by simp only [go_sem, Nat.reduceLT, Nat.reduceBEq, Nat.reduceLeDiff, Nat.reduceAdd, Nat.reduceMul, Nat.reduceSub, Nat.reduceEqDiff, Int.reduceNeg, Int.reduceToNat, Int.reduceAdd, Int.reduceSub]; try exact rfl) trivial (fun h => ?_) (fun h => ?_)
    · cases h
    refine cw_go tabOK 99 (by simp only [go_sem, Nat.reduceLT, Nat.reduceBEq, Nat.reduceLeDiff, Nat.reduceAdd, Nat.reduceMul, Nat.reduceSub, Nat.reduceEqDiff, Int.reduceNeg, Int.reduceToNat, Int.reduceAdd, Int.reduceSub, doerRow]; try exact rfl) ?_ ?_
    · simp [doerRow]
    refine cw_cond (by simp only [go_sem, Nat.reduceLT, Nat.reduceBEq, Nat.reduceLeDiff, Nat.reduceAdd, Nat.reduceMul, Nat.reduceSub, Nat.reduceEqDiff, Int.reduceNeg, Int.reduceToNat, Int.reduceAdd, Int.reduceSub]; try exact rfl) trivial (fun h => ?_) (fun h => ?_)
    · have hf : ¬ f = a.fid := by simpa using h
      refine cw_go tabOK 99 (by simp only [go_sem, Nat.reduceLT, Nat.reduceBEq, Nat.reduceLeDiff, Nat.reduceAdd, Nat.reduceMul, Nat.reduceSub, Nat.reduceEqDiff, Int.reduceNeg, Int.reduceToNat, Int.reduceAdd, Int.reduceSub, nodeRow]; try exact rfl) ?_ ?_
      · simp [nodeRow]
      refine cw_ret ⟨_, _, by simp only [go_sem, Nat.reduceLT, Nat.reduceBEq, Nat.reduceLeDiff, Nat.reduceAdd, Nat.reduceMul, Nat.reduceSub, Nat.reduceEqDiff, Int.reduceNeg, Int.reduceToNat, Int.reduceAdd, Int.reduceSub]; try exact rfl, by simp [go_sem], _, .inr (.inl rfl), ?_, hold2 ?_ ?_⟩
      · simp [nodeRow, hf]
      · simp [go_sem, doerRow]
      · simp [go_sem]
    · have hf : f = a.fid := by simpa using h
      refine cw_go tabOK 99 (by simp only [go_sem, Nat.reduceLT, Nat.reduceBEq, Nat.reduceLeDiff, Nat.reduceAdd, Nat.reduceMul, Nat.reduceSub, Nat.reduceEqDiff, Int.reduceNeg, Int.reduceToNat, Int.reduceAdd, Int.reduceSub, nodeRow]; try exact rfl) ?_ ?_
      · simp [nodeRow]
      refine cw_ret ⟨_, _, by simp only [go_sem, Nat.reduceLT, Nat.reduceBEq, Nat.reduceLeDiff, Nat.reduceAdd, Nat.reduceMul, Nat.reduceSub, Nat.reduceEqDiff, Int.reduceNeg, Int.reduceToNat, Int.reduceAdd, Int.reduceSub]; try exact rfl, by simp [go_sem], _, .inr (.inl rfl), ?_, hold2 ?_ ?_⟩
      · simp [nodeRow, hf]
      · simp [go_sem, doerRow]
      · simp [go_sem]

def makeE (l : List Node) (a : Act) : Int := if dirE l a.dir = 0 then (if roomE (getN l a.dir) a.name = 0 then (if (isAt l a.fid || a.fid == 0) = true then 13 else if l.length ≥ 24 then 5 else 0) else roomE (getN l a.dir) a.name) else dirE l a.dir
def madeN (a : Act) (v : Int) : Node := ⟨a.fid, a.kind == 2, [], [], v⟩
def makeL (l : List Node) (a : Act) (v : Int) : List Node := if makeE l a = 0 then putN (putN l { enterN (getN l a.dir) a.name a.fid with version := v }) (madeN a v) else l

set_option maxHeartbeats 2000000 in
theorem make_ok (l : List Node) (a : Act) (v : Int) (hl : Small l) (hlen : l.length ≤ 99999990) (hent : ∀ n, n ∈ l → n.entries.length ≤ 99999990) (hname : a.name.length ≤ 100000000) (G Y N : Nat → Nat) : FnOK Try.prog 100 [.ptr 15 9 0 0] (dH (doerRow l a v) G Y N)
    (fun r H => r = .int .i64 (makeE l a) ∧ ∀ i b, hget (dH (doerRow (makeL l a v) a v) G Y N) i = some b → hget H i = some b) := by
  have hsm : (getN l a.dir).Small := hl.find a.dir
  have hen : (getN l a.dir).entries.length ≤ 99999999 := by
    unfold getN
    cases e : findN l a.dir with
    | none => simp [zeroN]
    | some n => have := hent n (findN_mem e); simp only [Option.getD_some]; omega
  have hmE : makeL l a v = if makeE l a = 0 then putN (putN l { enterN (getN l a.dir) a.name a.fid with version := v }) (madeN a v) else l := rfl
  rw [hmE]
  unfold makeE
  unfold dH
  refine fn_of_cwW tabOK (Go.Proofs.Try.func100) rfl (fun C => ?_)
  simp only [Go.Proofs.Try.ntmps100, Go.Proofs.Try.results100, go_sem, Nat.reduceLT, Nat.reduceBEq, Nat.reduceLeDiff, Nat.reduceAdd, Nat.reduceMul, Nat.reduceSub, Nat.reduceEqDiff, Int.reduceNeg, Int.reduceToNat, Int.reduceAdd, Int.reduceSub]
  refine cw_go tabOK 99 (by simp only [go_sem, Nat.reduceLT, Nat.reduceBEq, Nat.reduceLeDiff, Nat.reduceAdd, Nat.reduceMul, Nat.reduceSub, Nat.reduceEqDiff, Int.reduceNeg, Int.reduceToNat, Int.reduceAdd, Int.reduceSub, doerRow]; try exact rfl) ?_ ?_
  · simp [doerRow]
  refine cw_step rfl (trip_callP rfl (by simp only [go_sem, Nat.reduceLT, Nat.reduceBEq, Nat.reduceLeDiff, Nat.reduceAdd, Nat.reduceMul, Nat.reduceSub, Nat.reduceEqDiff, Int.reduceNeg, Int.reduceToNat, Int.reduceAdd, Int.reduceSub]; try exact rfl) (by simp [go_sem]) ⟨_, Go.Proofs.Try.func145, by kernel_rfl, rfl⟩ [15] (by simp only [go_sem, Nat.reduceLT, Nat.reduceBEq, Nat.reduceLeDiff, Nat.reduceAdd, Nat.reduceMul, Nat.reduceSub, Nat.reduceEqDiff, Int.reduceNeg, Int.reduceToNat, Int.reduceAdd, Int.reduceSub, Bool.false_or, Bool.or_true, Bool.true_or, Bool.or_false, ↓reduceIte]; try exact rfl) (by simp [go_sem]) (by simp) (by simp [go_sem]) (by simp [go_sem]) (by simp [go_sem]) (dir_ok l a v a.dir hl) (by simp only [go_sem, Nat.reduceLT, Nat.reduceBEq, Nat.reduceLeDiff, Nat.reduceAdd, Nat.reduceMul, Nat.reduceSub, Nat.reduceEqDiff, Int.reduceNeg, Int.reduceToNat, Int.reduceAdd, Int.reduceSub, Bool.false_or, Bool.or_true, Bool.true_or, Bool.or_false, ↓reduceIte]; exact rfl)) ?_
  have hee := enter_ok (getN l a.dir) a.name a.fid hsm
  have hes := enterN_small hsm a.name a.fid hen
  have hsv : ({ enterN (getN l a.dir) a.name a.fid with version := v } : Node).Small := ⟨hes.data, hes.entries⟩
  have hl1 := putN_small hl hsv (by omega)
  have hp1 := put_in l a v (enterN (getN l a.dir) a.name a.fid) hl hes
  have hp2 := put_in (putN l { enterN (getN l a.dir) a.name a.fid with version := v }) a v (madeN a 0) hl1 ⟨by simp [madeN], by simp [madeN]⟩
  have hmv : ({ madeN a 0 with version := v } : Node) = madeN a v := rfl
  rw [hmv] at hp2
  generalize putN (putN l { enterN (getN l a.dir) a.name a.fid with version := v }) (madeN a v) = l2 at hp2
  generalize putN l { enterN (getN l a.dir) a.name a.fid with version := v } = l1 at hp1 hp2 hl1
  have hp3 : ∀ (G Y N : Nat → Nat), FnOK Try.prog 147 [.ptr 15 9 0 0, .agg [.int .i64 a.fid, .bool (a.kind == 2), .nils, .nils, .int .i64 0]] (dH (doerRow l1 a v) G Y N) (fun r H => r = .tup [] ∧ ∀ i b, hget (dH (doerRow l2 a v) G Y N) i = some b → hget H i = some b) := fun G Y N => FnOK.nrm rfl (hp2 G Y N)
  generalize enterN (getN l a.dir) a.name a.fid = en at hee hp1
  generalize hgn : getN l a.dir = n at hsm hee
  generalize hge : dirE l a.dir = e
  refine cw_go tabOK 99 (by simp only [go_sem, Nat.reduceLT, Nat.reduceBEq, Nat.reduceLeDiff, Nat.reduceAdd, Nat.reduceMul, Nat.reduceSub, Nat.reduceEqDiff, Int.reduceNeg, Int.reduceToNat, Int.reduceAdd, Int.reduceSub, nodeRow]; try exact rfl) ?_ ?_
  · simp [nodeRow]
  refine cw_cond (by simp only [go_sem, Nat.reduceLT, Nat.reduceBEq, Nat.reduceLeDiff, Nat.reduceAdd, Nat.reduceMul, Nat.reduceSub, Nat.reduceEqDiff, Int.reduceNeg, Int.reduceToNat, Int.reduceAdd, Int.reduceSub]; try exact rfl) trivial (fun h => ?_) (fun h => ?_)
  · have he : e ≠ 0 := by simpa using h
    refine cw_go tabOK 99 (by simp only [go_sem, Nat.reduceLT, Nat.reduceBEq, Nat.reduceLeDiff, Nat.reduceAdd, Nat.reduceMul, Nat.reduceSub, Nat.reduceEqDiff, Int.reduceNeg, Int.reduceToNat, Int.reduceAdd, Int.reduceSub]; try exact rfl) (by simp [go_sem]) ?_
    refine cw_ret ⟨_, _, by simp only [go_sem, Nat.reduceLT, Nat.reduceBEq, Nat.reduceLeDiff, Nat.reduceAdd, Nat.reduceMul, Nat.reduceSub, Nat.reduceEqDiff, Int.reduceNeg, Int.reduceToNat, Int.reduceAdd, Int.reduceSub]; try exact rfl, by simp [go_sem], _, .inr (.inl rfl), ?_, hold2 ?_ ?_⟩
    · simp [he]
    · simp [go_sem, doerRow, he]
    · simp [go_sem]
  have he : e = 0 := by simpa using h
  subst he
  simp only [if_true]
  refine cw_go tabOK 99 (by simp only [go_sem, Nat.reduceLT, Nat.reduceBEq, Nat.reduceLeDiff, Nat.reduceAdd, Nat.reduceMul, Nat.reduceSub, Nat.reduceEqDiff, Int.reduceNeg, Int.reduceToNat, Int.reduceAdd, Int.reduceSub]; try exact rfl) (by simp [go_sem]) ?_
  refine cw_draw mixed ?_
  refine seg_start rfl ?_
  refine seg_runN tabOK 6 (by simp only [go_sem, Nat.reduceLT, Nat.reduceBEq, Nat.reduceLeDiff, Nat.reduceAdd, Nat.reduceMul, Nat.reduceSub, Nat.reduceEqDiff, Int.reduceNeg, Int.reduceToNat, Int.reduceAdd, Int.reduceSub]; exact rfl) (by simp only [go_sem, Nat.reduceLT, Nat.reduceBEq, Nat.reduceLeDiff, Nat.reduceAdd, Nat.reduceMul, Nat.reduceSub, Nat.reduceEqDiff, Int.reduceNeg, Int.reduceToNat, Int.reduceAdd, Int.reduceSub]; exact rfl) (by simp only [go_sem, Nat.reduceLT, Nat.reduceBEq, Nat.reduceLeDiff, Nat.reduceAdd, Nat.reduceMul, Nat.reduceSub, Nat.reduceEqDiff, Int.reduceNeg, Int.reduceToNat, Int.reduceAdd, Int.reduceSub, nodeRow, doerRow]; try exact rfl) ?_ (by simp only [go_sem, Nat.reduceLT, Nat.reduceBEq, Nat.reduceLeDiff, Nat.reduceAdd, Nat.reduceMul, Nat.reduceSub, Nat.reduceEqDiff, Int.reduceNeg, Int.reduceToNat, Int.reduceAdd, Int.reduceSub]; exact rfl) ?_
  · simp [nodeRow, doerRow]
  refine seg_call rfl rfl (by simp only [go_sem, Nat.reduceLT, Nat.reduceBEq, Nat.reduceLeDiff, Nat.reduceAdd, Nat.reduceMul, Nat.reduceSub, Nat.reduceEqDiff, Int.reduceNeg, Int.reduceToNat, Int.reduceAdd, Int.reduceSub]; try exact rfl) (by simp [go_sem]) ⟨_, Go.Proofs.Try.func146, by kernel_rfl, rfl⟩ (by simp [go_sem]) (room_ok n a.name hsm hname) (by simp [go_sem]) (by simp only [go_sem, Nat.reduceLT, Nat.reduceBEq, Nat.reduceLeDiff, Nat.reduceAdd, Nat.reduceMul, Nat.reduceSub, Nat.reduceEqDiff, Int.reduceNeg, Int.reduceToNat, Int.reduceAdd, Int.reduceSub]; exact rfl) (by simp only [go_sem, Nat.reduceLT, Nat.reduceBEq, Nat.reduceLeDiff, Nat.reduceAdd, Nat.reduceMul, Nat.reduceSub, Nat.reduceEqDiff, Int.reduceNeg, Int.reduceToNat, Int.reduceAdd, Int.reduceSub]; exact rfl) ?_
  generalize hre : roomE n a.name = e2
  refine seg_run tabOK (by simp only [go_sem, Nat.reduceLT, Nat.reduceBEq, Nat.reduceLeDiff, Nat.reduceAdd, Nat.reduceMul, Nat.reduceSub, Nat.reduceEqDiff, Int.reduceNeg, Int.reduceToNat, Int.reduceAdd, Int.reduceSub]; try exact rfl) (by simp [go_sem]) (by simp only [go_sem, Nat.reduceLT, Nat.reduceBEq, Nat.reduceLeDiff, Nat.reduceAdd, Nat.reduceMul, Nat.reduceSub, Nat.reduceEqDiff, Int.reduceNeg, Int.reduceToNat, Int.reduceAdd, Int.reduceSub]; exact rfl) ?_
  refine seg_end (by kernel_rfl) (by simp only [go_sem, Nat.reduceLT, Nat.reduceBEq, Nat.reduceLeDiff, Nat.reduceAdd, Nat.reduceMul, Nat.reduceSub, Nat.reduceEqDiff, Int.reduceNeg, Int.reduceToNat, Int.reduceAdd, Int.reduceSub]; exact rfl) ?_
  refine draw_close (by kernel_rfl) ?_
  try simp only [go_sem, Nat.reduceLT, Nat.reduceBEq, Nat.reduceLeDiff, Nat.reduceAdd, Nat.reduceMul, Nat.reduceSub, Nat.reduceEqDiff, Int.reduceNeg, Int.reduceToNat, Int.reduceAdd, Int.reduceSub, List.getElem_toArray, List.getElem_cons_succ, List.getElem_cons_zero]
  refine cw_go tabOK 99 (by simp only [go_sem, Nat.reduceLT, Nat.reduceBEq, Nat.reduceLeDiff, Nat.reduceAdd, Nat.reduceMul, Nat.reduceSub, Nat.reduceEqDiff, Int.reduceNeg, Int.reduceToNat, Int.reduceAdd, Int.reduceSub]; try exact rfl) (by simp [go_sem]) ?_
  refine cw_cond (by simp only [go_sem, Nat.reduceLT, Nat.reduceBEq, Nat.reduceLeDiff, Nat.reduceAdd, Nat.reduceMul, Nat.reduceSub, Nat.reduceEqDiff, Int.reduceNeg, Int.reduceToNat, Int.reduceAdd, Int.reduceSub]; try exact rfl) trivial (fun h => ?_) (fun h => ?_)
  · have he : e2 ≠ 0 := by simpa using h
    refine cw_go tabOK 99 (by simp only [go_sem, Nat.reduceLT, Nat.reduceBEq, Nat.reduceLeDiff, Nat.reduceAdd, Nat.reduceMul, Nat.reduceSub, Nat.reduceEqDiff, Int.reduceNeg, Int.reduceToNat, Int.reduceAdd, Int.reduceSub]; try exact rfl) (by simp [go_sem]) ?_
    refine cw_ret ⟨_, _, by simp only [go_sem, Nat.reduceLT, Nat.reduceBEq, Nat.reduceLeDiff, Nat.reduceAdd, Nat.reduceMul, Nat.reduceSub, Nat.reduceEqDiff, Int.reduceNeg, Int.reduceToNat, Int.reduceAdd, Int.reduceSub]; try exact rfl, by simp [go_sem], _, .inr (.inl rfl), ?_, hold2 ?_ ?_⟩
    · simp [he]
    · simp [go_sem, doerRow, he]
    · simp [go_sem]
  have he : e2 = 0 := by simpa using h
  subst he
  simp only [if_true]
  refine cw_go tabOK 99 (by simp only [go_sem, Nat.reduceLT, Nat.reduceBEq, Nat.reduceLeDiff, Nat.reduceAdd, Nat.reduceMul, Nat.reduceSub, Nat.reduceEqDiff, Int.reduceNeg, Int.reduceToNat, Int.reduceAdd, Int.reduceSub]; try exact rfl) (by simp [go_sem]) ?_
  refine cw_draw mixed ?_
  refine seg_start rfl ?_
  refine seg_runN tabOK 9 (by simp only [go_sem, Nat.reduceLT, Nat.reduceBEq, Nat.reduceLeDiff, Nat.reduceAdd, Nat.reduceMul, Nat.reduceSub, Nat.reduceEqDiff, Int.reduceNeg, Int.reduceToNat, Int.reduceAdd, Int.reduceSub]; exact rfl) (by simp only [go_sem, Nat.reduceLT, Nat.reduceBEq, Nat.reduceLeDiff, Nat.reduceAdd, Nat.reduceMul, Nat.reduceSub, Nat.reduceEqDiff, Int.reduceNeg, Int.reduceToNat, Int.reduceAdd, Int.reduceSub]; exact rfl) (by simp only [go_sem, Nat.reduceLT, Nat.reduceBEq, Nat.reduceLeDiff, Nat.reduceAdd, Nat.reduceMul, Nat.reduceSub, Nat.reduceEqDiff, Int.reduceNeg, Int.reduceToNat, Int.reduceAdd, Int.reduceSub, doerRow]; try exact rfl) ?_ (by simp only [go_sem, Nat.reduceLT, Nat.reduceBEq, Nat.reduceLeDiff, Nat.reduceAdd, Nat.reduceMul, Nat.reduceSub, Nat.reduceEqDiff, Int.reduceNeg, Int.reduceToNat, Int.reduceAdd, Int.reduceSub]; exact rfl) ?_
  · simp [doerRow]
  refine seg_call rfl rfl (by simp only [go_sem, Nat.reduceLT, Nat.reduceBEq, Nat.reduceLeDiff, Nat.reduceAdd, Nat.reduceMul, Nat.reduceSub, Nat.reduceEqDiff, Int.reduceNeg, Int.reduceToNat, Int.reduceAdd, Int.reduceSub]; try exact rfl) (by simp [go_sem]) ⟨_, Go.Proofs.Try.func33, by kernel_rfl, rfl⟩ (by simp [go_sem]) (find_ok l a.fid hl) (by simp [go_sem]) (by simp only [go_sem, Nat.reduceLT, Nat.reduceBEq, Nat.reduceLeDiff, Nat.reduceAdd, Nat.reduceMul, Nat.reduceSub, Nat.reduceEqDiff, Int.reduceNeg, Int.reduceToNat, Int.reduceAdd, Int.reduceSub]; exact rfl) (by simp only [go_sem, Nat.reduceLT, Nat.reduceBEq, Nat.reduceLeDiff, Nat.reduceAdd, Nat.reduceMul, Nat.reduceSub, Nat.reduceEqDiff, Int.reduceNeg, Int.reduceToNat, Int.reduceAdd, Int.reduceSub]; exact rfl) ?_
  simp only [go_sem, Nat.reduceLT, Nat.reduceBEq, Nat.reduceLeDiff, Nat.reduceAdd, Nat.reduceMul, Nat.reduceSub, Nat.reduceEqDiff, Int.reduceNeg, Int.reduceToNat, Int.reduceAdd, Int.reduceSub, findR]
  generalize (findN l a.fid).getD zeroN = x
  generalize isAt l a.fid = z
  refine seg_run tabOK (by simp only [go_sem, Nat.reduceLT, Nat.reduceBEq, Nat.reduceLeDiff, Nat.reduceAdd, Nat.reduceMul, Nat.reduceSub, Nat.reduceEqDiff, Int.reduceNeg, Int.reduceToNat, Int.reduceAdd, Int.reduceSub]; try exact rfl) (by simp [go_sem]) (by simp only [go_sem, Nat.reduceLT, Nat.reduceBEq, Nat.reduceLeDiff, Nat.reduceAdd, Nat.reduceMul, Nat.reduceSub, Nat.reduceEqDiff, Int.reduceNeg, Int.reduceToNat, Int.reduceAdd, Int.reduceSub]; exact rfl) ?_
  refine seg_new tabOK rfl (by simp only [go_sem, Nat.reduceLT, Nat.reduceBEq, Nat.reduceLeDiff, Nat.reduceAdd, Nat.reduceMul, Nat.reduceSub, Nat.reduceEqDiff, Int.reduceNeg, Int.reduceToNat, Int.reduceAdd, Int.reduceSub]; try exact rfl) (by simp only [go_sem, Nat.reduceLT, Nat.reduceBEq, Nat.reduceLeDiff, Nat.reduceAdd, Nat.reduceMul, Nat.reduceSub, Nat.reduceEqDiff, Int.reduceNeg, Int.reduceToNat, Int.reduceAdd, Int.reduceSub]; try exact rfl) (by simp [go_sem]) (by simp only [go_sem, Nat.reduceLT, Nat.reduceBEq, Nat.reduceLeDiff, Nat.reduceAdd, Nat.reduceMul, Nat.reduceSub, Nat.reduceEqDiff, Int.reduceNeg, Int.reduceToNat, Int.reduceAdd, Int.reduceSub]; try exact rfl) (by simp only [go_sem, Nat.reduceLT, Nat.reduceBEq, Nat.reduceLeDiff, Nat.reduceAdd, Nat.reduceMul, Nat.reduceSub, Nat.reduceEqDiff, Int.reduceNeg, Int.reduceToNat, Int.reduceAdd, Int.reduceSub]; exact rfl) (by simp only [go_sem, Nat.reduceLT, Nat.reduceBEq, Nat.reduceLeDiff, Nat.reduceAdd, Nat.reduceMul, Nat.reduceSub, Nat.reduceEqDiff, Int.reduceNeg, Int.reduceToNat, Int.reduceAdd, Int.reduceSub]; exact rfl) ?_
  simp only [go_sem, Nat.reduceLT, Nat.reduceBEq, Nat.reduceLeDiff, Nat.reduceAdd, Nat.reduceMul, Nat.reduceSub, Nat.reduceEqDiff, Int.reduceNeg, Int.reduceToNat, Int.reduceAdd, Int.reduceSub, nodeRow]
  refine seg_store tabOK rfl rfl (by simp only [go_sem, Nat.reduceLT, Nat.reduceBEq, Nat.reduceLeDiff, Nat.reduceAdd, Nat.reduceMul, Nat.reduceSub, Nat.reduceEqDiff, Int.reduceNeg, Int.reduceToNat, Int.reduceAdd, Int.reduceSub]; try exact rfl) (by simp only [go_sem, Nat.reduceLT, Nat.reduceBEq, Nat.reduceLeDiff, Nat.reduceAdd, Nat.reduceMul, Nat.reduceSub, Nat.reduceEqDiff, Int.reduceNeg, Int.reduceToNat, Int.reduceAdd, Int.reduceSub]; try exact rfl) (by simp only [go_sem, Nat.reduceLT, Nat.reduceBEq, Nat.reduceLeDiff, Nat.reduceAdd, Nat.reduceMul, Nat.reduceSub, Nat.reduceEqDiff, Int.reduceNeg, Int.reduceToNat, Int.reduceAdd, Int.reduceSub]; try exact rfl) (by first | trivial | simp [go_sem]) (by simp only [go_sem, Nat.reduceLT, Nat.reduceBEq, Nat.reduceLeDiff, Nat.reduceAdd, Nat.reduceMul, Nat.reduceSub, Nat.reduceEqDiff, Int.reduceNeg, Int.reduceToNat, Int.reduceAdd, Int.reduceSub]; exact rfl) (by simp [go_sem]) (by simp only [go_sem, Nat.reduceLT, Nat.reduceBEq, Nat.reduceLeDiff, Nat.reduceAdd, Nat.reduceMul, Nat.reduceSub, Nat.reduceEqDiff, Int.reduceNeg, Int.reduceToNat, Int.reduceAdd, Int.reduceSub]; exact rfl) (by simp only [go_sem, Nat.reduceLT, Nat.reduceBEq, Nat.reduceLeDiff, Nat.reduceAdd, Nat.reduceMul, Nat.reduceSub, Nat.reduceEqDiff, Int.reduceNeg, Int.reduceToNat, Int.reduceAdd, Int.reduceSub]; exact rfl) (by simp only [go_sem, Nat.reduceLT, Nat.reduceBEq, Nat.reduceLeDiff, Nat.reduceAdd, Nat.reduceMul, Nat.reduceSub, Nat.reduceEqDiff, Int.reduceNeg, Int.reduceToNat, Int.reduceAdd, Int.reduceSub]; exact rfl) ?_
  refine seg_end (by kernel_rfl) (by simp only [go_sem, Nat.reduceLT, Nat.reduceBEq, Nat.reduceLeDiff, Nat.reduceAdd, Nat.reduceMul, Nat.reduceSub, Nat.reduceEqDiff, Int.reduceNeg, Int.reduceToNat, Int.reduceAdd, Int.reduceSub]; exact rfl) ?_
  refine draw_step tabOK rfl (by kernel_rfl) rfl (by simp only [go_sem, Nat.reduceLT, Nat.reduceBEq, Nat.reduceLeDiff, Nat.reduceAdd, Nat.reduceMul, Nat.reduceSub, Nat.reduceEqDiff, Int.reduceNeg, Int.reduceToNat, Int.reduceAdd, Int.reduceSub]; try exact rfl) (by simp [go_sem]) rfl ?_
  refine draw_close (by kernel_rfl) ?_
  try simp only [go_sem, Nat.reduceLT, Nat.reduceBEq, Nat.reduceLeDiff, Nat.reduceAdd, Nat.reduceMul, Nat.reduceSub, Nat.reduceEqDiff, Int.reduceNeg, Int.reduceToNat, Int.reduceAdd, Int.reduceSub, List.getElem_toArray, List.getElem_cons_succ, List.getElem_cons_zero]
  refine cw_goR 99 (by simp only [go_sem, Nat.reduceLT, Nat.reduceBEq, Nat.reduceLeDiff, Nat.reduceAdd, Nat.reduceMul, Nat.reduceSub, Nat.reduceEqDiff, Int.reduceNeg, Int.reduceToNat, Int.reduceAdd, Int.reduceSub]; try exact rfl) ?_
  refine cw_runN tabOK 1 (by simp only [go_sem, Nat.reduceLT, Nat.reduceBEq, Nat.reduceLeDiff, Nat.reduceAdd, Nat.reduceMul, Nat.reduceSub, Nat.reduceEqDiff, Int.reduceNeg, Int.reduceToNat, Int.reduceAdd, Int.reduceSub]; exact rfl) (by simp only [go_sem, Nat.reduceLT, Nat.reduceBEq, Nat.reduceLeDiff, Nat.reduceAdd, Nat.reduceMul, Nat.reduceSub, Nat.reduceEqDiff, Int.reduceNeg, Int.reduceToNat, Int.reduceAdd, Int.reduceSub]; exact rfl) (by simp only [go_sem, Nat.reduceLT, Nat.reduceBEq, Nat.reduceLeDiff, Nat.reduceAdd, Nat.reduceMul, Nat.reduceSub, Nat.reduceEqDiff, Int.reduceNeg, Int.reduceToNat, Int.reduceAdd, Int.reduceSub]; try exact rfl) (by simp [go_sem]) ?_
  refine cw_name 44 (by simp only [go_sem, Nat.reduceLT, Nat.reduceBEq, Nat.reduceLeDiff, Nat.reduceAdd, Nat.reduceMul, Nat.reduceSub, Nat.reduceEqDiff, Int.reduceNeg, Int.reduceToNat, Int.reduceAdd, Int.reduceSub]; exact rfl) (fun c44 h44 => ?_)
  simp only [go_sem, Nat.reduceLT, Nat.reduceBEq, Nat.reduceLeDiff, Nat.reduceAdd, Nat.reduceMul, Nat.reduceSub, Nat.reduceEqDiff, Int.reduceNeg, Int.reduceToNat, Int.reduceAdd, Int.reduceSub]
  subst h44
  cases hz : (z || a.fid == 0) with
  | true =>
    refine cw_runN tabOK 8 (by simp only [go_sem, Nat.reduceLT, Nat.reduceBEq, Nat.reduceLeDiff, Nat.reduceAdd, Nat.reduceMul, Nat.reduceSub, Nat.reduceEqDiff, Int.reduceNeg, Int.reduceToNat, Int.reduceAdd, Int.reduceSub]; exact rfl) (by simp only [go_sem, Nat.reduceLT, Nat.reduceBEq, Nat.reduceLeDiff, Nat.reduceAdd, Nat.reduceMul, Nat.reduceSub, Nat.reduceEqDiff, Int.reduceNeg, Int.reduceToNat, Int.reduceAdd, Int.reduceSub]; exact rfl) (by simp only [go_sem, Nat.reduceLT, Nat.reduceBEq, Nat.reduceLeDiff, Nat.reduceAdd, Nat.reduceMul, Nat.reduceSub, Nat.reduceEqDiff, Int.reduceNeg, Int.reduceToNat, Int.reduceAdd, Int.reduceSub, doerRow]; try exact rfl) ?_ ?_
    · cases z <;> simp [doerRow]
    have hb : (bif z then true else a.fid == 0) = true := by rw [← hz]; cases z <;> rfl
    simp only [go_sem, Nat.reduceLT, Nat.reduceBEq, Nat.reduceLeDiff, Nat.reduceAdd, Nat.reduceMul, Nat.reduceSub, Nat.reduceEqDiff, Int.reduceNeg, Int.reduceToNat, Int.reduceAdd, Int.reduceSub, hb]
    refine cw_go tabOK 99 (by simp only [go_sem, Nat.reduceLT, Nat.reduceBEq, Nat.reduceLeDiff, Nat.reduceAdd, Nat.reduceMul, Nat.reduceSub, Nat.reduceEqDiff, Int.reduceNeg, Int.reduceToNat, Int.reduceAdd, Int.reduceSub]; try exact rfl) (by simp [go_sem]) ?_
    refine cw_cond (by simp only [go_sem, Nat.reduceLT, Nat.reduceBEq, Nat.reduceLeDiff, Nat.reduceAdd, Nat.reduceMul, Nat.reduceSub, Nat.reduceEqDiff, Int.reduceNeg, Int.reduceToNat, Int.reduceAdd, Int.reduceSub]; try exact rfl) trivial (fun h => ?_) (fun h => ?_)
    · refine cw_go tabOK 99 (by simp only [go_sem, Nat.reduceLT, Nat.reduceBEq, Nat.reduceLeDiff, Nat.reduceAdd, Nat.reduceMul, Nat.reduceSub, Nat.reduceEqDiff, Int.reduceNeg, Int.reduceToNat, Int.reduceAdd, Int.reduceSub]; try exact rfl) (by simp [go_sem]) ?_
      refine cw_ret ⟨_, _, by simp only [go_sem, Nat.reduceLT, Nat.reduceBEq, Nat.reduceLeDiff, Nat.reduceAdd, Nat.reduceMul, Nat.reduceSub, Nat.reduceEqDiff, Int.reduceNeg, Int.reduceToNat, Int.reduceAdd, Int.reduceSub]; try exact rfl, by simp [go_sem], _, .inr (.inl rfl), ?_, hold2 ?_ ?_⟩
      · simp
      · simp [go_sem, doerRow]
      · simp [go_sem]
    · cases h
  | false =>
    refine cw_runN tabOK 8 (by simp only [go_sem, Nat.reduceLT, Nat.reduceBEq, Nat.reduceLeDiff, Nat.reduceAdd, Nat.reduceMul, Nat.reduceSub, Nat.reduceEqDiff, Int.reduceNeg, Int.reduceToNat, Int.reduceAdd, Int.reduceSub]; exact rfl) (by simp only [go_sem, Nat.reduceLT, Nat.reduceBEq, Nat.reduceLeDiff, Nat.reduceAdd, Nat.reduceMul, Nat.reduceSub, Nat.reduceEqDiff, Int.reduceNeg, Int.reduceToNat, Int.reduceAdd, Int.reduceSub]; exact rfl) (by simp only [go_sem, Nat.reduceLT, Nat.reduceBEq, Nat.reduceLeDiff, Nat.reduceAdd, Nat.reduceMul, Nat.reduceSub, Nat.reduceEqDiff, Int.reduceNeg, Int.reduceToNat, Int.reduceAdd, Int.reduceSub, doerRow]; try exact rfl) ?_ ?_
    · cases z <;> simp [doerRow]
    have hb : (bif z then true else a.fid == 0) = false := by rw [← hz]; cases z <;> rfl
    simp only [go_sem, Nat.reduceLT, Nat.reduceBEq, Nat.reduceLeDiff, Nat.reduceAdd, Nat.reduceMul, Nat.reduceSub, Nat.reduceEqDiff, Int.reduceNeg, Int.reduceToNat, Int.reduceAdd, Int.reduceSub, hb]
    refine cw_go tabOK 99 (by simp only [go_sem, Nat.reduceLT, Nat.reduceBEq, Nat.reduceLeDiff, Nat.reduceAdd, Nat.reduceMul, Nat.reduceSub, Nat.reduceEqDiff, Int.reduceNeg, Int.reduceToNat, Int.reduceAdd, Int.reduceSub]; try exact rfl) (by simp [go_sem]) ?_
    refine cw_cond (by simp only [go_sem, Nat.reduceLT, Nat.reduceBEq, Nat.reduceLeDiff, Nat.reduceAdd, Nat.reduceMul, Nat.reduceSub, Nat.reduceEqDiff, Int.reduceNeg, Int.reduceToNat, Int.reduceAdd, Int.reduceSub]; try exact rfl) trivial (fun h => ?_) (fun h => ?_)
    · cases h
    refine cw_go tabOK 99 (by simp only [go_sem, Nat.reduceLT, Nat.reduceBEq, Nat.reduceLeDiff, Nat.reduceAdd, Nat.reduceMul, Nat.reduceSub, Nat.reduceEqDiff, Int.reduceNeg, Int.reduceToNat, Int.reduceAdd, Int.reduceSub, doerRow]; try exact rfl) ?_ ?_
    · simp [doerRow]
    refine cw_cond (by simp only [go_sem, Nat.reduceLT, Nat.reduceBEq, Nat.reduceLeDiff, Nat.reduceAdd, Nat.reduceMul, Nat.reduceSub, Nat.reduceEqDiff, Int.reduceNeg, Int.reduceToNat, Int.reduceAdd, Int.reduceSub]; try exact rfl) trivial (fun h => ?_) (fun h => ?_)
    · have h24 : l.length ≥ 24 := by simp at h; omega
      refine cw_go tabOK 99 (by simp only [go_sem, Nat.reduceLT, Nat.reduceBEq, Nat.reduceLeDiff, Nat.reduceAdd, Nat.reduceMul, Nat.reduceSub, Nat.reduceEqDiff, Int.reduceNeg, Int.reduceToNat, Int.reduceAdd, Int.reduceSub]; try exact rfl) (by simp [go_sem]) ?_
      refine cw_ret ⟨_, _, by simp only [go_sem, Nat.reduceLT, Nat.reduceBEq, Nat.reduceLeDiff, Nat.reduceAdd, Nat.reduceMul, Nat.reduceSub, Nat.reduceEqDiff, Int.reduceNeg, Int.reduceToNat, Int.reduceAdd, Int.reduceSub]; try exact rfl, by simp [go_sem], _, .inr (.inl rfl), ?_, hold2 ?_ ?_⟩
      · simp [h24]
      · simp [go_sem, doerRow, h24]
      · simp [go_sem]
    have h24 : ¬ l.length ≥ 24 := by simp at h; omega
    simp only [h24, if_false, if_true]
    refine cw_go tabOK 99 (by simp only [go_sem, Nat.reduceLT, Nat.reduceBEq, Nat.reduceLeDiff, Nat.reduceAdd, Nat.reduceMul, Nat.reduceSub, Nat.reduceEqDiff, Int.reduceNeg, Int.reduceToNat, Int.reduceAdd, Int.reduceSub]; try exact rfl) (by simp [go_sem]) ?_
    refine cw_draw mixed ?_
    refine seg_start rfl ?_
    refine seg_runN tabOK 12 (by simp only [go_sem, Nat.reduceLT, Nat.reduceBEq, Nat.reduceLeDiff, Nat.reduceAdd, Nat.reduceMul, Nat.reduceSub, Nat.reduceEqDiff, Int.reduceNeg, Int.reduceToNat, Int.reduceAdd, Int.reduceSub]; exact rfl) (by simp only [go_sem, Nat.reduceLT, Nat.reduceBEq, Nat.reduceLeDiff, Nat.reduceAdd, Nat.reduceMul, Nat.reduceSub, Nat.reduceEqDiff, Int.reduceNeg, Int.reduceToNat, Int.reduceAdd, Int.reduceSub]; exact rfl) (by simp only [go_sem, Nat.reduceLT, Nat.reduceBEq, Nat.reduceLeDiff, Nat.reduceAdd, Nat.reduceMul, Nat.reduceSub, Nat.reduceEqDiff, Int.reduceNeg, Int.reduceToNat, Int.reduceAdd, Int.reduceSub, nodeRow, doerRow]; try exact rfl) ?_ (by simp only [go_sem, Nat.reduceLT, Nat.reduceBEq, Nat.reduceLeDiff, Nat.reduceAdd, Nat.reduceMul, Nat.reduceSub, Nat.reduceEqDiff, Int.reduceNeg, Int.reduceToNat, Int.reduceAdd, Int.reduceSub]; exact rfl) ?_
    · simp [nodeRow, doerRow]
    refine seg_call rfl rfl (by simp only [go_sem, Nat.reduceLT, Nat.reduceBEq, Nat.reduceLeDiff, Nat.reduceAdd, Nat.reduceMul, Nat.reduceSub, Nat.reduceEqDiff, Int.reduceNeg, Int.reduceToNat, Int.reduceAdd, Int.reduceSub]; try exact rfl) (by simp [go_sem]) ⟨_, Go.Proofs.Try.func37, by kernel_rfl, rfl⟩ (by simp [go_sem]) (hee) (by simp [go_sem]) (by simp only [go_sem, Nat.reduceLT, Nat.reduceBEq, Nat.reduceLeDiff, Nat.reduceAdd, Nat.reduceMul, Nat.reduceSub, Nat.reduceEqDiff, Int.reduceNeg, Int.reduceToNat, Int.reduceAdd, Int.reduceSub]; exact rfl) (by simp only [go_sem, Nat.reduceLT, Nat.reduceBEq, Nat.reduceLeDiff, Nat.reduceAdd, Nat.reduceMul, Nat.reduceSub, Nat.reduceEqDiff, Int.reduceNeg, Int.reduceToNat, Int.reduceAdd, Int.reduceSub]; exact rfl) ?_
    refine seg_end (by kernel_rfl) (by simp only [go_sem, Nat.reduceLT, Nat.reduceBEq, Nat.reduceLeDiff, Nat.reduceAdd, Nat.reduceMul, Nat.reduceSub, Nat.reduceEqDiff, Int.reduceNeg, Int.reduceToNat, Int.reduceAdd, Int.reduceSub]; exact rfl) ?_
    refine draw_trip rfl (by kernel_rfl) rfl (trip_callP rfl (by simp only [go_sem, Nat.reduceLT, Nat.reduceBEq, Nat.reduceLeDiff, Nat.reduceAdd, Nat.reduceMul, Nat.reduceSub, Nat.reduceEqDiff, Int.reduceNeg, Int.reduceToNat, Int.reduceAdd, Int.reduceSub]; try exact rfl) (by simp [go_sem]) ⟨_, Go.Proofs.Try.func147, by kernel_rfl, rfl⟩ [15] (by simp only [go_sem, Nat.reduceLT, Nat.reduceBEq, Nat.reduceLeDiff, Nat.reduceAdd, Nat.reduceMul, Nat.reduceSub, Nat.reduceEqDiff, Int.reduceNeg, Int.reduceToNat, Int.reduceAdd, Int.reduceSub, Bool.false_or, Bool.or_true, Bool.true_or, Bool.or_false, ↓reduceIte]; try exact rfl) (by simp [go_sem]) (by simp) (by simp [go_sem]) (by simp [go_sem]) (by simp [go_sem]) (hp1) (by simp only [go_sem, Nat.reduceLT, Nat.reduceBEq, Nat.reduceLeDiff, Nat.reduceAdd, Nat.reduceMul, Nat.reduceSub, Nat.reduceEqDiff, Int.reduceNeg, Int.reduceToNat, Int.reduceAdd, Int.reduceSub, Bool.false_or, Bool.or_true, Bool.true_or, Bool.or_false, ↓reduceIte]; exact rfl)) rfl ?_
    refine draw_close (by kernel_rfl) ?_
    try simp only [go_sem, Nat.reduceLT, Nat.reduceBEq, Nat.reduceLeDiff, Nat.reduceAdd, Nat.reduceMul, Nat.reduceSub, Nat.reduceEqDiff, Int.reduceNeg, Int.reduceToNat, Int.reduceAdd, Int.reduceSub, List.getElem_toArray, List.getElem_cons_succ, List.getElem_cons_zero]
    refine cw_go tabOK 99 (by simp only [go_sem, Nat.reduceLT, Nat.reduceBEq, Nat.reduceLeDiff, Nat.reduceAdd, Nat.reduceMul, Nat.reduceSub, Nat.reduceEqDiff, Int.reduceNeg, Int.reduceToNat, Int.reduceAdd, Int.reduceSub]; try exact rfl) (by simp [go_sem]) ?_
    refine cw_draw mixed ?_
    refine seg_start rfl ?_
    refine seg_runN tabOK 12 (by simp only [go_sem, Nat.reduceLT, Nat.reduceBEq, Nat.reduceLeDiff, Nat.reduceAdd, Nat.reduceMul, Nat.reduceSub, Nat.reduceEqDiff, Int.reduceNeg, Int.reduceToNat, Int.reduceAdd, Int.reduceSub]; exact rfl) (by simp only [go_sem, Nat.reduceLT, Nat.reduceBEq, Nat.reduceLeDiff, Nat.reduceAdd, Nat.reduceMul, Nat.reduceSub, Nat.reduceEqDiff, Int.reduceNeg, Int.reduceToNat, Int.reduceAdd, Int.reduceSub]; exact rfl) (by simp only [go_sem, Nat.reduceLT, Nat.reduceBEq, Nat.reduceLeDiff, Nat.reduceAdd, Nat.reduceMul, Nat.reduceSub, Nat.reduceEqDiff, Int.reduceNeg, Int.reduceToNat, Int.reduceAdd, Int.reduceSub, nodeRow, doerRow]; try exact rfl) ?_ (by simp only [go_sem, Nat.reduceLT, Nat.reduceBEq, Nat.reduceLeDiff, Nat.reduceAdd, Nat.reduceMul, Nat.reduceSub, Nat.reduceEqDiff, Int.reduceNeg, Int.reduceToNat, Int.reduceAdd, Int.reduceSub]; exact rfl) ?_
    · simp [nodeRow, doerRow]
    refine seg_build tabOK rfl (by simp only [go_sem, Nat.reduceLT, Nat.reduceBEq, Nat.reduceLeDiff, Nat.reduceAdd, Nat.reduceMul, Nat.reduceSub, Nat.reduceEqDiff, Int.reduceNeg, Int.reduceToNat, Int.reduceAdd, Int.reduceSub]; try exact rfl) (by simp only [go_sem, Nat.reduceLT, Nat.reduceBEq, Nat.reduceLeDiff, Nat.reduceAdd, Nat.reduceMul, Nat.reduceSub, Nat.reduceEqDiff, Int.reduceNeg, Int.reduceToNat, Int.reduceAdd, Int.reduceSub]; try exact rfl) (by simp [go_sem]) (by simp only [go_sem, Nat.reduceLT, Nat.reduceBEq, Nat.reduceLeDiff, Nat.reduceAdd, Nat.reduceMul, Nat.reduceSub, Nat.reduceEqDiff, Int.reduceNeg, Int.reduceToNat, Int.reduceAdd, Int.reduceSub, cond_true, cond_false]; exact rfl) (by simp only [go_sem, Nat.reduceLT, Nat.reduceBEq, Nat.reduceLeDiff, Nat.reduceAdd, Nat.reduceMul, Nat.reduceSub, Nat.reduceEqDiff, Int.reduceNeg, Int.reduceToNat, Int.reduceAdd, Int.reduceSub]; exact rfl) (by simp only [go_sem, Nat.reduceLT, Nat.reduceBEq, Nat.reduceLeDiff, Nat.reduceAdd, Nat.reduceMul, Nat.reduceSub, Nat.reduceEqDiff, Int.reduceNeg, Int.reduceToNat, Int.reduceAdd, Int.reduceSub]; exact rfl) ?_
    refine seg_end (by kernel_rfl) (by simp only [go_sem, Nat.reduceLT, Nat.reduceBEq, Nat.reduceLeDiff, Nat.reduceAdd, Nat.reduceMul, Nat.reduceSub, Nat.reduceEqDiff, Int.reduceNeg, Int.reduceToNat, Int.reduceAdd, Int.reduceSub]; exact rfl) ?_
    refine draw_trip rfl (by kernel_rfl) rfl (trip_callP rfl (by simp only [go_sem, Nat.reduceLT, Nat.reduceBEq, Nat.reduceLeDiff, Nat.reduceAdd, Nat.reduceMul, Nat.reduceSub, Nat.reduceEqDiff, Int.reduceNeg, Int.reduceToNat, Int.reduceAdd, Int.reduceSub]; try exact rfl) (by simp [go_sem]) ⟨_, Go.Proofs.Try.func147, by kernel_rfl, rfl⟩ [15] (by simp only [go_sem, Nat.reduceLT, Nat.reduceBEq, Nat.reduceLeDiff, Nat.reduceAdd, Nat.reduceMul, Nat.reduceSub, Nat.reduceEqDiff, Int.reduceNeg, Int.reduceToNat, Int.reduceAdd, Int.reduceSub, Bool.false_or, Bool.or_true, Bool.true_or, Bool.or_false, ↓reduceIte]; try exact rfl) (by simp [go_sem]) (by simp) (by simp [go_sem]) (by simp [go_sem]) (by simp [go_sem]) (hp3) (by simp only [go_sem, Nat.reduceLT, Nat.reduceBEq, Nat.reduceLeDiff, Nat.reduceAdd, Nat.reduceMul, Nat.reduceSub, Nat.reduceEqDiff, Int.reduceNeg, Int.reduceToNat, Int.reduceAdd, Int.reduceSub, Bool.false_or, Bool.or_true, Bool.true_or, Bool.or_false, ↓reduceIte]; exact rfl)) rfl ?_
    refine draw_close (by kernel_rfl) ?_
    try simp only [go_sem, Nat.reduceLT, Nat.reduceBEq, Nat.reduceLeDiff, Nat.reduceAdd, Nat.reduceMul, Nat.reduceSub, Nat.reduceEqDiff, Int.reduceNeg, Int.reduceToNat, Int.reduceAdd, Int.reduceSub, List.getElem_toArray, List.getElem_cons_succ, List.getElem_cons_zero]
    refine cw_go tabOK 99 (by simp only [go_sem, Nat.reduceLT, Nat.reduceBEq, Nat.reduceLeDiff, Nat.reduceAdd, Nat.reduceMul, Nat.reduceSub, Nat.reduceEqDiff, Int.reduceNeg, Int.reduceToNat, Int.reduceAdd, Int.reduceSub]; try exact rfl) (by simp [go_sem]) ?_
    refine cw_ret ⟨_, _, by simp only [go_sem, Nat.reduceLT, Nat.reduceBEq, Nat.reduceLeDiff, Nat.reduceAdd, Nat.reduceMul, Nat.reduceSub, Nat.reduceEqDiff, Int.reduceNeg, Int.reduceToNat, Int.reduceAdd, Int.reduceSub]; try exact rfl, by simp [go_sem], _, .inr (.inl rfl), ?_, hold2 ?_ ?_⟩
    · simp
    · simp [go_sem]
    · simp [go_sem]

def removeE (l : List Node) (a : Act) : Int := if namedE l a = 0 then (match findN l a.fid with
  | none => 12
  | some x => if x.entries.length > 0 then 10 else 0) else namedE l a
def removeL (l : List Node) (a : Act) (v : Int) : List Node := if removeE l a = 0 then dropN (putN l { leaveN (getN l a.dir) a.name with version := v }) a.fid else l

set_option maxHeartbeats 2000000 in
theorem remove_ok (l : List Node) (a : Act) (v : Int) (hl : Small l) (hlen : l.length ≤ 99999990) (hname : a.name.length ≤ 100000000) (G Y N : Nat → Nat) : FnOK Try.prog 102 [.ptr 15 9 0 0] (dH (doerRow l a v) G Y N)
    (fun r H => r = .int .i64 (removeE l a) ∧ ∀ i b, hget (dH (doerRow (removeL l a v) a v) G Y N) i = some b → hget H i = some b) := by
  have hsm : (getN l a.dir).Small := hl.find a.dir
  have hmE : removeL l a v = if removeE l a = 0 then dropN (putN l { leaveN (getN l a.dir) a.name with version := v }) a.fid else l := rfl
  rw [hmE]
  unfold removeE
  unfold dH
  refine fn_of_cwW tabOK (Go.Proofs.Try.func102) rfl (fun C => ?_)
  simp only [Go.Proofs.Try.ntmps102, Go.Proofs.Try.results102, go_sem, Nat.reduceLT, Nat.reduceBEq, Nat.reduceLeDiff, Nat.reduceAdd, Nat.reduceMul, Nat.reduceSub, Nat.reduceEqDiff, Int.reduceNeg, Int.reduceToNat, Int.reduceAdd, Int.reduceSub]
  refine cw_go tabOK 99 (by simp only [go_sem, Nat.reduceLT, Nat.reduceBEq, Nat.reduceLeDiff, Nat.reduceAdd, Nat.reduceMul, Nat.reduceSub, Nat.reduceEqDiff, Int.reduceNeg, Int.reduceToNat, Int.reduceAdd, Int.reduceSub]; try exact rfl) (by simp [go_sem]) ?_
  refine cw_step rfl (trip_callP rfl (by simp only [go_sem, Nat.reduceLT, Nat.reduceBEq, Nat.reduceLeDiff, Nat.reduceAdd, Nat.reduceMul, Nat.reduceSub, Nat.reduceEqDiff, Int.reduceNeg, Int.reduceToNat, Int.reduceAdd, Int.reduceSub]; try exact rfl) (by simp [go_sem]) ⟨_, Go.Proofs.Try.func148, by kernel_rfl, rfl⟩ [15] (by simp only [go_sem, Nat.reduceLT, Nat.reduceBEq, Nat.reduceLeDiff, Nat.reduceAdd, Nat.reduceMul, Nat.reduceSub, Nat.reduceEqDiff, Int.reduceNeg, Int.reduceToNat, Int.reduceAdd, Int.reduceSub, Bool.false_or, Bool.or_true, Bool.true_or, Bool.or_false, ↓reduceIte]; try exact rfl) (by simp [go_sem]) (by simp) (by simp [go_sem]) (by simp [go_sem]) (by simp [go_sem]) (named_ok l a v hl hname) (by simp only [go_sem, Nat.reduceLT, Nat.reduceBEq, Nat.reduceLeDiff, Nat.reduceAdd, Nat.reduceMul, Nat.reduceSub, Nat.reduceEqDiff, Int.reduceNeg, Int.reduceToNat, Int.reduceAdd, Int.reduceSub, Bool.false_or, Bool.or_true, Bool.true_or, Bool.or_false, ↓reduceIte]; exact rfl)) ?_
  have hee := leave_ok (getN l a.dir) a.name hsm
  have hes := leaveN_small hsm a.name
  have hsv : ({ leaveN (getN l a.dir) a.name with version := v } : Node).Small := ⟨hes.data, hes.entries⟩
  have hl1 := putN_small hl hsv (by omega)
  have hp1 := put_in l a v (leaveN (getN l a.dir) a.name) hl hes
  have hp2 := drop_ok (putN l { leaveN (getN l a.dir) a.name with version := v }) a.fid hl1
  generalize dropN (putN l { leaveN (getN l a.dir) a.name with version := v }) a.fid = l2 at hp2
  generalize putN l { leaveN (getN l a.dir) a.name with version := v } = l1 at hp1 hp2 hl1
  generalize leaveN (getN l a.dir) a.name = en at hee hp1
  generalize hgn : getN l a.dir = n at hsm hee
  generalize hge : namedE l a = e
  refine cw_go tabOK 99 (by simp only [go_sem, Nat.reduceLT, Nat.reduceBEq, Nat.reduceLeDiff, Nat.reduceAdd, Nat.reduceMul, Nat.reduceSub, Nat.reduceEqDiff, Int.reduceNeg, Int.reduceToNat, Int.reduceAdd, Int.reduceSub, nodeRow]; try exact rfl) ?_ ?_
  · simp [nodeRow]
  refine cw_cond (by simp only [go_sem, Nat.reduceLT, Nat.reduceBEq, Nat.reduceLeDiff, Nat.reduceAdd, Nat.reduceMul, Nat.reduceSub, Nat.reduceEqDiff, Int.reduceNeg, Int.reduceToNat, Int.reduceAdd, Int.reduceSub]; try exact rfl) trivial (fun h => ?_) (fun h => ?_)
  · have he : e ≠ 0 := by simpa using h
    refine cw_go tabOK 99 (by simp only [go_sem, Nat.reduceLT, Nat.reduceBEq, Nat.reduceLeDiff, Nat.reduceAdd, Nat.reduceMul, Nat.reduceSub, Nat.reduceEqDiff, Int.reduceNeg, Int.reduceToNat, Int.reduceAdd, Int.reduceSub]; try exact rfl) (by simp [go_sem]) ?_
    refine cw_ret ⟨_, _, by simp only [go_sem, Nat.reduceLT, Nat.reduceBEq, Nat.reduceLeDiff, Nat.reduceAdd, Nat.reduceMul, Nat.reduceSub, Nat.reduceEqDiff, Int.reduceNeg, Int.reduceToNat, Int.reduceAdd, Int.reduceSub]; try exact rfl, by simp [go_sem], _, .inr (.inl rfl), ?_, hold2 ?_ ?_⟩
    · simp [he]
    · simp [go_sem, doerRow, he]
    · simp [go_sem]
  have he : e = 0 := by simpa using h
  subst he
  simp only [if_true]
  refine cw_go tabOK 99 (by simp only [go_sem, Nat.reduceLT, Nat.reduceBEq, Nat.reduceLeDiff, Nat.reduceAdd, Nat.reduceMul, Nat.reduceSub, Nat.reduceEqDiff, Int.reduceNeg, Int.reduceToNat, Int.reduceAdd, Int.reduceSub]; try exact rfl) (by simp [go_sem]) ?_
  refine cw_draw mixed ?_
  refine seg_start rfl ?_
  refine seg_runN tabOK 9 (by simp only [go_sem, Nat.reduceLT, Nat.reduceBEq, Nat.reduceLeDiff, Nat.reduceAdd, Nat.reduceMul, Nat.reduceSub, Nat.reduceEqDiff, Int.reduceNeg, Int.reduceToNat, Int.reduceAdd, Int.reduceSub]; exact rfl) (by simp only [go_sem, Nat.reduceLT, Nat.reduceBEq, Nat.reduceLeDiff, Nat.reduceAdd, Nat.reduceMul, Nat.reduceSub, Nat.reduceEqDiff, Int.reduceNeg, Int.reduceToNat, Int.reduceAdd, Int.reduceSub]; exact rfl) (by simp only [go_sem, Nat.reduceLT, Nat.reduceBEq, Nat.reduceLeDiff, Nat.reduceAdd, Nat.reduceMul, Nat.reduceSub, Nat.reduceEqDiff, Int.reduceNeg, Int.reduceToNat, Int.reduceAdd, Int.reduceSub, doerRow]; try exact rfl) ?_ (by simp only [go_sem, Nat.reduceLT, Nat.reduceBEq, Nat.reduceLeDiff, Nat.reduceAdd, Nat.reduceMul, Nat.reduceSub, Nat.reduceEqDiff, Int.reduceNeg, Int.reduceToNat, Int.reduceAdd, Int.reduceSub]; exact rfl) ?_
  · simp [doerRow]
  refine seg_call rfl rfl (by simp only [go_sem, Nat.reduceLT, Nat.reduceBEq, Nat.reduceLeDiff, Nat.reduceAdd, Nat.reduceMul, Nat.reduceSub, Nat.reduceEqDiff, Int.reduceNeg, Int.reduceToNat, Int.reduceAdd, Int.reduceSub]; try exact rfl) (by simp [go_sem]) ⟨_, Go.Proofs.Try.func33, by kernel_rfl, rfl⟩ (by simp [go_sem]) (find_ok l a.fid hl) (by simp [go_sem]) (by simp only [go_sem, Nat.reduceLT, Nat.reduceBEq, Nat.reduceLeDiff, Nat.reduceAdd, Nat.reduceMul, Nat.reduceSub, Nat.reduceEqDiff, Int.reduceNeg, Int.reduceToNat, Int.reduceAdd, Int.reduceSub]; exact rfl) (by simp only [go_sem, Nat.reduceLT, Nat.reduceBEq, Nat.reduceLeDiff, Nat.reduceAdd, Nat.reduceMul, Nat.reduceSub, Nat.reduceEqDiff, Int.reduceNeg, Int.reduceToNat, Int.reduceAdd, Int.reduceSub]; exact rfl) ?_
  simp only [go_sem, Nat.reduceLT, Nat.reduceBEq, Nat.reduceLeDiff, Nat.reduceAdd, Nat.reduceMul, Nat.reduceSub, Nat.reduceEqDiff, Int.reduceNeg, Int.reduceToNat, Int.reduceAdd, Int.reduceSub, findR]
  rw [isAt_eq]
  cases hfd : findN l a.fid with
  | none =>
    simp only [Option.getD_none, Option.isSome_none]
    refine seg_run tabOK (by simp only [go_sem, Nat.reduceLT, Nat.reduceBEq, Nat.reduceLeDiff, Nat.reduceAdd, Nat.reduceMul, Nat.reduceSub, Nat.reduceEqDiff, Int.reduceNeg, Int.reduceToNat, Int.reduceAdd, Int.reduceSub]; try exact rfl) (by simp [go_sem]) (by simp only [go_sem, Nat.reduceLT, Nat.reduceBEq, Nat.reduceLeDiff, Nat.reduceAdd, Nat.reduceMul, Nat.reduceSub, Nat.reduceEqDiff, Int.reduceNeg, Int.reduceToNat, Int.reduceAdd, Int.reduceSub]; exact rfl) ?_
    refine seg_new tabOK rfl (by simp only [go_sem, Nat.reduceLT, Nat.reduceBEq, Nat.reduceLeDiff, Nat.reduceAdd, Nat.reduceMul, Nat.reduceSub, Nat.reduceEqDiff, Int.reduceNeg, Int.reduceToNat, Int.reduceAdd, Int.reduceSub]; try exact rfl) (by simp only [go_sem, Nat.reduceLT, Nat.reduceBEq, Nat.reduceLeDiff, Nat.reduceAdd, Nat.reduceMul, Nat.reduceSub, Nat.reduceEqDiff, Int.reduceNeg, Int.reduceToNat, Int.reduceAdd, Int.reduceSub]; try exact rfl) (by simp [go_sem]) (by simp only [go_sem, Nat.reduceLT, Nat.reduceBEq, Nat.reduceLeDiff, Nat.reduceAdd, Nat.reduceMul, Nat.reduceSub, Nat.reduceEqDiff, Int.reduceNeg, Int.reduceToNat, Int.reduceAdd, Int.reduceSub]; try exact rfl) (by simp only [go_sem, Nat.reduceLT, Nat.reduceBEq, Nat.reduceLeDiff, Nat.reduceAdd, Nat.reduceMul, Nat.reduceSub, Nat.reduceEqDiff, Int.reduceNeg, Int.reduceToNat, Int.reduceAdd, Int.reduceSub]; exact rfl) (by simp only [go_sem, Nat.reduceLT, Nat.reduceBEq, Nat.reduceLeDiff, Nat.reduceAdd, Nat.reduceMul, Nat.reduceSub, Nat.reduceEqDiff, Int.reduceNeg, Int.reduceToNat, Int.reduceAdd, Int.reduceSub]; exact rfl) ?_
    simp only [go_sem, Nat.reduceLT, Nat.reduceBEq, Nat.reduceLeDiff, Nat.reduceAdd, Nat.reduceMul, Nat.reduceSub, Nat.reduceEqDiff, Int.reduceNeg, Int.reduceToNat, Int.reduceAdd, Int.reduceSub, nodeRow, zeroN]
    refine seg_store tabOK rfl rfl (by simp only [go_sem, Nat.reduceLT, Nat.reduceBEq, Nat.reduceLeDiff, Nat.reduceAdd, Nat.reduceMul, Nat.reduceSub, Nat.reduceEqDiff, Int.reduceNeg, Int.reduceToNat, Int.reduceAdd, Int.reduceSub]; try exact rfl) (by simp only [go_sem, Nat.reduceLT, Nat.reduceBEq, Nat.reduceLeDiff, Nat.reduceAdd, Nat.reduceMul, Nat.reduceSub, Nat.reduceEqDiff, Int.reduceNeg, Int.reduceToNat, Int.reduceAdd, Int.reduceSub]; try exact rfl) (by simp only [go_sem, Nat.reduceLT, Nat.reduceBEq, Nat.reduceLeDiff, Nat.reduceAdd, Nat.reduceMul, Nat.reduceSub, Nat.reduceEqDiff, Int.reduceNeg, Int.reduceToNat, Int.reduceAdd, Int.reduceSub]; try exact rfl) (by first | trivial | simp [go_sem]) (by simp only [go_sem, Nat.reduceLT, Nat.reduceBEq, Nat.reduceLeDiff, Nat.reduceAdd, Nat.reduceMul, Nat.reduceSub, Nat.reduceEqDiff, Int.reduceNeg, Int.reduceToNat, Int.reduceAdd, Int.reduceSub]; exact rfl) (by simp [go_sem]) (by simp only [go_sem, Nat.reduceLT, Nat.reduceBEq, Nat.reduceLeDiff, Nat.reduceAdd, Nat.reduceMul, Nat.reduceSub, Nat.reduceEqDiff, Int.reduceNeg, Int.reduceToNat, Int.reduceAdd, Int.reduceSub]; exact rfl) (by simp only [go_sem, Nat.reduceLT, Nat.reduceBEq, Nat.reduceLeDiff, Nat.reduceAdd, Nat.reduceMul, Nat.reduceSub, Nat.reduceEqDiff, Int.reduceNeg, Int.reduceToNat, Int.reduceAdd, Int.reduceSub]; exact rfl) (by simp only [go_sem, Nat.reduceLT, Nat.reduceBEq, Nat.reduceLeDiff, Nat.reduceAdd, Nat.reduceMul, Nat.reduceSub, Nat.reduceEqDiff, Int.reduceNeg, Int.reduceToNat, Int.reduceAdd, Int.reduceSub]; exact rfl) ?_
    refine seg_end (by kernel_rfl) (by simp only [go_sem, Nat.reduceLT, Nat.reduceBEq, Nat.reduceLeDiff, Nat.reduceAdd, Nat.reduceMul, Nat.reduceSub, Nat.reduceEqDiff, Int.reduceNeg, Int.reduceToNat, Int.reduceAdd, Int.reduceSub]; exact rfl) ?_
    refine draw_step tabOK rfl (by kernel_rfl) rfl (by simp only [go_sem, Nat.reduceLT, Nat.reduceBEq, Nat.reduceLeDiff, Nat.reduceAdd, Nat.reduceMul, Nat.reduceSub, Nat.reduceEqDiff, Int.reduceNeg, Int.reduceToNat, Int.reduceAdd, Int.reduceSub]; try exact rfl) (by simp [go_sem]) rfl ?_
    refine draw_close (by kernel_rfl) ?_
    try simp only [go_sem, Nat.reduceLT, Nat.reduceBEq, Nat.reduceLeDiff, Nat.reduceAdd, Nat.reduceMul, Nat.reduceSub, Nat.reduceEqDiff, Int.reduceNeg, Int.reduceToNat, Int.reduceAdd, Int.reduceSub, List.getElem_toArray, List.getElem_cons_succ, List.getElem_cons_zero]
    refine cw_go tabOK 99 (by simp only [go_sem, Nat.reduceLT, Nat.reduceBEq, Nat.reduceLeDiff, Nat.reduceAdd, Nat.reduceMul, Nat.reduceSub, Nat.reduceEqDiff, Int.reduceNeg, Int.reduceToNat, Int.reduceAdd, Int.reduceSub]; try exact rfl) (by simp [go_sem]) ?_
    refine cw_cond (by simp only [go_sem, Nat.reduceLT, Nat.reduceBEq, Nat.reduceLeDiff, Nat.reduceAdd, Nat.reduceMul, Nat.reduceSub, Nat.reduceEqDiff, Int.reduceNeg, Int.reduceToNat, Int.reduceAdd, Int.reduceSub]; try exact rfl) trivial (fun h => ?_) (fun h => ?_)
    · refine cw_go tabOK 99 (by simp only [go_sem, Nat.reduceLT, Nat.reduceBEq, Nat.reduceLeDiff, Nat.reduceAdd, Nat.reduceMul, Nat.reduceSub, Nat.reduceEqDiff, Int.reduceNeg, Int.reduceToNat, Int.reduceAdd, Int.reduceSub]; try exact rfl) (by simp [go_sem]) ?_
      refine cw_ret ⟨_, _, by simp only [go_sem, Nat.reduceLT, Nat.reduceBEq, Nat.reduceLeDiff, Nat.reduceAdd, Nat.reduceMul, Nat.reduceSub, Nat.reduceEqDiff, Int.reduceNeg, Int.reduceToNat, Int.reduceAdd, Int.reduceSub]; try exact rfl, by simp [go_sem], _, .inr (.inl rfl), ?_, hold2 ?_ ?_⟩
      · simp
      · simp [go_sem, doerRow]
      · simp [go_sem]
    · cases h
  | some x =>
    simp only [Option.getD_some, Option.isSome_some]
    refine seg_run tabOK (by simp only [go_sem, Nat.reduceLT, Nat.reduceBEq, Nat.reduceLeDiff, Nat.reduceAdd, Nat.reduceMul, Nat.reduceSub, Nat.reduceEqDiff, Int.reduceNeg, Int.reduceToNat, Int.reduceAdd, Int.reduceSub]; try exact rfl) (by simp [go_sem]) (by simp only [go_sem, Nat.reduceLT, Nat.reduceBEq, Nat.reduceLeDiff, Nat.reduceAdd, Nat.reduceMul, Nat.reduceSub, Nat.reduceEqDiff, Int.reduceNeg, Int.reduceToNat, Int.reduceAdd, Int.reduceSub]; exact rfl) ?_
    refine seg_new tabOK rfl (by simp only [go_sem, Nat.reduceLT, Nat.reduceBEq, Nat.reduceLeDiff, Nat.reduceAdd, Nat.reduceMul, Nat.reduceSub, Nat.reduceEqDiff, Int.reduceNeg, Int.reduceToNat, Int.reduceAdd, Int.reduceSub]; try exact rfl) (by simp only [go_sem, Nat.reduceLT, Nat.reduceBEq, Nat.reduceLeDiff, Nat.reduceAdd, Nat.reduceMul, Nat.reduceSub, Nat.reduceEqDiff, Int.reduceNeg, Int.reduceToNat, Int.reduceAdd, Int.reduceSub]; try exact rfl) (by simp [go_sem]) (by simp only [go_sem, Nat.reduceLT, Nat.reduceBEq, Nat.reduceLeDiff, Nat.reduceAdd, Nat.reduceMul, Nat.reduceSub, Nat.reduceEqDiff, Int.reduceNeg, Int.reduceToNat, Int.reduceAdd, Int.reduceSub]; try exact rfl) (by simp only [go_sem, Nat.reduceLT, Nat.reduceBEq, Nat.reduceLeDiff, Nat.reduceAdd, Nat.reduceMul, Nat.reduceSub, Nat.reduceEqDiff, Int.reduceNeg, Int.reduceToNat, Int.reduceAdd, Int.reduceSub]; exact rfl) (by simp only [go_sem, Nat.reduceLT, Nat.reduceBEq, Nat.reduceLeDiff, Nat.reduceAdd, Nat.reduceMul, Nat.reduceSub, Nat.reduceEqDiff, Int.reduceNeg, Int.reduceToNat, Int.reduceAdd, Int.reduceSub]; exact rfl) ?_
    simp only [go_sem, Nat.reduceLT, Nat.reduceBEq, Nat.reduceLeDiff, Nat.reduceAdd, Nat.reduceMul, Nat.reduceSub, Nat.reduceEqDiff, Int.reduceNeg, Int.reduceToNat, Int.reduceAdd, Int.reduceSub, nodeRow]
    refine seg_store tabOK rfl rfl (by simp only [go_sem, Nat.reduceLT, Nat.reduceBEq, Nat.reduceLeDiff, Nat.reduceAdd, Nat.reduceMul, Nat.reduceSub, Nat.reduceEqDiff, Int.reduceNeg, Int.reduceToNat, Int.reduceAdd, Int.reduceSub]; try exact rfl) (by simp only [go_sem, Nat.reduceLT, Nat.reduceBEq, Nat.reduceLeDiff, Nat.reduceAdd, Nat.reduceMul, Nat.reduceSub, Nat.reduceEqDiff, Int.reduceNeg, Int.reduceToNat, Int.reduceAdd, Int.reduceSub]; try exact rfl) (by simp only [go_sem, Nat.reduceLT, Nat.reduceBEq, Nat.reduceLeDiff, Nat.reduceAdd, Nat.reduceMul, Nat.reduceSub, Nat.reduceEqDiff, Int.reduceNeg, Int.reduceToNat, Int.reduceAdd, Int.reduceSub]; try exact rfl) (by first | trivial | simp [go_sem]) (by simp only [go_sem, Nat.reduceLT, Nat.reduceBEq, Nat.reduceLeDiff, Nat.reduceAdd, Nat.reduceMul, Nat.reduceSub, Nat.reduceEqDiff, Int.reduceNeg, Int.reduceToNat, Int.reduceAdd, Int.reduceSub]; exact rfl) (by simp [go_sem]) (by simp only [go_sem, Nat.reduceLT, Nat.reduceBEq, Nat.reduceLeDiff, Nat.reduceAdd, Nat.reduceMul, Nat.reduceSub, Nat.reduceEqDiff, Int.reduceNeg, Int.reduceToNat, Int.reduceAdd, Int.reduceSub]; exact rfl) (by simp only [go_sem, Nat.reduceLT, Nat.reduceBEq, Nat.reduceLeDiff, Nat.reduceAdd, Nat.reduceMul, Nat.reduceSub, Nat.reduceEqDiff, Int.reduceNeg, Int.reduceToNat, Int.reduceAdd, Int.reduceSub]; exact rfl) (by simp only [go_sem, Nat.reduceLT, Nat.reduceBEq, Nat.reduceLeDiff, Nat.reduceAdd, Nat.reduceMul, Nat.reduceSub, Nat.reduceEqDiff, Int.reduceNeg, Int.reduceToNat, Int.reduceAdd, Int.reduceSub]; exact rfl) ?_
    refine seg_end (by kernel_rfl) (by simp only [go_sem, Nat.reduceLT, Nat.reduceBEq, Nat.reduceLeDiff, Nat.reduceAdd, Nat.reduceMul, Nat.reduceSub, Nat.reduceEqDiff, Int.reduceNeg, Int.reduceToNat, Int.reduceAdd, Int.reduceSub]; exact rfl) ?_
    refine draw_step tabOK rfl (by kernel_rfl) rfl (by simp only [go_sem, Nat.reduceLT, Nat.reduceBEq, Nat.reduceLeDiff, Nat.reduceAdd, Nat.reduceMul, Nat.reduceSub, Nat.reduceEqDiff, Int.reduceNeg, Int.reduceToNat, Int.reduceAdd, Int.reduceSub]; try exact rfl) (by simp [go_sem]) rfl ?_
    refine draw_close (by kernel_rfl) ?_
    try simp only [go_sem, Nat.reduceLT, Nat.reduceBEq, Nat.reduceLeDiff, Nat.reduceAdd, Nat.reduceMul, Nat.reduceSub, Nat.reduceEqDiff, Int.reduceNeg, Int.reduceToNat, Int.reduceAdd, Int.reduceSub, List.getElem_toArray, List.getElem_cons_succ, List.getElem_cons_zero]
    refine cw_go tabOK 99 (by simp only [go_sem, Nat.reduceLT, Nat.reduceBEq, Nat.reduceLeDiff, Nat.reduceAdd, Nat.reduceMul, Nat.reduceSub, Nat.reduceEqDiff, Int.reduceNeg, Int.reduceToNat, Int.reduceAdd, Int.reduceSub]; try exact rfl) (by simp [go_sem]) ?_
    refine cw_cond (by simp only [go_sem, Nat.reduceLT, Nat.reduceBEq, Nat.reduceLeDiff, Nat.reduceAdd, Nat.reduceMul, Nat.reduceSub, Nat.reduceEqDiff, Int.reduceNeg, Int.reduceToNat, Int.reduceAdd, Int.reduceSub]; try exact rfl) trivial (fun h => ?_) (fun h => ?_)
    · cases h
    refine cw_go tabOK 99 (by simp only [go_sem, Nat.reduceLT, Nat.reduceBEq, Nat.reduceLeDiff, Nat.reduceAdd, Nat.reduceMul, Nat.reduceSub, Nat.reduceEqDiff, Int.reduceNeg, Int.reduceToNat, Int.reduceAdd, Int.reduceSub]; try exact rfl) (by simp [go_sem]) ?_
    refine cw_cond (by simp only [go_sem, Nat.reduceLT, Nat.reduceBEq, Nat.reduceLeDiff, Nat.reduceAdd, Nat.reduceMul, Nat.reduceSub, Nat.reduceEqDiff, Int.reduceNeg, Int.reduceToNat, Int.reduceAdd, Int.reduceSub]; try exact rfl) trivial (fun h => ?_) (fun h => ?_)
    · have h0 : x.entries.length > 0 := by have h2 := of_decide_eq_true h; omega
      refine cw_go tabOK 99 (by simp only [go_sem, Nat.reduceLT, Nat.reduceBEq, Nat.reduceLeDiff, Nat.reduceAdd, Nat.reduceMul, Nat.reduceSub, Nat.reduceEqDiff, Int.reduceNeg, Int.reduceToNat, Int.reduceAdd, Int.reduceSub]; try exact rfl) (by simp [go_sem]) ?_
      refine cw_ret ⟨_, _, by simp only [go_sem, Nat.reduceLT, Nat.reduceBEq, Nat.reduceLeDiff, Nat.reduceAdd, Nat.reduceMul, Nat.reduceSub, Nat.reduceEqDiff, Int.reduceNeg, Int.reduceToNat, Int.reduceAdd, Int.reduceSub]; try exact rfl, by simp [go_sem], _, .inr (.inl rfl), ?_, hold2 ?_ ?_⟩
      · simp [h0]
      · simp [go_sem, doerRow, h0]
      · simp [go_sem]
    have h0 : ¬ x.entries.length > 0 := by have h2 := of_decide_eq_false h; omega
    simp only [h0, if_false, if_true]
    refine cw_go tabOK 99 (by simp only [go_sem, Nat.reduceLT, Nat.reduceBEq, Nat.reduceLeDiff, Nat.reduceAdd, Nat.reduceMul, Nat.reduceSub, Nat.reduceEqDiff, Int.reduceNeg, Int.reduceToNat, Int.reduceAdd, Int.reduceSub]; try exact rfl) (by simp [go_sem]) ?_
    refine cw_draw mixed ?_
    refine seg_start rfl ?_
    refine seg_runN tabOK 7 (by simp only [go_sem, Nat.reduceLT, Nat.reduceBEq, Nat.reduceLeDiff, Nat.reduceAdd, Nat.reduceMul, Nat.reduceSub, Nat.reduceEqDiff, Int.reduceNeg, Int.reduceToNat, Int.reduceAdd, Int.reduceSub]; exact rfl) (by simp only [go_sem, Nat.reduceLT, Nat.reduceBEq, Nat.reduceLeDiff, Nat.reduceAdd, Nat.reduceMul, Nat.reduceSub, Nat.reduceEqDiff, Int.reduceNeg, Int.reduceToNat, Int.reduceAdd, Int.reduceSub]; exact rfl) (by simp only [go_sem, Nat.reduceLT, Nat.reduceBEq, Nat.reduceLeDiff, Nat.reduceAdd, Nat.reduceMul, Nat.reduceSub, Nat.reduceEqDiff, Int.reduceNeg, Int.reduceToNat, Int.reduceAdd, Int.reduceSub, nodeRow, doerRow]; try exact rfl) ?_ (by simp only [go_sem, Nat.reduceLT, Nat.reduceBEq, Nat.reduceLeDiff, Nat.reduceAdd, Nat.reduceMul, Nat.reduceSub, Nat.reduceEqDiff, Int.reduceNeg, Int.reduceToNat, Int.reduceAdd, Int.reduceSub]; exact rfl) ?_
    · simp [nodeRow, doerRow]
    refine seg_call rfl rfl (by simp only [go_sem, Nat.reduceLT, Nat.reduceBEq, Nat.reduceLeDiff, Nat.reduceAdd, Nat.reduceMul, Nat.reduceSub, Nat.reduceEqDiff, Int.reduceNeg, Int.reduceToNat, Int.reduceAdd, Int.reduceSub]; try exact rfl) (by simp [go_sem]) ⟨_, Go.Proofs.Try.func38, by kernel_rfl, rfl⟩ (by simp [go_sem]) (hee) (by simp [go_sem]) (by simp only [go_sem, Nat.reduceLT, Nat.reduceBEq, Nat.reduceLeDiff, Nat.reduceAdd, Nat.reduceMul, Nat.reduceSub, Nat.reduceEqDiff, Int.reduceNeg, Int.reduceToNat, Int.reduceAdd, Int.reduceSub]; exact rfl) (by simp only [go_sem, Nat.reduceLT, Nat.reduceBEq, Nat.reduceLeDiff, Nat.reduceAdd, Nat.reduceMul, Nat.reduceSub, Nat.reduceEqDiff, Int.reduceNeg, Int.reduceToNat, Int.reduceAdd, Int.reduceSub]; exact rfl) ?_
    refine seg_end (by kernel_rfl) (by simp only [go_sem, Nat.reduceLT, Nat.reduceBEq, Nat.reduceLeDiff, Nat.reduceAdd, Nat.reduceMul, Nat.reduceSub, Nat.reduceEqDiff, Int.reduceNeg, Int.reduceToNat, Int.reduceAdd, Int.reduceSub]; exact rfl) ?_
    refine draw_trip rfl (by kernel_rfl) rfl (trip_callP rfl (by simp only [go_sem, Nat.reduceLT, Nat.reduceBEq, Nat.reduceLeDiff, Nat.reduceAdd, Nat.reduceMul, Nat.reduceSub, Nat.reduceEqDiff, Int.reduceNeg, Int.reduceToNat, Int.reduceAdd, Int.reduceSub]; try exact rfl) (by simp [go_sem]) ⟨_, Go.Proofs.Try.func147, by kernel_rfl, rfl⟩ [15] (by simp only [go_sem, Nat.reduceLT, Nat.reduceBEq, Nat.reduceLeDiff, Nat.reduceAdd, Nat.reduceMul, Nat.reduceSub, Nat.reduceEqDiff, Int.reduceNeg, Int.reduceToNat, Int.reduceAdd, Int.reduceSub, Bool.false_or, Bool.or_true, Bool.true_or, Bool.or_false, ↓reduceIte]; try exact rfl) (by simp [go_sem]) (by simp) (by simp [go_sem]) (by simp [go_sem]) (by simp [go_sem]) (hp1) (by simp only [go_sem, Nat.reduceLT, Nat.reduceBEq, Nat.reduceLeDiff, Nat.reduceAdd, Nat.reduceMul, Nat.reduceSub, Nat.reduceEqDiff, Int.reduceNeg, Int.reduceToNat, Int.reduceAdd, Int.reduceSub, Bool.false_or, Bool.or_true, Bool.true_or, Bool.or_false, ↓reduceIte]; exact rfl)) rfl ?_
    refine draw_close (by kernel_rfl) ?_
    try simp only [go_sem, Nat.reduceLT, Nat.reduceBEq, Nat.reduceLeDiff, Nat.reduceAdd, Nat.reduceMul, Nat.reduceSub, Nat.reduceEqDiff, Int.reduceNeg, Int.reduceToNat, Int.reduceAdd, Int.reduceSub, List.getElem_toArray, List.getElem_cons_succ, List.getElem_cons_zero]
    refine cw_go tabOK 99 (by simp only [go_sem, Nat.reduceLT, Nat.reduceBEq, Nat.reduceLeDiff, Nat.reduceAdd, Nat.reduceMul, Nat.reduceSub, Nat.reduceEqDiff, Int.reduceNeg, Int.reduceToNat, Int.reduceAdd, Int.reduceSub]; try exact rfl) (by simp [go_sem]) ?_
    refine cw_draw mixed ?_
    refine seg_start rfl ?_
    refine seg_runN tabOK 10 (by simp only [go_sem, Nat.reduceLT, Nat.reduceBEq, Nat.reduceLeDiff, Nat.reduceAdd, Nat.reduceMul, Nat.reduceSub, Nat.reduceEqDiff, Int.reduceNeg, Int.reduceToNat, Int.reduceAdd, Int.reduceSub]; exact rfl) (by simp only [go_sem, Nat.reduceLT, Nat.reduceBEq, Nat.reduceLeDiff, Nat.reduceAdd, Nat.reduceMul, Nat.reduceSub, Nat.reduceEqDiff, Int.reduceNeg, Int.reduceToNat, Int.reduceAdd, Int.reduceSub]; exact rfl) (by simp only [go_sem, Nat.reduceLT, Nat.reduceBEq, Nat.reduceLeDiff, Nat.reduceAdd, Nat.reduceMul, Nat.reduceSub, Nat.reduceEqDiff, Int.reduceNeg, Int.reduceToNat, Int.reduceAdd, Int.reduceSub, doerRow]; try exact rfl) ?_ (by simp only [go_sem, Nat.reduceLT, Nat.reduceBEq, Nat.reduceLeDiff, Nat.reduceAdd, Nat.reduceMul, Nat.reduceSub, Nat.reduceEqDiff, Int.reduceNeg, Int.reduceToNat, Int.reduceAdd, Int.reduceSub]; exact rfl) ?_
    · simp [doerRow]
    refine seg_call rfl rfl (by simp only [go_sem, Nat.reduceLT, Nat.reduceBEq, Nat.reduceLeDiff, Nat.reduceAdd, Nat.reduceMul, Nat.reduceSub, Nat.reduceEqDiff, Int.reduceNeg, Int.reduceToNat, Int.reduceAdd, Int.reduceSub]; try exact rfl) (by simp [go_sem]) ⟨_, Go.Proofs.Try.func35, by kernel_rfl, rfl⟩ (by simp [go_sem]) (hp2) (by simp [go_sem]) (by simp only [go_sem, Nat.reduceLT, Nat.reduceBEq, Nat.reduceLeDiff, Nat.reduceAdd, Nat.reduceMul, Nat.reduceSub, Nat.reduceEqDiff, Int.reduceNeg, Int.reduceToNat, Int.reduceAdd, Int.reduceSub]; exact rfl) (by simp only [go_sem, Nat.reduceLT, Nat.reduceBEq, Nat.reduceLeDiff, Nat.reduceAdd, Nat.reduceMul, Nat.reduceSub, Nat.reduceEqDiff, Int.reduceNeg, Int.reduceToNat, Int.reduceAdd, Int.reduceSub]; exact rfl) ?_
    refine seg_runN tabOK 2 (by simp only [go_sem, Nat.reduceLT, Nat.reduceBEq, Nat.reduceLeDiff, Nat.reduceAdd, Nat.reduceMul, Nat.reduceSub, Nat.reduceEqDiff, Int.reduceNeg, Int.reduceToNat, Int.reduceAdd, Int.reduceSub]; exact rfl) (by simp only [go_sem, Nat.reduceLT, Nat.reduceBEq, Nat.reduceLeDiff, Nat.reduceAdd, Nat.reduceMul, Nat.reduceSub, Nat.reduceEqDiff, Int.reduceNeg, Int.reduceToNat, Int.reduceAdd, Int.reduceSub]; exact rfl) (by simp only [go_sem, Nat.reduceLT, Nat.reduceBEq, Nat.reduceLeDiff, Nat.reduceAdd, Nat.reduceMul, Nat.reduceSub, Nat.reduceEqDiff, Int.reduceNeg, Int.reduceToNat, Int.reduceAdd, Int.reduceSub, doerRow]; try exact rfl) ?_ (by simp only [go_sem, Nat.reduceLT, Nat.reduceBEq, Nat.reduceLeDiff, Nat.reduceAdd, Nat.reduceMul, Nat.reduceSub, Nat.reduceEqDiff, Int.reduceNeg, Int.reduceToNat, Int.reduceAdd, Int.reduceSub]; exact rfl) ?_
    · simp [doerRow]
    refine seg_end (by kernel_rfl) (by simp only [go_sem, Nat.reduceLT, Nat.reduceBEq, Nat.reduceLeDiff, Nat.reduceAdd, Nat.reduceMul, Nat.reduceSub, Nat.reduceEqDiff, Int.reduceNeg, Int.reduceToNat, Int.reduceAdd, Int.reduceSub]; exact rfl) ?_
    refine draw_step tabOK rfl (by kernel_rfl) rfl (by simp only [go_sem, Nat.reduceLT, Nat.reduceBEq, Nat.reduceLeDiff, Nat.reduceAdd, Nat.reduceMul, Nat.reduceSub, Nat.reduceEqDiff, Int.reduceNeg, Int.reduceToNat, Int.reduceAdd, Int.reduceSub]; try exact rfl) ?_ rfl ?_
    · simp [go_sem, doerRow]
    refine draw_close (by kernel_rfl) ?_
    try simp only [go_sem, Nat.reduceLT, Nat.reduceBEq, Nat.reduceLeDiff, Nat.reduceAdd, Nat.reduceMul, Nat.reduceSub, Nat.reduceEqDiff, Int.reduceNeg, Int.reduceToNat, Int.reduceAdd, Int.reduceSub, List.getElem_toArray, List.getElem_cons_succ, List.getElem_cons_zero]
    refine cw_go tabOK 99 (by simp only [go_sem, Nat.reduceLT, Nat.reduceBEq, Nat.reduceLeDiff, Nat.reduceAdd, Nat.reduceMul, Nat.reduceSub, Nat.reduceEqDiff, Int.reduceNeg, Int.reduceToNat, Int.reduceAdd, Int.reduceSub]; try exact rfl) (by simp [go_sem]) ?_
    refine cw_ret ⟨_, _, by simp only [go_sem, Nat.reduceLT, Nat.reduceBEq, Nat.reduceLeDiff, Nat.reduceAdd, Nat.reduceMul, Nat.reduceSub, Nat.reduceEqDiff, Int.reduceNeg, Int.reduceToNat, Int.reduceAdd, Int.reduceSub]; try exact rfl, by simp [go_sem], _, .inr (.inl rfl), ?_, hold2 ?_ ?_⟩
    · simp
    · simp [go_sem, doerRow]
    · simp [go_sem]

def storeE (l : List Node) (a : Act) : Int := match findN l a.fid with
  | none => 12
  | some n => if n.dir then 9 else if a.data.length > 20 then 4 else 0
def storeL (l : List Node) (a : Act) (v : Int) : List Node := if storeE l a = 0 then putN l { getN l a.fid with data := a.data, version := v } else l

set_option maxHeartbeats 2000000 in
theorem store_ok (l : List Node) (a : Act) (v : Int) (hl : Small l) (ha : a.data.length ≤ 100000000) (G Y N : Nat → Nat) : FnOK Try.prog 101 [.ptr 15 9 0 0] (dH (doerRow l a v) G Y N)
    (fun r H => r = .int .i64 (storeE l a) ∧ ∀ i b, hget (dH (doerRow (storeL l a v) a v) G Y N) i = some b → hget H i = some b) := by
  have hsm : (getN l a.fid).Small := hl.find a.fid
  have hmE : storeL l a v = if storeE l a = 0 then putN l { getN l a.fid with data := a.data, version := v } else l := rfl
  rw [hmE]
  have hp1 := put_in l a v { getN l a.fid with data := a.data } hl ⟨ha, hsm.entries⟩
  have hlet : ({ ({ getN l a.fid with data := a.data } : Node) with version := v } : Node) = { getN l a.fid with data := a.data, version := v } := rfl
  rw [hlet] at hp1
  generalize putN l { getN l a.fid with data := a.data, version := v } = l2 at hp1
  unfold storeE
  unfold getN at hp1
  unfold dH
  refine fn_of_cwW tabOK (Go.Proofs.Try.func101) rfl (fun C => ?_)
  simp only [Go.Proofs.Try.ntmps101, Go.Proofs.Try.results101, go_sem, Nat.reduceLT, Nat.reduceBEq, Nat.reduceLeDiff, Nat.reduceAdd, Nat.reduceMul, Nat.reduceSub, Nat.reduceEqDiff, Int.reduceNeg, Int.reduceToNat, Int.reduceAdd, Int.reduceSub]
  refine cw_go tabOK 99 (by simp only [go_sem, Nat.reduceLT, Nat.reduceBEq, Nat.reduceLeDiff, Nat.reduceAdd, Nat.reduceMul, Nat.reduceSub, Nat.reduceEqDiff, Int.reduceNeg, Int.reduceToNat, Int.reduceAdd, Int.reduceSub]; try exact rfl) (by simp [go_sem]) ?_
  refine cw_draw mixed ?_
  refine seg_start rfl ?_
  refine seg_runN tabOK 9 (by simp only [go_sem, Nat.reduceLT, Nat.reduceBEq, Nat.reduceLeDiff, Nat.reduceAdd, Nat.reduceMul, Nat.reduceSub, Nat.reduceEqDiff, Int.reduceNeg, Int.reduceToNat, Int.reduceAdd, Int.reduceSub]; exact rfl) (by simp only [go_sem, Nat.reduceLT, Nat.reduceBEq, Nat.reduceLeDiff, Nat.reduceAdd, Nat.reduceMul, Nat.reduceSub, Nat.reduceEqDiff, Int.reduceNeg, Int.reduceToNat, Int.reduceAdd, Int.reduceSub]; exact rfl) (by simp only [go_sem, Nat.reduceLT, Nat.reduceBEq, Nat.reduceLeDiff, Nat.reduceAdd, Nat.reduceMul, Nat.reduceSub, Nat.reduceEqDiff, Int.reduceNeg, Int.reduceToNat, Int.reduceAdd, Int.reduceSub, doerRow]; try exact rfl) ?_ (by simp only [go_sem, Nat.reduceLT, Nat.reduceBEq, Nat.reduceLeDiff, Nat.reduceAdd, Nat.reduceMul, Nat.reduceSub, Nat.reduceEqDiff, Int.reduceNeg, Int.reduceToNat, Int.reduceAdd, Int.reduceSub]; exact rfl) ?_
  · simp [doerRow]
  refine seg_call rfl rfl (by simp only [go_sem, Nat.reduceLT, Nat.reduceBEq, Nat.reduceLeDiff, Nat.reduceAdd, Nat.reduceMul, Nat.reduceSub, Nat.reduceEqDiff, Int.reduceNeg, Int.reduceToNat, Int.reduceAdd, Int.reduceSub]; try exact rfl) (by simp [go_sem]) ⟨_, Go.Proofs.Try.func33, by kernel_rfl, rfl⟩ (by simp [go_sem]) (find_ok l a.fid hl) (by simp [go_sem]) (by simp only [go_sem, Nat.reduceLT, Nat.reduceBEq, Nat.reduceLeDiff, Nat.reduceAdd, Nat.reduceMul, Nat.reduceSub, Nat.reduceEqDiff, Int.reduceNeg, Int.reduceToNat, Int.reduceAdd, Int.reduceSub]; exact rfl) (by simp only [go_sem, Nat.reduceLT, Nat.reduceBEq, Nat.reduceLeDiff, Nat.reduceAdd, Nat.reduceMul, Nat.reduceSub, Nat.reduceEqDiff, Int.reduceNeg, Int.reduceToNat, Int.reduceAdd, Int.reduceSub]; exact rfl) ?_
  simp only [go_sem, Nat.reduceLT, Nat.reduceBEq, Nat.reduceLeDiff, Nat.reduceAdd, Nat.reduceMul, Nat.reduceSub, Nat.reduceEqDiff, Int.reduceNeg, Int.reduceToNat, Int.reduceAdd, Int.reduceSub, findR]
  rw [isAt_eq]
  cases hfd : findN l a.fid with
  | none =>
    simp only [Option.getD_none, Option.isSome_none]
    refine seg_run tabOK (by simp only [go_sem, Nat.reduceLT, Nat.reduceBEq, Nat.reduceLeDiff, Nat.reduceAdd, Nat.reduceMul, Nat.reduceSub, Nat.reduceEqDiff, Int.reduceNeg, Int.reduceToNat, Int.reduceAdd, Int.reduceSub]; try exact rfl) (by simp [go_sem]) (by simp only [go_sem, Nat.reduceLT, Nat.reduceBEq, Nat.reduceLeDiff, Nat.reduceAdd, Nat.reduceMul, Nat.reduceSub, Nat.reduceEqDiff, Int.reduceNeg, Int.reduceToNat, Int.reduceAdd, Int.reduceSub]; exact rfl) ?_
    refine seg_new tabOK rfl (by simp only [go_sem, Nat.reduceLT, Nat.reduceBEq, Nat.reduceLeDiff, Nat.reduceAdd, Nat.reduceMul, Nat.reduceSub, Nat.reduceEqDiff, Int.reduceNeg, Int.reduceToNat, Int.reduceAdd, Int.reduceSub]; try exact rfl) (by simp only [go_sem, Nat.reduceLT, Nat.reduceBEq, Nat.reduceLeDiff, Nat.reduceAdd, Nat.reduceMul, Nat.reduceSub, Nat.reduceEqDiff, Int.reduceNeg, Int.reduceToNat, Int.reduceAdd, Int.reduceSub]; try exact rfl) (by simp [go_sem]) (by simp only [go_sem, Nat.reduceLT, Nat.reduceBEq, Nat.reduceLeDiff, Nat.reduceAdd, Nat.reduceMul, Nat.reduceSub, Nat.reduceEqDiff, Int.reduceNeg, Int.reduceToNat, Int.reduceAdd, Int.reduceSub]; try exact rfl) (by simp only [go_sem, Nat.reduceLT, Nat.reduceBEq, Nat.reduceLeDiff, Nat.reduceAdd, Nat.reduceMul, Nat.reduceSub, Nat.reduceEqDiff, Int.reduceNeg, Int.reduceToNat, Int.reduceAdd, Int.reduceSub]; exact rfl) (by simp only [go_sem, Nat.reduceLT, Nat.reduceBEq, Nat.reduceLeDiff, Nat.reduceAdd, Nat.reduceMul, Nat.reduceSub, Nat.reduceEqDiff, Int.reduceNeg, Int.reduceToNat, Int.reduceAdd, Int.reduceSub]; exact rfl) ?_
    simp only [go_sem, Nat.reduceLT, Nat.reduceBEq, Nat.reduceLeDiff, Nat.reduceAdd, Nat.reduceMul, Nat.reduceSub, Nat.reduceEqDiff, Int.reduceNeg, Int.reduceToNat, Int.reduceAdd, Int.reduceSub, nodeRow, zeroN]
    refine seg_store tabOK rfl rfl (by simp only [go_sem, Nat.reduceLT, Nat.reduceBEq, Nat.reduceLeDiff, Nat.reduceAdd, Nat.reduceMul, Nat.reduceSub, Nat.reduceEqDiff, Int.reduceNeg, Int.reduceToNat, Int.reduceAdd, Int.reduceSub]; try exact rfl) (by simp only [go_sem, Nat.reduceLT, Nat.reduceBEq, Nat.reduceLeDiff, Nat.reduceAdd, Nat.reduceMul, Nat.reduceSub, Nat.reduceEqDiff, Int.reduceNeg, Int.reduceToNat, Int.reduceAdd, Int.reduceSub]; try exact rfl) (by simp only [go_sem, Nat.reduceLT, Nat.reduceBEq, Nat.reduceLeDiff, Nat.reduceAdd, Nat.reduceMul, Nat.reduceSub, Nat.reduceEqDiff, Int.reduceNeg, Int.reduceToNat, Int.reduceAdd, Int.reduceSub]; try exact rfl) (by first | trivial | simp [go_sem]) (by simp only [go_sem, Nat.reduceLT, Nat.reduceBEq, Nat.reduceLeDiff, Nat.reduceAdd, Nat.reduceMul, Nat.reduceSub, Nat.reduceEqDiff, Int.reduceNeg, Int.reduceToNat, Int.reduceAdd, Int.reduceSub]; exact rfl) (by simp [go_sem]) (by simp only [go_sem, Nat.reduceLT, Nat.reduceBEq, Nat.reduceLeDiff, Nat.reduceAdd, Nat.reduceMul, Nat.reduceSub, Nat.reduceEqDiff, Int.reduceNeg, Int.reduceToNat, Int.reduceAdd, Int.reduceSub]; exact rfl) (by simp only [go_sem, Nat.reduceLT, Nat.reduceBEq, Nat.reduceLeDiff, Nat.reduceAdd, Nat.reduceMul, Nat.reduceSub, Nat.reduceEqDiff, Int.reduceNeg, Int.reduceToNat, Int.reduceAdd, Int.reduceSub]; exact rfl) (by simp only [go_sem, Nat.reduceLT, Nat.reduceBEq, Nat.reduceLeDiff, Nat.reduceAdd, Nat.reduceMul, Nat.reduceSub, Nat.reduceEqDiff, Int.reduceNeg, Int.reduceToNat, Int.reduceAdd, Int.reduceSub]; exact rfl) ?_
    refine seg_end (by kernel_rfl) (by simp only [go_sem, Nat.reduceLT, Nat.reduceBEq, Nat.reduceLeDiff, Nat.reduceAdd, Nat.reduceMul, Nat.reduceSub, Nat.reduceEqDiff, Int.reduceNeg, Int.reduceToNat, Int.reduceAdd, Int.reduceSub]; exact rfl) ?_
    refine draw_step tabOK rfl (by kernel_rfl) rfl (by simp only [go_sem, Nat.reduceLT, Nat.reduceBEq, Nat.reduceLeDiff, Nat.reduceAdd, Nat.reduceMul, Nat.reduceSub, Nat.reduceEqDiff, Int.reduceNeg, Int.reduceToNat, Int.reduceAdd, Int.reduceSub]; try exact rfl) (by simp [go_sem]) rfl ?_
    refine draw_close (by kernel_rfl) ?_
    try simp only [go_sem, Nat.reduceLT, Nat.reduceBEq, Nat.reduceLeDiff, Nat.reduceAdd, Nat.reduceMul, Nat.reduceSub, Nat.reduceEqDiff, Int.reduceNeg, Int.reduceToNat, Int.reduceAdd, Int.reduceSub, List.getElem_toArray, List.getElem_cons_succ, List.getElem_cons_zero]
    refine cw_go tabOK 99 (by simp only [go_sem, Nat.reduceLT, Nat.reduceBEq, Nat.reduceLeDiff, Nat.reduceAdd, Nat.reduceMul, Nat.reduceSub, Nat.reduceEqDiff, Int.reduceNeg, Int.reduceToNat, Int.reduceAdd, Int.reduceSub]; try exact rfl) (by simp [go_sem]) ?_
    refine cw_cond (by simp only [go_sem, Nat.reduceLT, Nat.reduceBEq, Nat.reduceLeDiff, Nat.reduceAdd, Nat.reduceMul, Nat.reduceSub, Nat.reduceEqDiff, Int.reduceNeg, Int.reduceToNat, Int.reduceAdd, Int.reduceSub]; try exact rfl) trivial (fun h => ?_) (fun h => ?_)
    · refine cw_go tabOK 99 (by simp only [go_sem, Nat.reduceLT, Nat.reduceBEq, Nat.reduceLeDiff, Nat.reduceAdd, Nat.reduceMul, Nat.reduceSub, Nat.reduceEqDiff, Int.reduceNeg, Int.reduceToNat, Int.reduceAdd, Int.reduceSub]; try exact rfl) (by simp [go_sem]) ?_
      refine cw_ret ⟨_, _, by simp only [go_sem, Nat.reduceLT, Nat.reduceBEq, Nat.reduceLeDiff, Nat.reduceAdd, Nat.reduceMul, Nat.reduceSub, Nat.reduceEqDiff, Int.reduceNeg, Int.reduceToNat, Int.reduceAdd, Int.reduceSub]; try exact rfl, by simp [go_sem], _, .inr (.inl rfl), ?_, hold2 ?_ ?_⟩
      · simp
      · simp [go_sem, doerRow]
      · simp [go_sem]
    · cases h
  | some x =>
    rw [hfd] at hp1
    simp only [Option.getD_some, Option.isSome_some] at hp1 ⊢
    refine seg_run tabOK (by simp only [go_sem, Nat.reduceLT, Nat.reduceBEq, Nat.reduceLeDiff, Nat.reduceAdd, Nat.reduceMul, Nat.reduceSub, Nat.reduceEqDiff, Int.reduceNeg, Int.reduceToNat, Int.reduceAdd, Int.reduceSub]; try exact rfl) (by simp [go_sem]) (by simp only [go_sem, Nat.reduceLT, Nat.reduceBEq, Nat.reduceLeDiff, Nat.reduceAdd, Nat.reduceMul, Nat.reduceSub, Nat.reduceEqDiff, Int.reduceNeg, Int.reduceToNat, Int.reduceAdd, Int.reduceSub]; exact rfl) ?_
    refine seg_new tabOK rfl (by simp only [go_sem, Nat.reduceLT, Nat.reduceBEq, Nat.reduceLeDiff, Nat.reduceAdd, Nat.reduceMul, Nat.reduceSub, Nat.reduceEqDiff, Int.reduceNeg, Int.reduceToNat, Int.reduceAdd, Int.reduceSub]; try exact rfl) (by simp only [go_sem, Nat.reduceLT, Nat.reduceBEq, Nat.reduceLeDiff, Nat.reduceAdd, Nat.reduceMul, Nat.reduceSub, Nat.reduceEqDiff, Int.reduceNeg, Int.reduceToNat, Int.reduceAdd, Int.reduceSub]; try exact rfl) (by simp [go_sem]) (by simp only [go_sem, Nat.reduceLT, Nat.reduceBEq, Nat.reduceLeDiff, Nat.reduceAdd, Nat.reduceMul, Nat.reduceSub, Nat.reduceEqDiff, Int.reduceNeg, Int.reduceToNat, Int.reduceAdd, Int.reduceSub]; try exact rfl) (by simp only [go_sem, Nat.reduceLT, Nat.reduceBEq, Nat.reduceLeDiff, Nat.reduceAdd, Nat.reduceMul, Nat.reduceSub, Nat.reduceEqDiff, Int.reduceNeg, Int.reduceToNat, Int.reduceAdd, Int.reduceSub]; exact rfl) (by simp only [go_sem, Nat.reduceLT, Nat.reduceBEq, Nat.reduceLeDiff, Nat.reduceAdd, Nat.reduceMul, Nat.reduceSub, Nat.reduceEqDiff, Int.reduceNeg, Int.reduceToNat, Int.reduceAdd, Int.reduceSub]; exact rfl) ?_
    simp only [go_sem, Nat.reduceLT, Nat.reduceBEq, Nat.reduceLeDiff, Nat.reduceAdd, Nat.reduceMul, Nat.reduceSub, Nat.reduceEqDiff, Int.reduceNeg, Int.reduceToNat, Int.reduceAdd, Int.reduceSub, nodeRow]
    refine seg_store tabOK rfl rfl (by simp only [go_sem, Nat.reduceLT, Nat.reduceBEq, Nat.reduceLeDiff, Nat.reduceAdd, Nat.reduceMul, Nat.reduceSub, Nat.reduceEqDiff, Int.reduceNeg, Int.reduceToNat, Int.reduceAdd, Int.reduceSub]; try exact rfl) (by simp only [go_sem, Nat.reduceLT, Nat.reduceBEq, Nat.reduceLeDiff, Nat.reduceAdd, Nat.reduceMul, Nat.reduceSub, Nat.reduceEqDiff, Int.reduceNeg, Int.reduceToNat, Int.reduceAdd, Int.reduceSub]; try exact rfl) (by simp only [go_sem, Nat.reduceLT, Nat.reduceBEq, Nat.reduceLeDiff, Nat.reduceAdd, Nat.reduceMul, Nat.reduceSub, Nat.reduceEqDiff, Int.reduceNeg, Int.reduceToNat, Int.reduceAdd, Int.reduceSub]; try exact rfl) (by first | trivial | simp [go_sem]) (by simp only [go_sem, Nat.reduceLT, Nat.reduceBEq, Nat.reduceLeDiff, Nat.reduceAdd, Nat.reduceMul, Nat.reduceSub, Nat.reduceEqDiff, Int.reduceNeg, Int.reduceToNat, Int.reduceAdd, Int.reduceSub]; exact rfl) (by simp [go_sem]) (by simp only [go_sem, Nat.reduceLT, Nat.reduceBEq, Nat.reduceLeDiff, Nat.reduceAdd, Nat.reduceMul, Nat.reduceSub, Nat.reduceEqDiff, Int.reduceNeg, Int.reduceToNat, Int.reduceAdd, Int.reduceSub]; exact rfl) (by simp only [go_sem, Nat.reduceLT, Nat.reduceBEq, Nat.reduceLeDiff, Nat.reduceAdd, Nat.reduceMul, Nat.reduceSub, Nat.reduceEqDiff, Int.reduceNeg, Int.reduceToNat, Int.reduceAdd, Int.reduceSub]; exact rfl) (by simp only [go_sem, Nat.reduceLT, Nat.reduceBEq, Nat.reduceLeDiff, Nat.reduceAdd, Nat.reduceMul, Nat.reduceSub, Nat.reduceEqDiff, Int.reduceNeg, Int.reduceToNat, Int.reduceAdd, Int.reduceSub]; exact rfl) ?_
    refine seg_end (by kernel_rfl) (by simp only [go_sem, Nat.reduceLT, Nat.reduceBEq, Nat.reduceLeDiff, Nat.reduceAdd, Nat.reduceMul, Nat.reduceSub, Nat.reduceEqDiff, Int.reduceNeg, Int.reduceToNat, Int.reduceAdd, Int.reduceSub]; exact rfl) ?_
    refine draw_step tabOK rfl (by kernel_rfl) rfl (by simp only [go_sem, Nat.reduceLT, Nat.reduceBEq, Nat.reduceLeDiff, Nat.reduceAdd, Nat.reduceMul, Nat.reduceSub, Nat.reduceEqDiff, Int.reduceNeg, Int.reduceToNat, Int.reduceAdd, Int.reduceSub]; try exact rfl) (by simp [go_sem]) rfl ?_
    refine draw_close (by kernel_rfl) ?_
    try simp only [go_sem, Nat.reduceLT, Nat.reduceBEq, Nat.reduceLeDiff, Nat.reduceAdd, Nat.reduceMul, Nat.reduceSub, Nat.reduceEqDiff, Int.reduceNeg, Int.reduceToNat, Int.reduceAdd, Int.reduceSub, List.getElem_toArray, List.getElem_cons_succ, List.getElem_cons_zero]
    refine cw_go tabOK 99 (by simp only [go_sem, Nat.reduceLT, Nat.reduceBEq, Nat.reduceLeDiff, Nat.reduceAdd, Nat.reduceMul, Nat.reduceSub, Nat.reduceEqDiff, Int.reduceNeg, Int.reduceToNat, Int.reduceAdd, Int.reduceSub]; try exact rfl) (by simp [go_sem]) ?_
    refine cw_cond (by simp only [go_sem, Nat.reduceLT, Nat.reduceBEq, Nat.reduceLeDiff, Nat.reduceAdd, Nat.reduceMul, Nat.reduceSub, Nat.reduceEqDiff, Int.reduceNeg, Int.reduceToNat, Int.reduceAdd, Int.reduceSub]; try exact rfl) trivial (fun h => ?_) (fun h => ?_)
    · cases h
    refine cw_go tabOK 99 (by simp only [go_sem, Nat.reduceLT, Nat.reduceBEq, Nat.reduceLeDiff, Nat.reduceAdd, Nat.reduceMul, Nat.reduceSub, Nat.reduceEqDiff, Int.reduceNeg, Int.reduceToNat, Int.reduceAdd, Int.reduceSub]; try exact rfl) (by simp [go_sem]) ?_
    refine cw_cond (by simp only [go_sem, Nat.reduceLT, Nat.reduceBEq, Nat.reduceLeDiff, Nat.reduceAdd, Nat.reduceMul, Nat.reduceSub, Nat.reduceEqDiff, Int.reduceNeg, Int.reduceToNat, Int.reduceAdd, Int.reduceSub]; try exact rfl) trivial (fun h => ?_) (fun h => ?_)
    · have h0 : x.dir = true := h
      refine cw_go tabOK 99 (by simp only [go_sem, Nat.reduceLT, Nat.reduceBEq, Nat.reduceLeDiff, Nat.reduceAdd, Nat.reduceMul, Nat.reduceSub, Nat.reduceEqDiff, Int.reduceNeg, Int.reduceToNat, Int.reduceAdd, Int.reduceSub]; try exact rfl) (by simp [go_sem]) ?_
      refine cw_ret ⟨_, _, by simp only [go_sem, Nat.reduceLT, Nat.reduceBEq, Nat.reduceLeDiff, Nat.reduceAdd, Nat.reduceMul, Nat.reduceSub, Nat.reduceEqDiff, Int.reduceNeg, Int.reduceToNat, Int.reduceAdd, Int.reduceSub]; try exact rfl, by simp [go_sem], _, .inr (.inl rfl), ?_, hold2 ?_ ?_⟩
      · simp [h0]
      · simp [go_sem, doerRow, h0]
      · simp [go_sem]
    have h0 : x.dir = false := h
    refine cw_go tabOK 99 (by simp only [go_sem, Nat.reduceLT, Nat.reduceBEq, Nat.reduceLeDiff, Nat.reduceAdd, Nat.reduceMul, Nat.reduceSub, Nat.reduceEqDiff, Int.reduceNeg, Int.reduceToNat, Int.reduceAdd, Int.reduceSub, doerRow]; try exact rfl) ?_ ?_
    · simp [doerRow]
    refine cw_cond (by simp only [go_sem, Nat.reduceLT, Nat.reduceBEq, Nat.reduceLeDiff, Nat.reduceAdd, Nat.reduceMul, Nat.reduceSub, Nat.reduceEqDiff, Int.reduceNeg, Int.reduceToNat, Int.reduceAdd, Int.reduceSub]; try exact rfl) trivial (fun h => ?_) (fun h => ?_)
    · have h1 : a.data.length > 20 := by simp at h; omega
      refine cw_go tabOK 99 (by simp only [go_sem, Nat.reduceLT, Nat.reduceBEq, Nat.reduceLeDiff, Nat.reduceAdd, Nat.reduceMul, Nat.reduceSub, Nat.reduceEqDiff, Int.reduceNeg, Int.reduceToNat, Int.reduceAdd, Int.reduceSub]; try exact rfl) (by simp [go_sem]) ?_
      refine cw_ret ⟨_, _, by simp only [go_sem, Nat.reduceLT, Nat.reduceBEq, Nat.reduceLeDiff, Nat.reduceAdd, Nat.reduceMul, Nat.reduceSub, Nat.reduceEqDiff, Int.reduceNeg, Int.reduceToNat, Int.reduceAdd, Int.reduceSub]; try exact rfl, by simp [go_sem], _, .inr (.inl rfl), ?_, hold2 ?_ ?_⟩
      · simp [h0, h1]
      · simp [go_sem, doerRow, h0, h1]
      · simp [go_sem]
    have h1 : ¬ a.data.length > 20 := by simp at h; omega
    have hs0 : (if x.dir = true then (9 : Int) else if a.data.length > 20 then 4 else 0) = 0 := by simp [h0, h1]
    simp only [hs0, if_true]
    refine cw_go tabOK 99 (by simp only [go_sem, Nat.reduceLT, Nat.reduceBEq, Nat.reduceLeDiff, Nat.reduceAdd, Nat.reduceMul, Nat.reduceSub, Nat.reduceEqDiff, Int.reduceNeg, Int.reduceToNat, Int.reduceAdd, Int.reduceSub, doerRow]; try exact rfl) ?_ ?_
    · simp [doerRow]
    refine cw_step rfl (trip_callP rfl (by simp only [go_sem, Nat.reduceLT, Nat.reduceBEq, Nat.reduceLeDiff, Nat.reduceAdd, Nat.reduceMul, Nat.reduceSub, Nat.reduceEqDiff, Int.reduceNeg, Int.reduceToNat, Int.reduceAdd, Int.reduceSub]; try exact rfl) (by simp [go_sem]) ⟨_, Go.Proofs.Try.func147, by kernel_rfl, rfl⟩ [15] (by simp only [go_sem, Nat.reduceLT, Nat.reduceBEq, Nat.reduceLeDiff, Nat.reduceAdd, Nat.reduceMul, Nat.reduceSub, Nat.reduceEqDiff, Int.reduceNeg, Int.reduceToNat, Int.reduceAdd, Int.reduceSub, Bool.false_or, Bool.or_true, Bool.true_or, Bool.or_false, ↓reduceIte]; try exact rfl) (by simp [go_sem]) (by simp) (by simp [go_sem]) (by simp [go_sem]) (by simp [go_sem]) (hp1) (by simp only [go_sem, Nat.reduceLT, Nat.reduceBEq, Nat.reduceLeDiff, Nat.reduceAdd, Nat.reduceMul, Nat.reduceSub, Nat.reduceEqDiff, Int.reduceNeg, Int.reduceToNat, Int.reduceAdd, Int.reduceSub, Bool.false_or, Bool.or_true, Bool.true_or, Bool.or_false, ↓reduceIte]; exact rfl)) ?_
    refine cw_go tabOK 99 (by simp only [go_sem, Nat.reduceLT, Nat.reduceBEq, Nat.reduceLeDiff, Nat.reduceAdd, Nat.reduceMul, Nat.reduceSub, Nat.reduceEqDiff, Int.reduceNeg, Int.reduceToNat, Int.reduceAdd, Int.reduceSub]; try exact rfl) (by simp [go_sem]) ?_
    refine cw_ret ⟨_, _, by simp only [go_sem, Nat.reduceLT, Nat.reduceBEq, Nat.reduceLeDiff, Nat.reduceAdd, Nat.reduceMul, Nat.reduceSub, Nat.reduceEqDiff, Int.reduceNeg, Int.reduceToNat, Int.reduceAdd, Int.reduceSub]; try exact rfl, by simp [go_sem], _, .inr (.inl rfl), ?_, hold2 ?_ ?_⟩
    · simp
    · simp [go_sem, doerRow]
    · simp [go_sem]
end La

namespace La
open Go Go.Eng Go.Proofs
set_option maxRecDepth 10000
set_option linter.unusedSimpArgs false
set_option linter.unusedVariables false

def sameT (v : Bool) : List Node → List Node → Bool
  | [], [] => true
  | x :: a, y :: b => sameN v x y && sameT v a b
  | _, _ => false

theorem sameT_iff (v : Bool) : ∀ (a b : List Node), sameT v a b = true ↔ a.length = b.length ∧ ∀ j, j < a.length → sameN v (a.getD j default) (b.getD j default) = true
  | [], [] => by simp [sameT]
  | [], _ :: _ => by simp [sameT]
  | _ :: _, [] => by simp [sameT]
  | x :: a, y :: b => by
    rw [sameT, Bool.and_eq_true, sameT_iff v a b]
    constructor
    · rintro ⟨h1, h2, h3⟩
      refine ⟨by simp [h2], fun j hj => ?_⟩
      cases j with
      | zero => simpa using h1
      | succ j => simpa using h3 j (by simpa using hj)
    · rintro ⟨h2, h3⟩
      refine ⟨by simpa using h3 0 (by simp), by simpa using h2, fun j hj => by simpa using h3 (j + 1) (by simpa using hj)⟩

theorem same_ok (a b : List Node) (v : Bool) (ha : Small a) (hb : Small b) : FnOK Try.prog 29 [.sl (a.map nodeRow), .sl (b.map nodeRow), .bool v] [] (fun r _ => r = .bool (sameT v a b)) := by
  have hla := ha.len
  have hlb := hb.len
  refine fn_of_cwW tabOK (Go.Proofs.Try.func29) rfl (fun C => ?_)
  simp only [Go.Proofs.Try.ntmps29, Go.Proofs.Try.results29, go_sem, Nat.reduceLT, Nat.reduceBEq, Nat.reduceLeDiff, Nat.reduceAdd, Nat.reduceMul, Nat.reduceSub, Nat.reduceEqDiff, Int.reduceNeg, Int.reduceToNat, Int.reduceAdd, Int.reduceSub]
  refine cw_go tabOK 99 (by simp only [go_sem, Nat.reduceLT, Nat.reduceBEq, Nat.reduceLeDiff, Nat.reduceAdd, Nat.reduceMul, Nat.reduceSub, Nat.reduceEqDiff, Int.reduceNeg, Int.reduceToNat, Int.reduceAdd, Int.reduceSub]; try exact rfl) (by simp [go_sem]) ?_
  refine cw_cond (by simp only [go_sem, Nat.reduceLT, Nat.reduceBEq, Nat.reduceLeDiff, Nat.reduceAdd, Nat.reduceMul, Nat.reduceSub, Nat.reduceEqDiff, Int.reduceNeg, Int.reduceToNat, Int.reduceAdd, Int.reduceSub]; try exact rfl) trivial (fun h => ?_) (fun h => ?_)
  · have hne : sameT v a b = false := by
      cases e : sameT v a b with
      | false => rfl
      | true => have := ((sameT_iff v a b).1 e).1; simp [this] at h
    refine cw_go tabOK 99 (by simp only [go_sem, Nat.reduceLT, Nat.reduceBEq, Nat.reduceLeDiff, Nat.reduceAdd, Nat.reduceMul, Nat.reduceSub, Nat.reduceEqDiff, Int.reduceNeg, Int.reduceToNat, Int.reduceAdd, Int.reduceSub]; try exact rfl) (by simp [go_sem]) ?_
    refine cw_ret ⟨_, _, (by simp only [go_sem, Nat.reduceLT, Nat.reduceBEq, Nat.reduceLeDiff, Nat.reduceAdd, Nat.reduceMul, Nat.reduceSub, Nat.reduceEqDiff, Int.reduceNeg, Int.reduceToNat, Int.reduceAdd, Int.reduceSub]; try exact rfl), by simp [go_sem], _, .inr (.inl rfl), ?_⟩
    simp [hne]
  have hl : a.length = b.length := by simp at h; omega
  refine cw_go tabOK 99 (by simp only [go_sem, Nat.reduceLT, Nat.reduceBEq, Nat.reduceLeDiff, Nat.reduceAdd, Nat.reduceMul, Nat.reduceSub, Nat.reduceEqDiff, Int.reduceNeg, Int.reduceToNat, Int.reduceAdd, Int.reduceSub]; try exact rfl) (by simp [go_sem]) ?_
  refine cw_loopS (fun i : Nat => i ≤ a.length ∧ ∀ j, j < i → sameN v (a.getD j default) (b.getD j default) = true) (fun i => a.length - i) (fun i => [(7, .any), (15, .int .i64 i), (16, .any), (17, .any), (18, .any), (19, .any), (20, .any), (21, .any), (22, .any), (23, .any), (24, .any), (25, .any), (26, .any), (27, .any), (28, .any), (29, .any)]) (fun _ => []) 0 ⟨by omega, by omega⟩ ?_ fun i hi => ?_
  · simp only [go_sem, Nat.reduceLT, Nat.reduceBEq, Nat.reduceLeDiff, Nat.reduceAdd, Nat.reduceMul, Nat.reduceSub, Nat.reduceEqDiff, Int.reduceNeg, Int.reduceToNat, Int.reduceAdd, Int.reduceSub]
    exact le_sub (by simp [go_sem]) (by simp [go_sem]) (by simp [go_sem])
  obtain ⟨hi, hs⟩ := hi
  simp only [go_sem, Nat.reduceLT, Nat.reduceBEq, Nat.reduceLeDiff, Nat.reduceAdd, Nat.reduceMul, Nat.reduceSub, Nat.reduceEqDiff, Int.reduceNeg, Int.reduceToNat, Int.reduceAdd, Int.reduceSub]
  refine cw_go tabOK 99 (by simp only [go_sem, Nat.reduceLT, Nat.reduceBEq, Nat.reduceLeDiff, Nat.reduceAdd, Nat.reduceMul, Nat.reduceSub, Nat.reduceEqDiff, Int.reduceNeg, Int.reduceToNat, Int.reduceAdd, Int.reduceSub]; try exact rfl) (by simp [go_sem]) ?_
  refine cw_cond (by simp only [go_sem, Nat.reduceLT, Nat.reduceBEq, Nat.reduceLeDiff, Nat.reduceAdd, Nat.reduceMul, Nat.reduceSub, Nat.reduceEqDiff, Int.reduceNeg, Int.reduceToNat, Int.reduceAdd, Int.reduceSub]; try exact rfl) trivial (fun h => ?_) (fun h => ?_)
  · have hlt : i < a.length := by simp at h; omega
    have hltb : i < b.length := by omega
    have hga : (a.map nodeRow).getD i [] = nodeRow (a.getD i default) := Fam.getD hlt
    have hgb : (b.map nodeRow).getD i [] = nodeRow (b.getD i default) := Fam.getD hltb
    have hsm := sameNode_ok _ _ v (ha.each _ (getD_mem hlt)) (hb.each _ (getD_mem hltb))
    have hno : sameN v (a.getD i default) (b.getD i default) = false → sameT v a b = false := fun h0 => by
      cases e : sameT v a b with
      | false => rfl
      | true => rw [((sameT_iff v a b).1 e).2 i hlt] at h0; cases h0
    have hyes : sameN v (a.getD i default) (b.getD i default) = true → ∀ j, j < i + 1 → sameN v (a.getD j default) (b.getD j default) = true := fun h0 j hj => by
      rcases Nat.lt_succ_iff_lt_or_eq.1 hj with h1 | rfl
      · exact hs j h1
      · exact h0
    clear hs
    generalize a.getD i default = x at hga hsm hno hyes
    generalize b.getD i default = y at hgb hsm hno hyes
    refine cw_go tabOK 99 (by simp only [go_sem, Nat.reduceLT, Nat.reduceBEq, Nat.reduceLeDiff, Nat.reduceAdd, Nat.reduceMul, Nat.reduceSub, Nat.reduceEqDiff, Int.reduceNeg, Int.reduceToNat, Int.reduceAdd, Int.reduceSub]; try exact rfl) (by simp [go_sem]) ?_
    refine cw_draw mixed ?_
    refine seg_start rfl ?_
    refine seg_runN tabOK 9 (by simp only [go_sem, Nat.reduceLT, Nat.reduceBEq, Nat.reduceLeDiff, Nat.reduceAdd, Nat.reduceMul, Nat.reduceSub, Nat.reduceEqDiff, Int.reduceNeg, Int.reduceToNat, Int.reduceAdd, Int.reduceSub]; exact rfl) (by simp only [go_sem, Nat.reduceLT, Nat.reduceBEq, Nat.reduceLeDiff, Nat.reduceAdd, Nat.reduceMul, Nat.reduceSub, Nat.reduceEqDiff, Int.reduceNeg, Int.reduceToNat, Int.reduceAdd, Int.reduceSub]; exact rfl) (by simp only [go_sem, Nat.reduceLT, Nat.reduceBEq, Nat.reduceLeDiff, Nat.reduceAdd, Nat.reduceMul, Nat.reduceSub, Nat.reduceEqDiff, Int.reduceNeg, Int.reduceToNat, Int.reduceAdd, Int.reduceSub, hga, hgb, nodeRow]; try exact rfl) ?_ (by simp only [go_sem, Nat.reduceLT, Nat.reduceBEq, Nat.reduceLeDiff, Nat.reduceAdd, Nat.reduceMul, Nat.reduceSub, Nat.reduceEqDiff, Int.reduceNeg, Int.reduceToNat, Int.reduceAdd, Int.reduceSub]; exact rfl) ?_
    · simp [hga, hgb, nodeRow, hlt, hltb]
    refine seg_call rfl rfl (by simp only [go_sem, Nat.reduceLT, Nat.reduceBEq, Nat.reduceLeDiff, Nat.reduceAdd, Nat.reduceMul, Nat.reduceSub, Nat.reduceEqDiff, Int.reduceNeg, Int.reduceToNat, Int.reduceAdd, Int.reduceSub]; try exact rfl) (by simp [go_sem]) ⟨_, Go.Proofs.Try.func34, by kernel_rfl, rfl⟩ (by simp [go_sem]) (hsm) (by simp [go_sem]) (by simp only [go_sem, Nat.reduceLT, Nat.reduceBEq, Nat.reduceLeDiff, Nat.reduceAdd, Nat.reduceMul, Nat.reduceSub, Nat.reduceEqDiff, Int.reduceNeg, Int.reduceToNat, Int.reduceAdd, Int.reduceSub]; exact rfl) (by simp only [go_sem, Nat.reduceLT, Nat.reduceBEq, Nat.reduceLeDiff, Nat.reduceAdd, Nat.reduceMul, Nat.reduceSub, Nat.reduceEqDiff, Int.reduceNeg, Int.reduceToNat, Int.reduceAdd, Int.reduceSub]; exact rfl) ?_
    refine seg_run tabOK (by simp only [go_sem, Nat.reduceLT, Nat.reduceBEq, Nat.reduceLeDiff, Nat.reduceAdd, Nat.reduceMul, Nat.reduceSub, Nat.reduceEqDiff, Int.reduceNeg, Int.reduceToNat, Int.reduceAdd, Int.reduceSub]; try exact rfl) (by simp [go_sem]) (by simp only [go_sem, Nat.reduceLT, Nat.reduceBEq, Nat.reduceLeDiff, Nat.reduceAdd, Nat.reduceMul, Nat.reduceSub, Nat.reduceEqDiff, Int.reduceNeg, Int.reduceToNat, Int.reduceAdd, Int.reduceSub]; exact rfl) ?_
    refine seg_end (by kernel_rfl) (by simp only [go_sem, Nat.reduceLT, Nat.reduceBEq, Nat.reduceLeDiff, Nat.reduceAdd, Nat.reduceMul, Nat.reduceSub, Nat.reduceEqDiff, Int.reduceNeg, Int.reduceToNat, Int.reduceAdd, Int.reduceSub]; exact rfl) ?_
    refine draw_close (by kernel_rfl) ?_
    refine cw_cond (by simp only [go_sem, Nat.reduceLT, Nat.reduceBEq, Nat.reduceLeDiff, Nat.reduceAdd, Nat.reduceMul, Nat.reduceSub, Nat.reduceEqDiff, Int.reduceNeg, Int.reduceToNat, Int.reduceAdd, Int.reduceSub]; try exact rfl) trivial (fun h => ?_) (fun h => ?_)
    · have h0 : sameN v x y = false := by simpa using h
      have := hno h0
      refine cw_go tabOK 99 (by simp only [go_sem, Nat.reduceLT, Nat.reduceBEq, Nat.reduceLeDiff, Nat.reduceAdd, Nat.reduceMul, Nat.reduceSub, Nat.reduceEqDiff, Int.reduceNeg, Int.reduceToNat, Int.reduceAdd, Int.reduceSub]; try exact rfl) (by simp [go_sem]) ?_
      refine cw_ret ⟨_, _, (by simp only [go_sem, Nat.reduceLT, Nat.reduceBEq, Nat.reduceLeDiff, Nat.reduceAdd, Nat.reduceMul, Nat.reduceSub, Nat.reduceEqDiff, Int.reduceNeg, Int.reduceToNat, Int.reduceAdd, Int.reduceSub]; try exact rfl), by simp [go_sem], _, .inr (.inl rfl), ?_⟩
      simp [this]
    · have h0 : sameN v x y = true := by simpa using h
      have hw : IntKind.i64.wrap ((i : Int) + 1) = ((i + 1 : Nat) : Int) := by rw [Eng.wrap_small (by omega) (by omega)]; rfl
      refine cw_go tabOK 99 (by simp only [go_sem, Nat.reduceLT, Nat.reduceBEq, Nat.reduceLeDiff, Nat.reduceAdd, Nat.reduceMul, Nat.reduceSub, Nat.reduceEqDiff, Int.reduceNeg, Int.reduceToNat, Int.reduceAdd, Int.reduceSub, hw]; try exact rfl) (by simp [go_sem, hw]) ?_
      refine cw_back ⟨i + 1, ⟨by omega, hyes h0⟩, by omega, le_sub ?_ ?_ ?_⟩
      · simp [go_sem]
      · simp [go_sem]
      · simp [go_sem]
  · have e : i = a.length := by simp at h; omega
    subst e
    have hab : sameT v a b = true := (sameT_iff v a b).2 ⟨hl, hs⟩
    refine cw_go tabOK 99 (by simp only [go_sem, Nat.reduceLT, Nat.reduceBEq, Nat.reduceLeDiff, Nat.reduceAdd, Nat.reduceMul, Nat.reduceSub, Nat.reduceEqDiff, Int.reduceNeg, Int.reduceToNat, Int.reduceAdd, Int.reduceSub]; try exact rfl) (by simp [go_sem]) ?_
    refine cw_ret ⟨_, _, (by simp only [go_sem, Nat.reduceLT, Nat.reduceBEq, Nat.reduceLeDiff, Nat.reduceAdd, Nat.reduceMul, Nat.reduceSub, Nat.reduceEqDiff, Int.reduceNeg, Int.reduceToNat, Int.reduceAdd, Int.reduceSub]; try exact rfl), by simp [go_sem], _, .inr (.inl rfl), ?_⟩
    simp [hab]

theorem new_ok : FnOK Try.prog 82 [] [] (fun r _ => r = .sl [[.int .i64 0, .bool true, .nils, .nils, .int .i64 0]]) := by
  refine fn_of_cwW tabOK (Go.Proofs.Try.func82) rfl (fun C => ?_)
  simp only [Go.Proofs.Try.ntmps82, Go.Proofs.Try.results82, go_sem, Nat.reduceLT, Nat.reduceBEq, Nat.reduceLeDiff, Nat.reduceAdd, Nat.reduceMul, Nat.reduceSub, Nat.reduceEqDiff, Int.reduceNeg, Int.reduceToNat, Int.reduceAdd, Int.reduceSub]
  refine cw_go tabOK 99 (by simp only [go_sem, Nat.reduceLT, Nat.reduceBEq, Nat.reduceLeDiff, Nat.reduceAdd, Nat.reduceMul, Nat.reduceSub, Nat.reduceEqDiff, Int.reduceNeg, Int.reduceToNat, Int.reduceAdd, Int.reduceSub]; try exact rfl) (by simp [go_sem]) ?_
  refine cw_freeze 2 rfl (rfl) ?_
  simp only [go_sem, Nat.reduceLT, Nat.reduceBEq, Nat.reduceLeDiff, Nat.reduceAdd, Nat.reduceMul, Nat.reduceSub, Nat.reduceEqDiff, Int.reduceNeg, Int.reduceToNat, Int.reduceAdd, Int.reduceSub]
  refine cw_ret ⟨_, _, (by simp only [go_sem, Nat.reduceLT, Nat.reduceBEq, Nat.reduceLeDiff, Nat.reduceAdd, Nat.reduceMul, Nat.reduceSub, Nat.reduceEqDiff, Int.reduceNeg, Int.reduceToNat, Int.reduceAdd, Int.reduceSub]; try exact rfl), by simp [go_sem], _, .inr (.inl rfl), ?_⟩
  rfl

def stepB (l : List Node) (j : Nat) : Bool := j == 0 || decide ((l.getD (j - 1) default).fid < (l.getD j default).fid)
def entB (es : List Entry) (k : Nat) : Bool := k == 0 || decide ((es.getD (k - 1) default).name < (es.getD k default).name)
def nodeB (l : List Node) (j : Nat) : Bool := stepB l j && (List.range (l.getD j default).entries.length).all (entB (l.getD j default).entries)
def risesB (l : List Node) : Bool := (List.range l.length).all (nodeB l)

theorem adj_up {l : List Node} (h : ∀ j, j < l.length → stepB l j = true) : Up l := by
  refine List.pairwise_iff_getElem.2 fun i j hi hj hij => ?_
  have key : ∀ d, ∀ (h : i + d + 1 < l.length), (l.getD i default).fid < (l.getD (i + d + 1) default).fid := fun d => by
    induction d with
    | zero =>
      intro hlt
      have := h (i + 1) hlt
      simp only [stepB, Nat.add_sub_cancel, Bool.or_eq_true, beq_iff_eq, decide_eq_true_eq] at this
      rcases this with h0 | h0
      · omega
      · exact h0
    | succ d ih =>
      intro hlt
      have h1 := ih (by omega)
      have := h (i + (d + 1) + 1) hlt
      simp only [stepB, Nat.add_sub_cancel, Bool.or_eq_true, beq_iff_eq, decide_eq_true_eq] at this
      rcases this with h0 | h0
      · omega
      · exact Int.lt_trans h1 h0
  obtain ⟨d, rfl⟩ : ∃ d, j = i + d + 1 := ⟨j - i - 1, by omega⟩
  have := key d hj
  rw [List.getD_eq_getElem?_getD, List.getD_eq_getElem?_getD, List.getElem?_eq_getElem hi, List.getElem?_eq_getElem hj] at this
  exact this
theorem adj_eup {l : List Entry} (h : ∀ j, j < l.length → entB l j = true) : EUp l := by
  refine List.pairwise_iff_getElem.2 fun i j hi hj hij => ?_
  have key : ∀ d, ∀ (h : i + d + 1 < l.length), (l.getD i default).name < (l.getD (i + d + 1) default).name := fun d => by
    induction d with
    | zero =>
      intro hlt
      have := h (i + 1) hlt
      simp only [entB, Nat.add_sub_cancel, Bool.or_eq_true, beq_iff_eq, decide_eq_true_eq] at this
      rcases this with h0 | h0
      · omega
      · exact h0
    | succ d ih =>
      intro hlt
      have h1 := ih (by omega)
      have := h (i + (d + 1) + 1) hlt
      simp only [entB, Nat.add_sub_cancel, Bool.or_eq_true, beq_iff_eq, decide_eq_true_eq] at this
      rcases this with h0 | h0
      · omega
      · exact strans h1 h0
  obtain ⟨d, rfl⟩ : ∃ d, j = i + d + 1 := ⟨j - i - 1, by omega⟩
  have := key d hj
  rw [List.getD_eq_getElem?_getD, List.getD_eq_getElem?_getD, List.getElem?_eq_getElem hi, List.getElem?_eq_getElem hj] at this
  exact this
theorem risesB_iff (l : List Node) : risesB l = true ↔ Up l ∧ ∀ n, n ∈ l → EUp n.entries := by
  unfold risesB
  rw [List.all_eq_true]
  constructor
  · intro h
    refine ⟨adj_up fun j hj => ?_, fun n hn => ?_⟩
    · have := h j (List.mem_range.2 hj)
      unfold nodeB at this
      exact (Bool.and_eq_true_iff.1 this).1
    · obtain ⟨j, hj⟩ := List.getElem?_of_mem hn
      have hjl := (List.getElem?_eq_some_iff.1 hj).1
      have := h j (List.mem_range.2 hjl)
      unfold nodeB at this
      rw [getD_of hj] at this
      exact adj_eup fun k hk => List.all_eq_true.1 (Bool.and_eq_true_iff.1 this).2 k (List.mem_range.2 hk)
  · rintro ⟨h1, h2⟩ j hj
    have hjl := List.mem_range.1 hj
    unfold nodeB
    rw [Bool.and_eq_true]
    refine ⟨?_, List.all_eq_true.2 fun k hk => ?_⟩
    · unfold stepB
      cases j with
      | zero => rfl
      | succ j => simp only [Bool.or_eq_true, decide_eq_true_eq]; exact .inr (h1.lt (by omega) hjl)
    · unfold entB
      cases k with
      | zero => rfl
      | succ k => simp only [Bool.or_eq_true, decide_eq_true_eq]; exact .inr ((h2 _ (getD_mem hjl)).lt (by omega) (List.mem_range.1 hk))

theorem risesB_no {l : List Node} {j : Nat} (hj : j < l.length) (h : nodeB l j = false) : risesB l = false := by
  cases e : risesB l with
  | false => rfl
  | true =>
    unfold risesB at e
    rw [List.all_eq_true.1 e j (List.mem_range.2 hj)] at h
    cases h


set_option maxHeartbeats 1000000 in
theorem rises_ok (l : List Node) (hl : Small l) : FnOK Try.prog 27 [.sl (l.map nodeRow)] [] (fun r _ => r = .bool (risesB l)) := by
  have hlen := hl.len
  refine fn_of_cwW tabOK (Go.Proofs.Try.func27) rfl (fun C => ?_)
  simp only [Go.Proofs.Try.ntmps27, Go.Proofs.Try.results27, go_sem, Nat.reduceLT, Nat.reduceBEq, Nat.reduceLeDiff, Nat.reduceAdd, Nat.reduceMul, Nat.reduceSub, Nat.reduceEqDiff, Int.reduceNeg, Int.reduceToNat, Int.reduceAdd, Int.reduceSub]
  refine cw_go tabOK 99 (by simp only [go_sem, Nat.reduceLT, Nat.reduceBEq, Nat.reduceLeDiff, Nat.reduceAdd, Nat.reduceMul, Nat.reduceSub, Nat.reduceEqDiff, Int.reduceNeg, Int.reduceToNat, Int.reduceAdd, Int.reduceSub]; try exact rfl) (by simp [go_sem]) ?_
  refine cw_loopS (fun i : Nat => i ≤ l.length ∧ ∀ j, j < i → nodeB l j = true) (fun i => l.length - i) (fun i => [(3, .any), (4, .any), (5, .any), (8, .int .i64 i), (9, .any), (10, .any), (11, .any), (12, .any), (13, .any), (14, .any), (15, .any), (16, .any), (17, .any), (18, .any), (19, .any), (20, .any), (21, .any), (22, .any), (23, .any), (24, .any), (25, .any), (26, .any), (27, .any), (28, .any), (29, .any), (30, .any), (31, .any), (32, .any), (33, .any), (34, .any), (35, .any), (36, .any), (37, .any), (38, .any), (39, .any), (40, .any), (41, .any), (42, .any), (43, .any), (44, .any), (45, .any), (46, .any), (47, .any), (48, .any), (49, .any), (50, .any), (51, .any)]) (fun _ => []) 0 ⟨by omega, by omega⟩ ?_ fun i hi => ?_
  · simp only [go_sem, Nat.reduceLT, Nat.reduceBEq, Nat.reduceLeDiff, Nat.reduceAdd, Nat.reduceMul, Nat.reduceSub, Nat.reduceEqDiff, Int.reduceNeg, Int.reduceToNat, Int.reduceAdd, Int.reduceSub]
    exact le_sub (by simp [go_sem]) (by simp [go_sem]) (by simp [go_sem])
  obtain ⟨hi, hs⟩ := hi
  simp only [go_sem, Nat.reduceLT, Nat.reduceBEq, Nat.reduceLeDiff, Nat.reduceAdd, Nat.reduceMul, Nat.reduceSub, Nat.reduceEqDiff, Int.reduceNeg, Int.reduceToNat, Int.reduceAdd, Int.reduceSub]
  refine cw_go tabOK 99 (by simp only [go_sem, Nat.reduceLT, Nat.reduceBEq, Nat.reduceLeDiff, Nat.reduceAdd, Nat.reduceMul, Nat.reduceSub, Nat.reduceEqDiff, Int.reduceNeg, Int.reduceToNat, Int.reduceAdd, Int.reduceSub]; try exact rfl) (by simp [go_sem]) ?_
  refine cw_cond (by simp only [go_sem, Nat.reduceLT, Nat.reduceBEq, Nat.reduceLeDiff, Nat.reduceAdd, Nat.reduceMul, Nat.reduceSub, Nat.reduceEqDiff, Int.reduceNeg, Int.reduceToNat, Int.reduceAdd, Int.reduceSub]; try exact rfl) trivial (fun h => ?_) (fun h => ?_)
  · have hlt : i < l.length := by simp at h; omega
    have hg : (l.map nodeRow).getD i [] = nodeRow (l.getD i default) := Fam.getD hlt
    have hen := (hl.each _ (getD_mem hlt)).entries
    have hsB : i ≠ 0 → stepB l i = decide ((l.getD (i - 1) default).fid < (l.getD i default).fid) := fun h0 => by simp [stepB, h0]
    have hno : stepB l i = false → nodeB l i = false := fun h0 => by unfold nodeB; rw [h0]; rfl
    generalize hxd : l.getD i default = x at hg hen hsB
    refine cw_go tabOK 99 (by simp only [go_sem, Nat.reduceLT, Nat.reduceBEq, Nat.reduceLeDiff, Nat.reduceAdd, Nat.reduceMul, Nat.reduceSub, Nat.reduceEqDiff, Int.reduceNeg, Int.reduceToNat, Int.reduceAdd, Int.reduceSub, hg, nodeRow]; try exact rfl) ?_ ?_
    · simp [hg, nodeRow, hlt]
    refine cw_freeze 4 rfl (rfl) ?_
    simp only [go_sem, Nat.reduceLT, Nat.reduceBEq, Nat.reduceLeDiff, Nat.reduceAdd, Nat.reduceMul, Nat.reduceSub, Nat.reduceEqDiff, Int.reduceNeg, Int.reduceToNat, Int.reduceAdd, Int.reduceSub]
    by_cases hi0 : i = 0
    · subst hi0
      have hst : stepB l 0 = true := rfl
      refine cw_draw mixed ?_
      refine seg_start rfl ?_
      refine seg_runN tabOK 3 (by simp only [go_sem, Nat.reduceLT, Nat.reduceBEq, Nat.reduceLeDiff, Nat.reduceAdd, Nat.reduceMul, Nat.reduceSub, Nat.reduceEqDiff, Int.reduceNeg, Int.reduceToNat, Int.reduceAdd, Int.reduceSub]; exact rfl) (by simp only [go_sem, Nat.reduceLT, Nat.reduceBEq, Nat.reduceLeDiff, Nat.reduceAdd, Nat.reduceMul, Nat.reduceSub, Nat.reduceEqDiff, Int.reduceNeg, Int.reduceToNat, Int.reduceAdd, Int.reduceSub]; exact rfl) (by simp only [go_sem, Nat.reduceLT, Nat.reduceBEq, Nat.reduceLeDiff, Nat.reduceAdd, Nat.reduceMul, Nat.reduceSub, Nat.reduceEqDiff, Int.reduceNeg, Int.reduceToNat, Int.reduceAdd, Int.reduceSub]; try exact rfl) (by simp [go_sem]) (by simp only [go_sem, Nat.reduceLT, Nat.reduceBEq, Nat.reduceLeDiff, Nat.reduceAdd, Nat.reduceMul, Nat.reduceSub, Nat.reduceEqDiff, Int.reduceNeg, Int.reduceToNat, Int.reduceAdd, Int.reduceSub]; exact rfl) ?_
      refine seg_skip .any (by simp only [go_sem, Nat.reduceLT, Nat.reduceBEq, Nat.reduceLeDiff, Nat.reduceAdd, Nat.reduceMul, Nat.reduceSub, Nat.reduceEqDiff, Int.reduceNeg, Int.reduceToNat, Int.reduceAdd, Int.reduceSub]; try exact rfl) (by simp only [go_sem, Nat.reduceLT, Nat.reduceBEq, Nat.reduceLeDiff, Nat.reduceAdd, Nat.reduceMul, Nat.reduceSub, Nat.reduceEqDiff, Int.reduceNeg, Int.reduceToNat, Int.reduceAdd, Int.reduceSub]; exact rfl) (by simp only [go_sem, Nat.reduceLT, Nat.reduceBEq, Nat.reduceLeDiff, Nat.reduceAdd, Nat.reduceMul, Nat.reduceSub, Nat.reduceEqDiff, Int.reduceNeg, Int.reduceToNat, Int.reduceAdd, Int.reduceSub]; exact rfl) ?_
      refine seg_skip .any (by simp only [go_sem, Nat.reduceLT, Nat.reduceBEq, Nat.reduceLeDiff, Nat.reduceAdd, Nat.reduceMul, Nat.reduceSub, Nat.reduceEqDiff, Int.reduceNeg, Int.reduceToNat, Int.reduceAdd, Int.reduceSub]; try exact rfl) (by simp only [go_sem, Nat.reduceLT, Nat.reduceBEq, Nat.reduceLeDiff, Nat.reduceAdd, Nat.reduceMul, Nat.reduceSub, Nat.reduceEqDiff, Int.reduceNeg, Int.reduceToNat, Int.reduceAdd, Int.reduceSub]; exact rfl) (by simp only [go_sem, Nat.reduceLT, Nat.reduceBEq, Nat.reduceLeDiff, Nat.reduceAdd, Nat.reduceMul, Nat.reduceSub, Nat.reduceEqDiff, Int.reduceNeg, Int.reduceToNat, Int.reduceAdd, Int.reduceSub]; exact rfl) ?_
      refine seg_skip .any (by simp only [go_sem, Nat.reduceLT, Nat.reduceBEq, Nat.reduceLeDiff, Nat.reduceAdd, Nat.reduceMul, Nat.reduceSub, Nat.reduceEqDiff, Int.reduceNeg, Int.reduceToNat, Int.reduceAdd, Int.reduceSub]; try exact rfl) (by simp only [go_sem, Nat.reduceLT, Nat.reduceBEq, Nat.reduceLeDiff, Nat.reduceAdd, Nat.reduceMul, Nat.reduceSub, Nat.reduceEqDiff, Int.reduceNeg, Int.reduceToNat, Int.reduceAdd, Int.reduceSub]; exact rfl) (by simp only [go_sem, Nat.reduceLT, Nat.reduceBEq, Nat.reduceLeDiff, Nat.reduceAdd, Nat.reduceMul, Nat.reduceSub, Nat.reduceEqDiff, Int.reduceNeg, Int.reduceToNat, Int.reduceAdd, Int.reduceSub]; exact rfl) ?_
      refine seg_skip .any (by simp only [go_sem, Nat.reduceLT, Nat.reduceBEq, Nat.reduceLeDiff, Nat.reduceAdd, Nat.reduceMul, Nat.reduceSub, Nat.reduceEqDiff, Int.reduceNeg, Int.reduceToNat, Int.reduceAdd, Int.reduceSub]; try exact rfl) (by simp only [go_sem, Nat.reduceLT, Nat.reduceBEq, Nat.reduceLeDiff, Nat.reduceAdd, Nat.reduceMul, Nat.reduceSub, Nat.reduceEqDiff, Int.reduceNeg, Int.reduceToNat, Int.reduceAdd, Int.reduceSub]; exact rfl) (by simp only [go_sem, Nat.reduceLT, Nat.reduceBEq, Nat.reduceLeDiff, Nat.reduceAdd, Nat.reduceMul, Nat.reduceSub, Nat.reduceEqDiff, Int.reduceNeg, Int.reduceToNat, Int.reduceAdd, Int.reduceSub]; exact rfl) ?_
      refine seg_skip .any (by simp only [go_sem, Nat.reduceLT, Nat.reduceBEq, Nat.reduceLeDiff, Nat.reduceAdd, Nat.reduceMul, Nat.reduceSub, Nat.reduceEqDiff, Int.reduceNeg, Int.reduceToNat, Int.reduceAdd, Int.reduceSub]; try exact rfl) (by simp only [go_sem, Nat.reduceLT, Nat.reduceBEq, Nat.reduceLeDiff, Nat.reduceAdd, Nat.reduceMul, Nat.reduceSub, Nat.reduceEqDiff, Int.reduceNeg, Int.reduceToNat, Int.reduceAdd, Int.reduceSub]; exact rfl) (by simp only [go_sem, Nat.reduceLT, Nat.reduceBEq, Nat.reduceLeDiff, Nat.reduceAdd, Nat.reduceMul, Nat.reduceSub, Nat.reduceEqDiff, Int.reduceNeg, Int.reduceToNat, Int.reduceAdd, Int.reduceSub]; exact rfl) ?_
      refine seg_skip .any (by simp only [go_sem, Nat.reduceLT, Nat.reduceBEq, Nat.reduceLeDiff, Nat.reduceAdd, Nat.reduceMul, Nat.reduceSub, Nat.reduceEqDiff, Int.reduceNeg, Int.reduceToNat, Int.reduceAdd, Int.reduceSub]; try exact rfl) (by simp only [go_sem, Nat.reduceLT, Nat.reduceBEq, Nat.reduceLeDiff, Nat.reduceAdd, Nat.reduceMul, Nat.reduceSub, Nat.reduceEqDiff, Int.reduceNeg, Int.reduceToNat, Int.reduceAdd, Int.reduceSub]; exact rfl) (by simp only [go_sem, Nat.reduceLT, Nat.reduceBEq, Nat.reduceLeDiff, Nat.reduceAdd, Nat.reduceMul, Nat.reduceSub, Nat.reduceEqDiff, Int.reduceNeg, Int.reduceToNat, Int.reduceAdd, Int.reduceSub]; exact rfl) ?_
      refine seg_skip .any (by simp only [go_sem, Nat.reduceLT, Nat.reduceBEq, Nat.reduceLeDiff, Nat.reduceAdd, Nat.reduceMul, Nat.reduceSub, Nat.reduceEqDiff, Int.reduceNeg, Int.reduceToNat, Int.reduceAdd, Int.reduceSub]; try exact rfl) (by simp only [go_sem, Nat.reduceLT, Nat.reduceBEq, Nat.reduceLeDiff, Nat.reduceAdd, Nat.reduceMul, Nat.reduceSub, Nat.reduceEqDiff, Int.reduceNeg, Int.reduceToNat, Int.reduceAdd, Int.reduceSub]; exact rfl) (by simp only [go_sem, Nat.reduceLT, Nat.reduceBEq, Nat.reduceLeDiff, Nat.reduceAdd, Nat.reduceMul, Nat.reduceSub, Nat.reduceEqDiff, Int.reduceNeg, Int.reduceToNat, Int.reduceAdd, Int.reduceSub]; exact rfl) ?_
      refine seg_skip .any (by simp only [go_sem, Nat.reduceLT, Nat.reduceBEq, Nat.reduceLeDiff, Nat.reduceAdd, Nat.reduceMul, Nat.reduceSub, Nat.reduceEqDiff, Int.reduceNeg, Int.reduceToNat, Int.reduceAdd, Int.reduceSub]; try exact rfl) (by simp only [go_sem, Nat.reduceLT, Nat.reduceBEq, Nat.reduceLeDiff, Nat.reduceAdd, Nat.reduceMul, Nat.reduceSub, Nat.reduceEqDiff, Int.reduceNeg, Int.reduceToNat, Int.reduceAdd, Int.reduceSub]; exact rfl) (by simp only [go_sem, Nat.reduceLT, Nat.reduceBEq, Nat.reduceLeDiff, Nat.reduceAdd, Nat.reduceMul, Nat.reduceSub, Nat.reduceEqDiff, Int.reduceNeg, Int.reduceToNat, Int.reduceAdd, Int.reduceSub]; exact rfl) ?_
      refine seg_skip (.bool false) (by simp only [go_sem, Nat.reduceLT, Nat.reduceBEq, Nat.reduceLeDiff, Nat.reduceAdd, Nat.reduceMul, Nat.reduceSub, Nat.reduceEqDiff, Int.reduceNeg, Int.reduceToNat, Int.reduceAdd, Int.reduceSub]; try exact rfl) (by simp only [go_sem, Nat.reduceLT, Nat.reduceBEq, Nat.reduceLeDiff, Nat.reduceAdd, Nat.reduceMul, Nat.reduceSub, Nat.reduceEqDiff, Int.reduceNeg, Int.reduceToNat, Int.reduceAdd, Int.reduceSub]; exact rfl) (by simp only [go_sem, Nat.reduceLT, Nat.reduceBEq, Nat.reduceLeDiff, Nat.reduceAdd, Nat.reduceMul, Nat.reduceSub, Nat.reduceEqDiff, Int.reduceNeg, Int.reduceToNat, Int.reduceAdd, Int.reduceSub]; exact rfl) ?_
      refine seg_runN tabOK 1 (by simp only [go_sem, Nat.reduceLT, Nat.reduceBEq, Nat.reduceLeDiff, Nat.reduceAdd, Nat.reduceMul, Nat.reduceSub, Nat.reduceEqDiff, Int.reduceNeg, Int.reduceToNat, Int.reduceAdd, Int.reduceSub]; exact rfl) (by simp only [go_sem, Nat.reduceLT, Nat.reduceBEq, Nat.reduceLeDiff, Nat.reduceAdd, Nat.reduceMul, Nat.reduceSub, Nat.reduceEqDiff, Int.reduceNeg, Int.reduceToNat, Int.reduceAdd, Int.reduceSub]; exact rfl) (by simp only [go_sem, Nat.reduceLT, Nat.reduceBEq, Nat.reduceLeDiff, Nat.reduceAdd, Nat.reduceMul, Nat.reduceSub, Nat.reduceEqDiff, Int.reduceNeg, Int.reduceToNat, Int.reduceAdd, Int.reduceSub]; try exact rfl) (by simp [go_sem]) (by simp only [go_sem, Nat.reduceLT, Nat.reduceBEq, Nat.reduceLeDiff, Nat.reduceAdd, Nat.reduceMul, Nat.reduceSub, Nat.reduceEqDiff, Int.reduceNeg, Int.reduceToNat, Int.reduceAdd, Int.reduceSub]; exact rfl) ?_
      refine seg_end (by kernel_rfl) (by simp only [go_sem, Nat.reduceLT, Nat.reduceBEq, Nat.reduceLeDiff, Nat.reduceAdd, Nat.reduceMul, Nat.reduceSub, Nat.reduceEqDiff, Int.reduceNeg, Int.reduceToNat, Int.reduceAdd, Int.reduceSub]; exact rfl) ?_
      refine draw_close (by kernel_rfl) ?_
      refine cw_condF (by simp only [go_sem, Nat.reduceLT, Nat.reduceBEq, Nat.reduceLeDiff, Nat.reduceAdd, Nat.reduceMul, Nat.reduceSub, Nat.reduceEqDiff, Int.reduceNeg, Int.reduceToNat, Int.reduceAdd, Int.reduceSub]; try exact rfl) trivial (by simp) ?_
      refine cw_go tabOK 99 (by simp only [go_sem, Nat.reduceLT, Nat.reduceBEq, Nat.reduceLeDiff, Nat.reduceAdd, Nat.reduceMul, Nat.reduceSub, Nat.reduceEqDiff, Int.reduceNeg, Int.reduceToNat, Int.reduceAdd, Int.reduceSub]; try exact rfl) (by simp [go_sem]) ?_
      refine cw_loopS (fun k : Nat => k ≤ x.entries.length ∧ ∀ j, j < k → entB x.entries j = true) (fun k => x.entries.length - k) (fun k => [(5, .any), (29, .int .i64 k), (30, .any), (31, .any), (32, .any), (33, .any), (34, .any), (35, .any), (36, .any), (37, .any), (38, .any), (39, .any), (40, .any), (41, .any), (42, .any), (43, .any), (44, .any), (45, .any), (46, .any), (47, .any), (48, .any), (49, .any)]) (fun _ => []) 0 ⟨by omega, by omega⟩ ?_ fun k hk => ?_
      · simp only [go_sem, Nat.reduceLT, Nat.reduceBEq, Nat.reduceLeDiff, Nat.reduceAdd, Nat.reduceMul, Nat.reduceSub, Nat.reduceEqDiff, Int.reduceNeg, Int.reduceToNat, Int.reduceAdd, Int.reduceSub]
        exact le_sub (by simp [go_sem]) (by simp [go_sem]) (by simp [go_sem])
      obtain ⟨hk, hks⟩ := hk
      simp only [go_sem, Nat.reduceLT, Nat.reduceBEq, Nat.reduceLeDiff, Nat.reduceAdd, Nat.reduceMul, Nat.reduceSub, Nat.reduceEqDiff, Int.reduceNeg, Int.reduceToNat, Int.reduceAdd, Int.reduceSub]
      refine cw_go tabOK 99 (by simp only [go_sem, Nat.reduceLT, Nat.reduceBEq, Nat.reduceLeDiff, Nat.reduceAdd, Nat.reduceMul, Nat.reduceSub, Nat.reduceEqDiff, Int.reduceNeg, Int.reduceToNat, Int.reduceAdd, Int.reduceSub]; try exact rfl) (by simp [go_sem]) ?_
      refine cw_cond (by simp only [go_sem, Nat.reduceLT, Nat.reduceBEq, Nat.reduceLeDiff, Nat.reduceAdd, Nat.reduceMul, Nat.reduceSub, Nat.reduceEqDiff, Int.reduceNeg, Int.reduceToNat, Int.reduceAdd, Int.reduceSub]; try exact rfl) trivial (fun h => ?_) (fun h => ?_)
      · have hklt : k < x.entries.length := by simp at h; omega
        have hgk : (x.entries.map entryRow).getD k [] = entryRow (x.entries.getD k default) := Fam.getD hklt
        have hwk : IntKind.i64.wrap ((k : Int) + 1) = ((k + 1 : Nat) : Int) := by rw [Eng.wrap_small (by omega) (by omega)]; rfl
        refine cw_go tabOK 99 (by simp only [go_sem, Nat.reduceLT, Nat.reduceBEq, Nat.reduceLeDiff, Nat.reduceAdd, Nat.reduceMul, Nat.reduceSub, Nat.reduceEqDiff, Int.reduceNeg, Int.reduceToNat, Int.reduceAdd, Int.reduceSub]; try exact rfl) (by simp [go_sem]) ?_
        by_cases hk0 : k = 0
        · subst hk0
          have he : entB x.entries 0 = true := rfl
          refine cw_draw mixed ?_
          refine seg_start rfl ?_
          refine seg_runN tabOK 3 (by simp only [go_sem, Nat.reduceLT, Nat.reduceBEq, Nat.reduceLeDiff, Nat.reduceAdd, Nat.reduceMul, Nat.reduceSub, Nat.reduceEqDiff, Int.reduceNeg, Int.reduceToNat, Int.reduceAdd, Int.reduceSub]; exact rfl) (by simp only [go_sem, Nat.reduceLT, Nat.reduceBEq, Nat.reduceLeDiff, Nat.reduceAdd, Nat.reduceMul, Nat.reduceSub, Nat.reduceEqDiff, Int.reduceNeg, Int.reduceToNat, Int.reduceAdd, Int.reduceSub]; exact rfl) (by simp only [go_sem, Nat.reduceLT, Nat.reduceBEq, Nat.reduceLeDiff, Nat.reduceAdd, Nat.reduceMul, Nat.reduceSub, Nat.reduceEqDiff, Int.reduceNeg, Int.reduceToNat, Int.reduceAdd, Int.reduceSub]; try exact rfl) (by simp [go_sem]) (by simp only [go_sem, Nat.reduceLT, Nat.reduceBEq, Nat.reduceLeDiff, Nat.reduceAdd, Nat.reduceMul, Nat.reduceSub, Nat.reduceEqDiff, Int.reduceNeg, Int.reduceToNat, Int.reduceAdd, Int.reduceSub]; exact rfl) ?_
          refine seg_skip .any (by simp only [go_sem, Nat.reduceLT, Nat.reduceBEq, Nat.reduceLeDiff, Nat.reduceAdd, Nat.reduceMul, Nat.reduceSub, Nat.reduceEqDiff, Int.reduceNeg, Int.reduceToNat, Int.reduceAdd, Int.reduceSub]; try exact rfl) (by simp only [go_sem, Nat.reduceLT, Nat.reduceBEq, Nat.reduceLeDiff, Nat.reduceAdd, Nat.reduceMul, Nat.reduceSub, Nat.reduceEqDiff, Int.reduceNeg, Int.reduceToNat, Int.reduceAdd, Int.reduceSub]; exact rfl) (by simp only [go_sem, Nat.reduceLT, Nat.reduceBEq, Nat.reduceLeDiff, Nat.reduceAdd, Nat.reduceMul, Nat.reduceSub, Nat.reduceEqDiff, Int.reduceNeg, Int.reduceToNat, Int.reduceAdd, Int.reduceSub]; exact rfl) ?_
          refine seg_skip .any (by simp only [go_sem, Nat.reduceLT, Nat.reduceBEq, Nat.reduceLeDiff, Nat.reduceAdd, Nat.reduceMul, Nat.reduceSub, Nat.reduceEqDiff, Int.reduceNeg, Int.reduceToNat, Int.reduceAdd, Int.reduceSub]; try exact rfl) (by simp only [go_sem, Nat.reduceLT, Nat.reduceBEq, Nat.reduceLeDiff, Nat.reduceAdd, Nat.reduceMul, Nat.reduceSub, Nat.reduceEqDiff, Int.reduceNeg, Int.reduceToNat, Int.reduceAdd, Int.reduceSub]; exact rfl) (by simp only [go_sem, Nat.reduceLT, Nat.reduceBEq, Nat.reduceLeDiff, Nat.reduceAdd, Nat.reduceMul, Nat.reduceSub, Nat.reduceEqDiff, Int.reduceNeg, Int.reduceToNat, Int.reduceAdd, Int.reduceSub]; exact rfl) ?_
          refine seg_skip .any (by simp only [go_sem, Nat.reduceLT, Nat.reduceBEq, Nat.reduceLeDiff, Nat.reduceAdd, Nat.reduceMul, Nat.reduceSub, Nat.reduceEqDiff, Int.reduceNeg, Int.reduceToNat, Int.reduceAdd, Int.reduceSub]; try exact rfl) (by simp only [go_sem, Nat.reduceLT, Nat.reduceBEq, Nat.reduceLeDiff, Nat.reduceAdd, Nat.reduceMul, Nat.reduceSub, Nat.reduceEqDiff, Int.reduceNeg, Int.reduceToNat, Int.reduceAdd, Int.reduceSub]; exact rfl) (by simp only [go_sem, Nat.reduceLT, Nat.reduceBEq, Nat.reduceLeDiff, Nat.reduceAdd, Nat.reduceMul, Nat.reduceSub, Nat.reduceEqDiff, Int.reduceNeg, Int.reduceToNat, Int.reduceAdd, Int.reduceSub]; exact rfl) ?_
          refine seg_skip .any (by simp only [go_sem, Nat.reduceLT, Nat.reduceBEq, Nat.reduceLeDiff, Nat.reduceAdd, Nat.reduceMul, Nat.reduceSub, Nat.reduceEqDiff, Int.reduceNeg, Int.reduceToNat, Int.reduceAdd, Int.reduceSub]; try exact rfl) (by simp only [go_sem, Nat.reduceLT, Nat.reduceBEq, Nat.reduceLeDiff, Nat.reduceAdd, Nat.reduceMul, Nat.reduceSub, Nat.reduceEqDiff, Int.reduceNeg, Int.reduceToNat, Int.reduceAdd, Int.reduceSub]; exact rfl) (by simp only [go_sem, Nat.reduceLT, Nat.reduceBEq, Nat.reduceLeDiff, Nat.reduceAdd, Nat.reduceMul, Nat.reduceSub, Nat.reduceEqDiff, Int.reduceNeg, Int.reduceToNat, Int.reduceAdd, Int.reduceSub]; exact rfl) ?_
          refine seg_skip .any (by simp only [go_sem, Nat.reduceLT, Nat.reduceBEq, Nat.reduceLeDiff, Nat.reduceAdd, Nat.reduceMul, Nat.reduceSub, Nat.reduceEqDiff, Int.reduceNeg, Int.reduceToNat, Int.reduceAdd, Int.reduceSub]; try exact rfl) (by simp only [go_sem, Nat.reduceLT, Nat.reduceBEq, Nat.reduceLeDiff, Nat.reduceAdd, Nat.reduceMul, Nat.reduceSub, Nat.reduceEqDiff, Int.reduceNeg, Int.reduceToNat, Int.reduceAdd, Int.reduceSub]; exact rfl) (by simp only [go_sem, Nat.reduceLT, Nat.reduceBEq, Nat.reduceLeDiff, Nat.reduceAdd, Nat.reduceMul, Nat.reduceSub, Nat.reduceEqDiff, Int.reduceNeg, Int.reduceToNat, Int.reduceAdd, Int.reduceSub]; exact rfl) ?_
          refine seg_skip .any (by simp only [go_sem, Nat.reduceLT, Nat.reduceBEq, Nat.reduceLeDiff, Nat.reduceAdd, Nat.reduceMul, Nat.reduceSub, Nat.reduceEqDiff, Int.reduceNeg, Int.reduceToNat, Int.reduceAdd, Int.reduceSub]; try exact rfl) (by simp only [go_sem, Nat.reduceLT, Nat.reduceBEq, Nat.reduceLeDiff, Nat.reduceAdd, Nat.reduceMul, Nat.reduceSub, Nat.reduceEqDiff, Int.reduceNeg, Int.reduceToNat, Int.reduceAdd, Int.reduceSub]; exact rfl) (by simp only [go_sem, Nat.reduceLT, Nat.reduceBEq, Nat.reduceLeDiff, Nat.reduceAdd, Nat.reduceMul, Nat.reduceSub, Nat.reduceEqDiff, Int.reduceNeg, Int.reduceToNat, Int.reduceAdd, Int.reduceSub]; exact rfl) ?_
          refine seg_skip .any (by simp only [go_sem, Nat.reduceLT, Nat.reduceBEq, Nat.reduceLeDiff, Nat.reduceAdd, Nat.reduceMul, Nat.reduceSub, Nat.reduceEqDiff, Int.reduceNeg, Int.reduceToNat, Int.reduceAdd, Int.reduceSub]; try exact rfl) (by simp only [go_sem, Nat.reduceLT, Nat.reduceBEq, Nat.reduceLeDiff, Nat.reduceAdd, Nat.reduceMul, Nat.reduceSub, Nat.reduceEqDiff, Int.reduceNeg, Int.reduceToNat, Int.reduceAdd, Int.reduceSub]; exact rfl) (by simp only [go_sem, Nat.reduceLT, Nat.reduceBEq, Nat.reduceLeDiff, Nat.reduceAdd, Nat.reduceMul, Nat.reduceSub, Nat.reduceEqDiff, Int.reduceNeg, Int.reduceToNat, Int.reduceAdd, Int.reduceSub]; exact rfl) ?_
          refine seg_skip .any (by simp only [go_sem, Nat.reduceLT, Nat.reduceBEq, Nat.reduceLeDiff, Nat.reduceAdd, Nat.reduceMul, Nat.reduceSub, Nat.reduceEqDiff, Int.reduceNeg, Int.reduceToNat, Int.reduceAdd, Int.reduceSub]; try exact rfl) (by simp only [go_sem, Nat.reduceLT, Nat.reduceBEq, Nat.reduceLeDiff, Nat.reduceAdd, Nat.reduceMul, Nat.reduceSub, Nat.reduceEqDiff, Int.reduceNeg, Int.reduceToNat, Int.reduceAdd, Int.reduceSub]; exact rfl) (by simp only [go_sem, Nat.reduceLT, Nat.reduceBEq, Nat.reduceLeDiff, Nat.reduceAdd, Nat.reduceMul, Nat.reduceSub, Nat.reduceEqDiff, Int.reduceNeg, Int.reduceToNat, Int.reduceAdd, Int.reduceSub]; exact rfl) ?_
          refine seg_skip .any (by simp only [go_sem, Nat.reduceLT, Nat.reduceBEq, Nat.reduceLeDiff, Nat.reduceAdd, Nat.reduceMul, Nat.reduceSub, Nat.reduceEqDiff, Int.reduceNeg, Int.reduceToNat, Int.reduceAdd, Int.reduceSub]; try exact rfl) (by simp only [go_sem, Nat.reduceLT, Nat.reduceBEq, Nat.reduceLeDiff, Nat.reduceAdd, Nat.reduceMul, Nat.reduceSub, Nat.reduceEqDiff, Int.reduceNeg, Int.reduceToNat, Int.reduceAdd, Int.reduceSub]; exact rfl) (by simp only [go_sem, Nat.reduceLT, Nat.reduceBEq, Nat.reduceLeDiff, Nat.reduceAdd, Nat.reduceMul, Nat.reduceSub, Nat.reduceEqDiff, Int.reduceNeg, Int.reduceToNat, Int.reduceAdd, Int.reduceSub]; exact rfl) ?_
          refine seg_skip .any (by simp only [go_sem, Nat.reduceLT, Nat.reduceBEq, Nat.reduceLeDiff, Nat.reduceAdd, Nat.reduceMul, Nat.reduceSub, Nat.reduceEqDiff, Int.reduceNeg, Int.reduceToNat, Int.reduceAdd, Int.reduceSub]; try exact rfl) (by simp only [go_sem, Nat.reduceLT, Nat.reduceBEq, Nat.reduceLeDiff, Nat.reduceAdd, Nat.reduceMul, Nat.reduceSub, Nat.reduceEqDiff, Int.reduceNeg, Int.reduceToNat, Int.reduceAdd, Int.reduceSub]; exact rfl) (by simp only [go_sem, Nat.reduceLT, Nat.reduceBEq, Nat.reduceLeDiff, Nat.reduceAdd, Nat.reduceMul, Nat.reduceSub, Nat.reduceEqDiff, Int.reduceNeg, Int.reduceToNat, Int.reduceAdd, Int.reduceSub]; exact rfl) ?_
          refine seg_skip .any (by simp only [go_sem, Nat.reduceLT, Nat.reduceBEq, Nat.reduceLeDiff, Nat.reduceAdd, Nat.reduceMul, Nat.reduceSub, Nat.reduceEqDiff, Int.reduceNeg, Int.reduceToNat, Int.reduceAdd, Int.reduceSub]; try exact rfl) (by simp only [go_sem, Nat.reduceLT, Nat.reduceBEq, Nat.reduceLeDiff, Nat.reduceAdd, Nat.reduceMul, Nat.reduceSub, Nat.reduceEqDiff, Int.reduceNeg, Int.reduceToNat, Int.reduceAdd, Int.reduceSub]; exact rfl) (by simp only [go_sem, Nat.reduceLT, Nat.reduceBEq, Nat.reduceLeDiff, Nat.reduceAdd, Nat.reduceMul, Nat.reduceSub, Nat.reduceEqDiff, Int.reduceNeg, Int.reduceToNat, Int.reduceAdd, Int.reduceSub]; exact rfl) ?_
          refine seg_skip .any (by simp only [go_sem, Nat.reduceLT, Nat.reduceBEq, Nat.reduceLeDiff, Nat.reduceAdd, Nat.reduceMul, Nat.reduceSub, Nat.reduceEqDiff, Int.reduceNeg, Int.reduceToNat, Int.reduceAdd, Int.reduceSub]; try exact rfl) (by simp only [go_sem, Nat.reduceLT, Nat.reduceBEq, Nat.reduceLeDiff, Nat.reduceAdd, Nat.reduceMul, Nat.reduceSub, Nat.reduceEqDiff, Int.reduceNeg, Int.reduceToNat, Int.reduceAdd, Int.reduceSub]; exact rfl) (by simp only [go_sem, Nat.reduceLT, Nat.reduceBEq, Nat.reduceLeDiff, Nat.reduceAdd, Nat.reduceMul, Nat.reduceSub, Nat.reduceEqDiff, Int.reduceNeg, Int.reduceToNat, Int.reduceAdd, Int.reduceSub]; exact rfl) ?_
          refine seg_skip .any (by simp only [go_sem, Nat.reduceLT, Nat.reduceBEq, Nat.reduceLeDiff, Nat.reduceAdd, Nat.reduceMul, Nat.reduceSub, Nat.reduceEqDiff, Int.reduceNeg, Int.reduceToNat, Int.reduceAdd, Int.reduceSub]; try exact rfl) (by simp only [go_sem, Nat.reduceLT, Nat.reduceBEq, Nat.reduceLeDiff, Nat.reduceAdd, Nat.reduceMul, Nat.reduceSub, Nat.reduceEqDiff, Int.reduceNeg, Int.reduceToNat, Int.reduceAdd, Int.reduceSub]; exact rfl) (by simp only [go_sem, Nat.reduceLT, Nat.reduceBEq, Nat.reduceLeDiff, Nat.reduceAdd, Nat.reduceMul, Nat.reduceSub, Nat.reduceEqDiff, Int.reduceNeg, Int.reduceToNat, Int.reduceAdd, Int.reduceSub]; exact rfl) ?_
          refine seg_skip (.bool false) (by simp only [go_sem, Nat.reduceLT, Nat.reduceBEq, Nat.reduceLeDiff, Nat.reduceAdd, Nat.reduceMul, Nat.reduceSub, Nat.reduceEqDiff, Int.reduceNeg, Int.reduceToNat, Int.reduceAdd, Int.reduceSub]; try exact rfl) (by simp only [go_sem, Nat.reduceLT, Nat.reduceBEq, Nat.reduceLeDiff, Nat.reduceAdd, Nat.reduceMul, Nat.reduceSub, Nat.reduceEqDiff, Int.reduceNeg, Int.reduceToNat, Int.reduceAdd, Int.reduceSub]; exact rfl) (by simp only [go_sem, Nat.reduceLT, Nat.reduceBEq, Nat.reduceLeDiff, Nat.reduceAdd, Nat.reduceMul, Nat.reduceSub, Nat.reduceEqDiff, Int.reduceNeg, Int.reduceToNat, Int.reduceAdd, Int.reduceSub]; exact rfl) ?_
          refine seg_runN tabOK 1 (by simp only [go_sem, Nat.reduceLT, Nat.reduceBEq, Nat.reduceLeDiff, Nat.reduceAdd, Nat.reduceMul, Nat.reduceSub, Nat.reduceEqDiff, Int.reduceNeg, Int.reduceToNat, Int.reduceAdd, Int.reduceSub]; exact rfl) (by simp only [go_sem, Nat.reduceLT, Nat.reduceBEq, Nat.reduceLeDiff, Nat.reduceAdd, Nat.reduceMul, Nat.reduceSub, Nat.reduceEqDiff, Int.reduceNeg, Int.reduceToNat, Int.reduceAdd, Int.reduceSub]; exact rfl) (by simp only [go_sem, Nat.reduceLT, Nat.reduceBEq, Nat.reduceLeDiff, Nat.reduceAdd, Nat.reduceMul, Nat.reduceSub, Nat.reduceEqDiff, Int.reduceNeg, Int.reduceToNat, Int.reduceAdd, Int.reduceSub]; try exact rfl) (by simp [go_sem]) (by simp only [go_sem, Nat.reduceLT, Nat.reduceBEq, Nat.reduceLeDiff, Nat.reduceAdd, Nat.reduceMul, Nat.reduceSub, Nat.reduceEqDiff, Int.reduceNeg, Int.reduceToNat, Int.reduceAdd, Int.reduceSub]; exact rfl) ?_
          refine seg_end (by kernel_rfl) (by simp only [go_sem, Nat.reduceLT, Nat.reduceBEq, Nat.reduceLeDiff, Nat.reduceAdd, Nat.reduceMul, Nat.reduceSub, Nat.reduceEqDiff, Int.reduceNeg, Int.reduceToNat, Int.reduceAdd, Int.reduceSub]; exact rfl) ?_
          refine draw_close (by kernel_rfl) ?_
          refine cw_condF (by simp only [go_sem, Nat.reduceLT, Nat.reduceBEq, Nat.reduceLeDiff, Nat.reduceAdd, Nat.reduceMul, Nat.reduceSub, Nat.reduceEqDiff, Int.reduceNeg, Int.reduceToNat, Int.reduceAdd, Int.reduceSub]; try exact rfl) trivial (by simp) ?_
          refine cw_go tabOK 99 (by simp only [go_sem, Nat.reduceLT, Nat.reduceBEq, Nat.reduceLeDiff, Nat.reduceAdd, Nat.reduceMul, Nat.reduceSub, Nat.reduceEqDiff, Int.reduceNeg, Int.reduceToNat, Int.reduceAdd, Int.reduceSub, hwk]; try exact rfl) (by simp [go_sem, hwk]) ?_
          refine cw_back ⟨1, ⟨by omega, fun j hj => by rw [show j = 0 by omega]; exact he⟩, by omega, le_sub ?_ ?_ ?_⟩
          · simp [go_sem, hwk]
          · simp [go_sem]
          · simp [go_sem]
        · have hwm : IntKind.i64.wrap ((k : Int) - 1) = ((k - 1 : Nat) : Int) := by rw [Eng.wrap_small (by omega) (by omega)]; omega
          have hgm : (x.entries.map entryRow).getD (k - 1) [] = entryRow (x.entries.getD (k - 1) default) := Fam.getD (by omega)
          have heB : entB x.entries k = decide ((x.entries.getD (k - 1) default).name < (x.entries.getD k default).name) := by
            simp [entB, hk0]
          have hyes : entB x.entries k = true → ∀ j, j < k + 1 → entB x.entries j = true := fun h0 j hj => by
            rcases Nat.lt_succ_iff_lt_or_eq.1 hj with h1 | rfl
            · exact hks j h1
            · exact h0
          have hno : entB x.entries k = false → nodeB l 0 = false := fun h0 => by
            cases e : nodeB l 0 with
            | false => rfl
            | true =>
              unfold nodeB at e
              rw [hxd] at e
              rw [List.all_eq_true.1 (Bool.and_eq_true_iff.1 e).2 k (List.mem_range.2 hklt)] at h0
              cases h0
          generalize x.entries.getD k default = u at hgk heB
          generalize x.entries.getD (k - 1) default = v at hgm heB
          refine cw_draw mixed ?_
          refine seg_start rfl ?_
          refine seg_runN tabOK 2 (by simp only [go_sem, Nat.reduceLT, Nat.reduceBEq, Nat.reduceLeDiff, Nat.reduceAdd, Nat.reduceMul, Nat.reduceSub, Nat.reduceEqDiff, Int.reduceNeg, Int.reduceToNat, Int.reduceAdd, Int.reduceSub]; exact rfl) (by simp only [go_sem, Nat.reduceLT, Nat.reduceBEq, Nat.reduceLeDiff, Nat.reduceAdd, Nat.reduceMul, Nat.reduceSub, Nat.reduceEqDiff, Int.reduceNeg, Int.reduceToNat, Int.reduceAdd, Int.reduceSub]; exact rfl) (by simp only [go_sem, Nat.reduceLT, Nat.reduceBEq, Nat.reduceLeDiff, Nat.reduceAdd, Nat.reduceMul, Nat.reduceSub, Nat.reduceEqDiff, Int.reduceNeg, Int.reduceToNat, Int.reduceAdd, Int.reduceSub]; try exact rfl) (by simp [go_sem]) (by simp only [go_sem, Nat.reduceLT, Nat.reduceBEq, Nat.reduceLeDiff, Nat.reduceAdd, Nat.reduceMul, Nat.reduceSub, Nat.reduceEqDiff, Int.reduceNeg, Int.reduceToNat, Int.reduceAdd, Int.reduceSub]; exact rfl) ?_
          refine seg_name 33 (by simp only [go_sem, Nat.reduceLT, Nat.reduceBEq, Nat.reduceLeDiff, Nat.reduceAdd, Nat.reduceMul, Nat.reduceSub, Nat.reduceEqDiff, Int.reduceNeg, Int.reduceToNat, Int.reduceAdd, Int.reduceSub]; exact rfl) (fun c33 h33 => ?_)
          simp only [go_sem, Nat.reduceLT, Nat.reduceBEq, Nat.reduceLeDiff, Nat.reduceAdd, Nat.reduceMul, Nat.reduceSub, Nat.reduceEqDiff, Int.reduceNeg, Int.reduceToNat, Int.reduceAdd, Int.reduceSub]
          have hc : c33 = true := by rw [← h33]; simp; omega
          subst hc
          refine seg_runN tabOK 16 (by simp only [go_sem, Nat.reduceLT, Nat.reduceBEq, Nat.reduceLeDiff, Nat.reduceAdd, Nat.reduceMul, Nat.reduceSub, Nat.reduceEqDiff, Int.reduceNeg, Int.reduceToNat, Int.reduceAdd, Int.reduceSub]; exact rfl) (by simp only [go_sem, Nat.reduceLT, Nat.reduceBEq, Nat.reduceLeDiff, Nat.reduceAdd, Nat.reduceMul, Nat.reduceSub, Nat.reduceEqDiff, Int.reduceNeg, Int.reduceToNat, Int.reduceAdd, Int.reduceSub]; exact rfl) (by simp only [go_sem, Nat.reduceLT, Nat.reduceBEq, Nat.reduceLeDiff, Nat.reduceAdd, Nat.reduceMul, Nat.reduceSub, Nat.reduceEqDiff, Int.reduceNeg, Int.reduceToNat, Int.reduceAdd, Int.reduceSub, hwm, hgk, hgm, entryRow]; try exact rfl) ?_ (by simp only [go_sem, Nat.reduceLT, Nat.reduceBEq, Nat.reduceLeDiff, Nat.reduceAdd, Nat.reduceMul, Nat.reduceSub, Nat.reduceEqDiff, Int.reduceNeg, Int.reduceToNat, Int.reduceAdd, Int.reduceSub]; exact rfl) ?_
          · simp [hwm, hgk, hgm, entryRow]; omega
          refine seg_end (by kernel_rfl) (by simp only [go_sem, Nat.reduceLT, Nat.reduceBEq, Nat.reduceLeDiff, Nat.reduceAdd, Nat.reduceMul, Nat.reduceSub, Nat.reduceEqDiff, Int.reduceNeg, Int.reduceToNat, Int.reduceAdd, Int.reduceSub]; exact rfl) ?_
          refine draw_close (by kernel_rfl) ?_
          have hb : (!Op.bytesLess v.name u.name) = !entB x.entries k := by rw [less_iff, heB]
          simp only [go_sem, Nat.reduceLT, Nat.reduceBEq, Nat.reduceLeDiff, Nat.reduceAdd, Nat.reduceMul, Nat.reduceSub, Nat.reduceEqDiff, Int.reduceNeg, Int.reduceToNat, Int.reduceAdd, Int.reduceSub, hwm, hb]
          refine cw_cond (by simp only [go_sem, Nat.reduceLT, Nat.reduceBEq, Nat.reduceLeDiff, Nat.reduceAdd, Nat.reduceMul, Nat.reduceSub, Nat.reduceEqDiff, Int.reduceNeg, Int.reduceToNat, Int.reduceAdd, Int.reduceSub]; try exact rfl) trivial (fun h => ?_) (fun h => ?_)
          · have h0 : entB x.entries k = false := by simpa using h
            have := risesB_no hlt (hno h0)
            refine cw_go tabOK 99 (by simp only [go_sem, Nat.reduceLT, Nat.reduceBEq, Nat.reduceLeDiff, Nat.reduceAdd, Nat.reduceMul, Nat.reduceSub, Nat.reduceEqDiff, Int.reduceNeg, Int.reduceToNat, Int.reduceAdd, Int.reduceSub]; try exact rfl) (by simp [go_sem]) ?_
            refine cw_ret ⟨_, _, (by simp only [go_sem, Nat.reduceLT, Nat.reduceBEq, Nat.reduceLeDiff, Nat.reduceAdd, Nat.reduceMul, Nat.reduceSub, Nat.reduceEqDiff, Int.reduceNeg, Int.reduceToNat, Int.reduceAdd, Int.reduceSub]; try exact rfl), by simp [go_sem], _, .inr (.inl rfl), ?_⟩
            simp [this]
          · have h0 : entB x.entries k = true := by simpa using h
            refine cw_go tabOK 99 (by simp only [go_sem, Nat.reduceLT, Nat.reduceBEq, Nat.reduceLeDiff, Nat.reduceAdd, Nat.reduceMul, Nat.reduceSub, Nat.reduceEqDiff, Int.reduceNeg, Int.reduceToNat, Int.reduceAdd, Int.reduceSub, hwk]; try exact rfl) (by simp [go_sem, hwk]) ?_
            refine cw_back ⟨k + 1, ⟨by omega, hyes h0⟩, by omega, le_sub ?_ ?_ ?_⟩
            · simp [go_sem, hwk]
            · simp [go_sem]
            · simp [go_sem]
      · have e : k = x.entries.length := by simp at h; omega
        have hnB : nodeB l 0 = true := by
          unfold nodeB
          rw [hxd, hst, Bool.true_and]
          exact List.all_eq_true.2 fun j hj => hks j (by rw [e]; exact List.mem_range.1 hj)
        have hw : IntKind.i64.wrap (((0 : Nat) : Int) + 1) = ((0 + 1 : Nat) : Int) := by rw [Eng.wrap_small (by omega) (by omega)]; rfl
        refine cw_go tabOK 99 (by simp only [go_sem, Nat.reduceLT, Nat.reduceBEq, Nat.reduceLeDiff, Nat.reduceAdd, Nat.reduceMul, Nat.reduceSub, Nat.reduceEqDiff, Int.reduceNeg, Int.reduceToNat, Int.reduceAdd, Int.reduceSub, hw]; try exact rfl) (by simp [go_sem, hw]) ?_
        refine cw_back ⟨0 + 1, ⟨by omega, fun j hj => ?_⟩, by omega, le_sub ?_ ?_ ?_⟩
        · rcases Nat.lt_succ_iff_lt_or_eq.1 hj with h1 | rfl
          · exact hs j h1
          · exact hnB
        · first | (simp [go_sem, hw]; done) | (simp [go_sem]; rfl)
        · simp [go_sem]
        · simp [go_sem]
    · have hwm : IntKind.i64.wrap ((i : Int) - 1) = ((i - 1 : Nat) : Int) := by rw [Eng.wrap_small (by omega) (by omega)]; omega
      have hgm : (l.map nodeRow).getD (i - 1) [] = nodeRow (l.getD (i - 1) default) := Fam.getD (by omega)
      have hsB := hsB hi0
      generalize l.getD (i - 1) default = y at hgm hsB
      refine cw_draw mixed ?_
      refine seg_start rfl ?_
      refine seg_runN tabOK 2 (by simp only [go_sem, Nat.reduceLT, Nat.reduceBEq, Nat.reduceLeDiff, Nat.reduceAdd, Nat.reduceMul, Nat.reduceSub, Nat.reduceEqDiff, Int.reduceNeg, Int.reduceToNat, Int.reduceAdd, Int.reduceSub]; exact rfl) (by simp only [go_sem, Nat.reduceLT, Nat.reduceBEq, Nat.reduceLeDiff, Nat.reduceAdd, Nat.reduceMul, Nat.reduceSub, Nat.reduceEqDiff, Int.reduceNeg, Int.reduceToNat, Int.reduceAdd, Int.reduceSub]; exact rfl) (by simp only [go_sem, Nat.reduceLT, Nat.reduceBEq, Nat.reduceLeDiff, Nat.reduceAdd, Nat.reduceMul, Nat.reduceSub, Nat.reduceEqDiff, Int.reduceNeg, Int.reduceToNat, Int.reduceAdd, Int.reduceSub]; try exact rfl) (by simp [go_sem]) (by simp only [go_sem, Nat.reduceLT, Nat.reduceBEq, Nat.reduceLeDiff, Nat.reduceAdd, Nat.reduceMul, Nat.reduceSub, Nat.reduceEqDiff, Int.reduceNeg, Int.reduceToNat, Int.reduceAdd, Int.reduceSub]; exact rfl) ?_
      refine seg_name 14 (by simp only [go_sem, Nat.reduceLT, Nat.reduceBEq, Nat.reduceLeDiff, Nat.reduceAdd, Nat.reduceMul, Nat.reduceSub, Nat.reduceEqDiff, Int.reduceNeg, Int.reduceToNat, Int.reduceAdd, Int.reduceSub]; exact rfl) (fun c14 h14 => ?_)
      simp only [go_sem, Nat.reduceLT, Nat.reduceBEq, Nat.reduceLeDiff, Nat.reduceAdd, Nat.reduceMul, Nat.reduceSub, Nat.reduceEqDiff, Int.reduceNeg, Int.reduceToNat, Int.reduceAdd, Int.reduceSub]
      have hc : c14 = true := by rw [← h14]; simp; omega
      subst hc
      refine seg_runN tabOK 11 (by simp only [go_sem, Nat.reduceLT, Nat.reduceBEq, Nat.reduceLeDiff, Nat.reduceAdd, Nat.reduceMul, Nat.reduceSub, Nat.reduceEqDiff, Int.reduceNeg, Int.reduceToNat, Int.reduceAdd, Int.reduceSub]; exact rfl) (by simp only [go_sem, Nat.reduceLT, Nat.reduceBEq, Nat.reduceLeDiff, Nat.reduceAdd, Nat.reduceMul, Nat.reduceSub, Nat.reduceEqDiff, Int.reduceNeg, Int.reduceToNat, Int.reduceAdd, Int.reduceSub]; exact rfl) (by simp only [go_sem, Nat.reduceLT, Nat.reduceBEq, Nat.reduceLeDiff, Nat.reduceAdd, Nat.reduceMul, Nat.reduceSub, Nat.reduceEqDiff, Int.reduceNeg, Int.reduceToNat, Int.reduceAdd, Int.reduceSub, hwm, hgm, nodeRow]; try exact rfl) ?_ (by simp only [go_sem, Nat.reduceLT, Nat.reduceBEq, Nat.reduceLeDiff, Nat.reduceAdd, Nat.reduceMul, Nat.reduceSub, Nat.reduceEqDiff, Int.reduceNeg, Int.reduceToNat, Int.reduceAdd, Int.reduceSub]; exact rfl) ?_
      · simp [hwm, hgm, nodeRow]; omega
      refine seg_end (by kernel_rfl) (by simp only [go_sem, Nat.reduceLT, Nat.reduceBEq, Nat.reduceLeDiff, Nat.reduceAdd, Nat.reduceMul, Nat.reduceSub, Nat.reduceEqDiff, Int.reduceNeg, Int.reduceToNat, Int.reduceAdd, Int.reduceSub]; exact rfl) ?_
      refine draw_close (by kernel_rfl) ?_
      have hb : decide (y.fid ≥ x.fid) = !stepB l i := by
        rw [hsB, Bool.eq_iff_iff]; simp
      simp only [go_sem, Nat.reduceLT, Nat.reduceBEq, Nat.reduceLeDiff, Nat.reduceAdd, Nat.reduceMul, Nat.reduceSub, Nat.reduceEqDiff, Int.reduceNeg, Int.reduceToNat, Int.reduceAdd, Int.reduceSub, hwm, hb]
      refine cw_cond (by simp only [go_sem, Nat.reduceLT, Nat.reduceBEq, Nat.reduceLeDiff, Nat.reduceAdd, Nat.reduceMul, Nat.reduceSub, Nat.reduceEqDiff, Int.reduceNeg, Int.reduceToNat, Int.reduceAdd, Int.reduceSub]; try exact rfl) trivial (fun h => ?_) (fun h => ?_)
      · have h0 : stepB l i = false := by simpa using h
        have := risesB_no hlt (hno h0)
        refine cw_go tabOK 99 (by simp only [go_sem, Nat.reduceLT, Nat.reduceBEq, Nat.reduceLeDiff, Nat.reduceAdd, Nat.reduceMul, Nat.reduceSub, Nat.reduceEqDiff, Int.reduceNeg, Int.reduceToNat, Int.reduceAdd, Int.reduceSub]; try exact rfl) (by simp [go_sem]) ?_
        refine cw_ret ⟨_, _, (by simp only [go_sem, Nat.reduceLT, Nat.reduceBEq, Nat.reduceLeDiff, Nat.reduceAdd, Nat.reduceMul, Nat.reduceSub, Nat.reduceEqDiff, Int.reduceNeg, Int.reduceToNat, Int.reduceAdd, Int.reduceSub]; try exact rfl), by simp [go_sem], _, .inr (.inl rfl), ?_⟩
        simp [this]
      · have hst : stepB l i = true := by simpa using h
        clear h14
        refine cw_go tabOK 99 (by simp only [go_sem, Nat.reduceLT, Nat.reduceBEq, Nat.reduceLeDiff, Nat.reduceAdd, Nat.reduceMul, Nat.reduceSub, Nat.reduceEqDiff, Int.reduceNeg, Int.reduceToNat, Int.reduceAdd, Int.reduceSub]; try exact rfl) (by simp [go_sem]) ?_
        refine cw_loopS (fun k : Nat => k ≤ x.entries.length ∧ ∀ j, j < k → entB x.entries j = true) (fun k => x.entries.length - k) (fun k => [(5, .any), (29, .int .i64 k), (30, .any), (31, .any), (32, .any), (33, .any), (34, .any), (35, .any), (36, .any), (37, .any), (38, .any), (39, .any), (40, .any), (41, .any), (42, .any), (43, .any), (44, .any), (45, .any), (46, .any), (47, .any), (48, .any), (49, .any)]) (fun _ => []) 0 ⟨by omega, by omega⟩ ?_ fun k hk => ?_
        · simp only [go_sem, Nat.reduceLT, Nat.reduceBEq, Nat.reduceLeDiff, Nat.reduceAdd, Nat.reduceMul, Nat.reduceSub, Nat.reduceEqDiff, Int.reduceNeg, Int.reduceToNat, Int.reduceAdd, Int.reduceSub]
          exact le_sub (by simp [go_sem]) (by simp [go_sem]) (by simp [go_sem])
        obtain ⟨hk, hks⟩ := hk
        simp only [go_sem, Nat.reduceLT, Nat.reduceBEq, Nat.reduceLeDiff, Nat.reduceAdd, Nat.reduceMul, Nat.reduceSub, Nat.reduceEqDiff, Int.reduceNeg, Int.reduceToNat, Int.reduceAdd, Int.reduceSub]
        refine cw_go tabOK 99 (by simp only [go_sem, Nat.reduceLT, Nat.reduceBEq, Nat.reduceLeDiff, Nat.reduceAdd, Nat.reduceMul, Nat.reduceSub, Nat.reduceEqDiff, Int.reduceNeg, Int.reduceToNat, Int.reduceAdd, Int.reduceSub]; try exact rfl) (by simp [go_sem]) ?_
        refine cw_cond (by simp only [go_sem, Nat.reduceLT, Nat.reduceBEq, Nat.reduceLeDiff, Nat.reduceAdd, Nat.reduceMul, Nat.reduceSub, Nat.reduceEqDiff, Int.reduceNeg, Int.reduceToNat, Int.reduceAdd, Int.reduceSub]; try exact rfl) trivial (fun h => ?_) (fun h => ?_)
        · have hklt : k < x.entries.length := by simp at h; omega
          have hgk : (x.entries.map entryRow).getD k [] = entryRow (x.entries.getD k default) := Fam.getD hklt
          have hwk : IntKind.i64.wrap ((k : Int) + 1) = ((k + 1 : Nat) : Int) := by rw [Eng.wrap_small (by omega) (by omega)]; rfl
          refine cw_go tabOK 99 (by simp only [go_sem, Nat.reduceLT, Nat.reduceBEq, Nat.reduceLeDiff, Nat.reduceAdd, Nat.reduceMul, Nat.reduceSub, Nat.reduceEqDiff, Int.reduceNeg, Int.reduceToNat, Int.reduceAdd, Int.reduceSub]; try exact rfl) (by simp [go_sem]) ?_
          by_cases hk0 : k = 0
          · subst hk0
            have he : entB x.entries 0 = true := rfl
            refine cw_draw mixed ?_
            refine seg_start rfl ?_
            refine seg_runN tabOK 3 (by simp only [go_sem, Nat.reduceLT, Nat.reduceBEq, Nat.reduceLeDiff, Nat.reduceAdd, Nat.reduceMul, Nat.reduceSub, Nat.reduceEqDiff, Int.reduceNeg, Int.reduceToNat, Int.reduceAdd, Int.reduceSub]; exact rfl) (by simp only [go_sem, Nat.reduceLT, Nat.reduceBEq, Nat.reduceLeDiff, Nat.reduceAdd, Nat.reduceMul, Nat.reduceSub, Nat.reduceEqDiff, Int.reduceNeg, Int.reduceToNat, Int.reduceAdd, Int.reduceSub]; exact rfl) (by simp only [go_sem, Nat.reduceLT, Nat.reduceBEq, Nat.reduceLeDiff, Nat.reduceAdd, Nat.reduceMul, Nat.reduceSub, Nat.reduceEqDiff, Int.reduceNeg, Int.reduceToNat, Int.reduceAdd, Int.reduceSub]; try exact rfl) (by simp [go_sem]) (by simp only [go_sem, Nat.reduceLT, Nat.reduceBEq, Nat.reduceLeDiff, Nat.reduceAdd, Nat.reduceMul, Nat.reduceSub, Nat.reduceEqDiff, Int.reduceNeg, Int.reduceToNat, Int.reduceAdd, Int.reduceSub]; exact rfl) ?_
            refine seg_skip .any (by simp only [go_sem, Nat.reduceLT, Nat.reduceBEq, Nat.reduceLeDiff, Nat.reduceAdd, Nat.reduceMul, Nat.reduceSub, Nat.reduceEqDiff, Int.reduceNeg, Int.reduceToNat, Int.reduceAdd, Int.reduceSub]; try exact rfl) (by simp only [go_sem, Nat.reduceLT, Nat.reduceBEq, Nat.reduceLeDiff, Nat.reduceAdd, Nat.reduceMul, Nat.reduceSub, Nat.reduceEqDiff, Int.reduceNeg, Int.reduceToNat, Int.reduceAdd, Int.reduceSub]; exact rfl) (by simp only [go_sem, Nat.reduceLT, Nat.reduceBEq, Nat.reduceLeDiff, Nat.reduceAdd, Nat.reduceMul, Nat.reduceSub, Nat.reduceEqDiff, Int.reduceNeg, Int.reduceToNat, Int.reduceAdd, Int.reduceSub]; exact rfl) ?_
            refine seg_skip .any (by simp only [go_sem, Nat.reduceLT, Nat.reduceBEq, Nat.reduceLeDiff, Nat.reduceAdd, Nat.reduceMul, Nat.reduceSub, Nat.reduceEqDiff, Int.reduceNeg, Int.reduceToNat, Int.reduceAdd, Int.reduceSub]; try exact rfl) (by simp only [go_sem, Nat.reduceLT, Nat.reduceBEq, Nat.reduceLeDiff, Nat.reduceAdd, Nat.reduceMul, Nat.reduceSub, Nat.reduceEqDiff, Int.reduceNeg, Int.reduceToNat, Int.reduceAdd, Int.reduceSub]; exact rfl) (by simp only [go_sem, Nat.reduceLT, Nat.reduceBEq, Nat.reduceLeDiff, Nat.reduceAdd, Nat.reduceMul, Nat.reduceSub, Nat.reduceEqDiff, Int.reduceNeg, Int.reduceToNat, Int.reduceAdd, Int.reduceSub]; exact rfl) ?_
            refine seg_skip .any (by simp only [go_sem, Nat.reduceLT, Nat.reduceBEq, Nat.reduceLeDiff, Nat.reduceAdd, Nat.reduceMul, Nat.reduceSub, Nat.reduceEqDiff, Int.reduceNeg, Int.reduceToNat, Int.reduceAdd, Int.reduceSub]; try exact rfl) (by simp only [go_sem, Nat.reduceLT, Nat.reduceBEq, Nat.reduceLeDiff, Nat.reduceAdd, Nat.reduceMul, Nat.reduceSub, Nat.reduceEqDiff, Int.reduceNeg, Int.reduceToNat, Int.reduceAdd, Int.reduceSub]; exact rfl) (by simp only [go_sem, Nat.reduceLT, Nat.reduceBEq, Nat.reduceLeDiff, Nat.reduceAdd, Nat.reduceMul, Nat.reduceSub, Nat.reduceEqDiff, Int.reduceNeg, Int.reduceToNat, Int.reduceAdd, Int.reduceSub]; exact rfl) ?_
            refine seg_skip .any (by simp only [go_sem, Nat.reduceLT, Nat.reduceBEq, Nat.reduceLeDiff, Nat.reduceAdd, Nat.reduceMul, Nat.reduceSub, Nat.reduceEqDiff, Int.reduceNeg, Int.reduceToNat, Int.reduceAdd, Int.reduceSub]; try exact rfl) (by simp only [go_sem, Nat.reduceLT, Nat.reduceBEq, Nat.reduceLeDiff, Nat.reduceAdd, Nat.reduceMul, Nat.reduceSub, Nat.reduceEqDiff, Int.reduceNeg, Int.reduceToNat, Int.reduceAdd, Int.reduceSub]; exact rfl) (by simp only [go_sem, Nat.reduceLT, Nat.reduceBEq, Nat.reduceLeDiff, Nat.reduceAdd, Nat.reduceMul, Nat.reduceSub, Nat.reduceEqDiff, Int.reduceNeg, Int.reduceToNat, Int.reduceAdd, Int.reduceSub]; exact rfl) ?_
            refine seg_skip .any (by simp only [go_sem, Nat.reduceLT, Nat.reduceBEq, Nat.reduceLeDiff, Nat.reduceAdd, Nat.reduceMul, Nat.reduceSub, Nat.reduceEqDiff, Int.reduceNeg, Int.reduceToNat, Int.reduceAdd, Int.reduceSub]; try exact rfl) (by simp only [go_sem, Nat.reduceLT, Nat.reduceBEq, Nat.reduceLeDiff, Nat.reduceAdd, Nat.reduceMul, Nat.reduceSub, Nat.reduceEqDiff, Int.reduceNeg, Int.reduceToNat, Int.reduceAdd, Int.reduceSub]; exact rfl) (by simp only [go_sem, Nat.reduceLT, Nat.reduceBEq, Nat.reduceLeDiff, Nat.reduceAdd, Nat.reduceMul, Nat.reduceSub, Nat.reduceEqDiff, Int.reduceNeg, Int.reduceToNat, Int.reduceAdd, Int.reduceSub]; exact rfl) ?_
            refine seg_skip .any (by simp only [go_sem, Nat.reduceLT, Nat.reduceBEq, Nat.reduceLeDiff, Nat.reduceAdd, Nat.reduceMul, Nat.reduceSub, Nat.reduceEqDiff, Int.reduceNeg, Int.reduceToNat, Int.reduceAdd, Int.reduceSub]; try exact rfl) (by simp only [go_sem, Nat.reduceLT, Nat.reduceBEq, Nat.reduceLeDiff, Nat.reduceAdd, Nat.reduceMul, Nat.reduceSub, Nat.reduceEqDiff, Int.reduceNeg, Int.reduceToNat, Int.reduceAdd, Int.reduceSub]; exact rfl) (by simp only [go_sem, Nat.reduceLT, Nat.reduceBEq, Nat.reduceLeDiff, Nat.reduceAdd, Nat.reduceMul, Nat.reduceSub, Nat.reduceEqDiff, Int.reduceNeg, Int.reduceToNat, Int.reduceAdd, Int.reduceSub]; exact rfl) ?_
            refine seg_skip .any (by simp only [go_sem, Nat.reduceLT, Nat.reduceBEq, Nat.reduceLeDiff, Nat.reduceAdd, Nat.reduceMul, Nat.reduceSub, Nat.reduceEqDiff, Int.reduceNeg, Int.reduceToNat, Int.reduceAdd, Int.reduceSub]; try exact rfl) (by simp only [go_sem, Nat.reduceLT, Nat.reduceBEq, Nat.reduceLeDiff, Nat.reduceAdd, Nat.reduceMul, Nat.reduceSub, Nat.reduceEqDiff, Int.reduceNeg, Int.reduceToNat, Int.reduceAdd, Int.reduceSub]; exact rfl) (by simp only [go_sem, Nat.reduceLT, Nat.reduceBEq, Nat.reduceLeDiff, Nat.reduceAdd, Nat.reduceMul, Nat.reduceSub, Nat.reduceEqDiff, Int.reduceNeg, Int.reduceToNat, Int.reduceAdd, Int.reduceSub]; exact rfl) ?_
            refine seg_skip .any (by simp only [go_sem, Nat.reduceLT, Nat.reduceBEq, Nat.reduceLeDiff, Nat.reduceAdd, Nat.reduceMul, Nat.reduceSub, Nat.reduceEqDiff, Int.reduceNeg, Int.reduceToNat, Int.reduceAdd, Int.reduceSub]; try exact rfl) (by simp only [go_sem, Nat.reduceLT, Nat.reduceBEq, Nat.reduceLeDiff, Nat.reduceAdd, Nat.reduceMul, Nat.reduceSub, Nat.reduceEqDiff, Int.reduceNeg, Int.reduceToNat, Int.reduceAdd, Int.reduceSub]; exact rfl) (by simp only [go_sem, Nat.reduceLT, Nat.reduceBEq, Nat.reduceLeDiff, Nat.reduceAdd, Nat.reduceMul, Nat.reduceSub, Nat.reduceEqDiff, Int.reduceNeg, Int.reduceToNat, Int.reduceAdd, Int.reduceSub]; exact rfl) ?_
            refine seg_skip .any (by simp only [go_sem, Nat.reduceLT, Nat.reduceBEq, Nat.reduceLeDiff, Nat.reduceAdd, Nat.reduceMul, Nat.reduceSub, Nat.reduceEqDiff, Int.reduceNeg, Int.reduceToNat, Int.reduceAdd, Int.reduceSub]; try exact rfl) (by simp only [go_sem, Nat.reduceLT, Nat.reduceBEq, Nat.reduceLeDiff, Nat.reduceAdd, Nat.reduceMul, Nat.reduceSub, Nat.reduceEqDiff, Int.reduceNeg, Int.reduceToNat, Int.reduceAdd, Int.reduceSub]; exact rfl) (by simp only [go_sem, Nat.reduceLT, Nat.reduceBEq, Nat.reduceLeDiff, Nat.reduceAdd, Nat.reduceMul, Nat.reduceSub, Nat.reduceEqDiff, Int.reduceNeg, Int.reduceToNat, Int.reduceAdd, Int.reduceSub]; exact rfl) ?_
            refine seg_skip .any (by simp only [go_sem, Nat.reduceLT, Nat.reduceBEq, Nat.reduceLeDiff, Nat.reduceAdd, Nat.reduceMul, Nat.reduceSub, Nat.reduceEqDiff, Int.reduceNeg, Int.reduceToNat, Int.reduceAdd, Int.reduceSub]; try exact rfl) (by simp only [go_sem, Nat.reduceLT, Nat.reduceBEq, Nat.reduceLeDiff, Nat.reduceAdd, Nat.reduceMul, Nat.reduceSub, Nat.reduceEqDiff, Int.reduceNeg, Int.reduceToNat, Int.reduceAdd, Int.reduceSub]; exact rfl) (by simp only [go_sem, Nat.reduceLT, Nat.reduceBEq, Nat.reduceLeDiff, Nat.reduceAdd, Nat.reduceMul, Nat.reduceSub, Nat.reduceEqDiff, Int.reduceNeg, Int.reduceToNat, Int.reduceAdd, Int.reduceSub]; exact rfl) ?_
            refine seg_skip .any (by simp only [go_sem, Nat.reduceLT, Nat.reduceBEq, Nat.reduceLeDiff, Nat.reduceAdd, Nat.reduceMul, Nat.reduceSub, Nat.reduceEqDiff, Int.reduceNeg, Int.reduceToNat, Int.reduceAdd, Int.reduceSub]; try exact rfl) (by simp only [go_sem, Nat.reduceLT, Nat.reduceBEq, Nat.reduceLeDiff, Nat.reduceAdd, Nat.reduceMul, Nat.reduceSub, Nat.reduceEqDiff, Int.reduceNeg, Int.reduceToNat, Int.reduceAdd, Int.reduceSub]; exact rfl) (by simp only [go_sem, Nat.reduceLT, Nat.reduceBEq, Nat.reduceLeDiff, Nat.reduceAdd, Nat.reduceMul, Nat.reduceSub, Nat.reduceEqDiff, Int.reduceNeg, Int.reduceToNat, Int.reduceAdd, Int.reduceSub]; exact rfl) ?_
            refine seg_skip .any (by simp only [go_sem, Nat.reduceLT, Nat.reduceBEq, Nat.reduceLeDiff, Nat.reduceAdd, Nat.reduceMul, Nat.reduceSub, Nat.reduceEqDiff, Int.reduceNeg, Int.reduceToNat, Int.reduceAdd, Int.reduceSub]; try exact rfl) (by simp only [go_sem, Nat.reduceLT, Nat.reduceBEq, Nat.reduceLeDiff, Nat.reduceAdd, Nat.reduceMul, Nat.reduceSub, Nat.reduceEqDiff, Int.reduceNeg, Int.reduceToNat, Int.reduceAdd, Int.reduceSub]; exact rfl) (by simp only [go_sem, Nat.reduceLT, Nat.reduceBEq, Nat.reduceLeDiff, Nat.reduceAdd, Nat.reduceMul, Nat.reduceSub, Nat.reduceEqDiff, Int.reduceNeg, Int.reduceToNat, Int.reduceAdd, Int.reduceSub]; exact rfl) ?_
            refine seg_skip .any (by simp only [go_sem, Nat.reduceLT, Nat.reduceBEq, Nat.reduceLeDiff, Nat.reduceAdd, Nat.reduceMul, Nat.reduceSub, Nat.reduceEqDiff, Int.reduceNeg, Int.reduceToNat, Int.reduceAdd, Int.reduceSub]; try exact rfl) (by simp only [go_sem, Nat.reduceLT, Nat.reduceBEq, Nat.reduceLeDiff, Nat.reduceAdd, Nat.reduceMul, Nat.reduceSub, Nat.reduceEqDiff, Int.reduceNeg, Int.reduceToNat, Int.reduceAdd, Int.reduceSub]; exact rfl) (by simp only [go_sem, Nat.reduceLT, Nat.reduceBEq, Nat.reduceLeDiff, Nat.reduceAdd, Nat.reduceMul, Nat.reduceSub, Nat.reduceEqDiff, Int.reduceNeg, Int.reduceToNat, Int.reduceAdd, Int.reduceSub]; exact rfl) ?_
            refine seg_skip (.bool false) (by simp only [go_sem, Nat.reduceLT, Nat.reduceBEq, Nat.reduceLeDiff, Nat.reduceAdd, Nat.reduceMul, Nat.reduceSub, Nat.reduceEqDiff, Int.reduceNeg, Int.reduceToNat, Int.reduceAdd, Int.reduceSub]; try exact rfl) (by simp only [go_sem, Nat.reduceLT, Nat.reduceBEq, Nat.reduceLeDiff, Nat.reduceAdd, Nat.reduceMul, Nat.reduceSub, Nat.reduceEqDiff, Int.reduceNeg, Int.reduceToNat, Int.reduceAdd, Int.reduceSub]; exact rfl) (by simp only [go_sem, Nat.reduceLT, Nat.reduceBEq, Nat.reduceLeDiff, Nat.reduceAdd, Nat.reduceMul, Nat.reduceSub, Nat.reduceEqDiff, Int.reduceNeg, Int.reduceToNat, Int.reduceAdd, Int.reduceSub]; exact rfl) ?_
            refine seg_runN tabOK 1 (by simp only [go_sem, Nat.reduceLT, Nat.reduceBEq, Nat.reduceLeDiff, Nat.reduceAdd, Nat.reduceMul, Nat.reduceSub, Nat.reduceEqDiff, Int.reduceNeg, Int.reduceToNat, Int.reduceAdd, Int.reduceSub]; exact rfl) (by simp only [go_sem, Nat.reduceLT, Nat.reduceBEq, Nat.reduceLeDiff, Nat.reduceAdd, Nat.reduceMul, Nat.reduceSub, Nat.reduceEqDiff, Int.reduceNeg, Int.reduceToNat, Int.reduceAdd, Int.reduceSub]; exact rfl) (by simp only [go_sem, Nat.reduceLT, Nat.reduceBEq, Nat.reduceLeDiff, Nat.reduceAdd, Nat.reduceMul, Nat.reduceSub, Nat.reduceEqDiff, Int.reduceNeg, Int.reduceToNat, Int.reduceAdd, Int.reduceSub]; try exact rfl) (by simp [go_sem]) (by simp only [go_sem, Nat.reduceLT, Nat.reduceBEq, Nat.reduceLeDiff, Nat.reduceAdd, Nat.reduceMul, Nat.reduceSub, Nat.reduceEqDiff, Int.reduceNeg, Int.reduceToNat, Int.reduceAdd, Int.reduceSub]; exact rfl) ?_
            refine seg_end (by kernel_rfl) (by simp only [go_sem, Nat.reduceLT, Nat.reduceBEq, Nat.reduceLeDiff, Nat.reduceAdd, Nat.reduceMul, Nat.reduceSub, Nat.reduceEqDiff, Int.reduceNeg, Int.reduceToNat, Int.reduceAdd, Int.reduceSub]; exact rfl) ?_
            refine draw_close (by kernel_rfl) ?_
            refine cw_condF (by simp only [go_sem, Nat.reduceLT, Nat.reduceBEq, Nat.reduceLeDiff, Nat.reduceAdd, Nat.reduceMul, Nat.reduceSub, Nat.reduceEqDiff, Int.reduceNeg, Int.reduceToNat, Int.reduceAdd, Int.reduceSub]; try exact rfl) trivial (by simp) ?_
            refine cw_go tabOK 99 (by simp only [go_sem, Nat.reduceLT, Nat.reduceBEq, Nat.reduceLeDiff, Nat.reduceAdd, Nat.reduceMul, Nat.reduceSub, Nat.reduceEqDiff, Int.reduceNeg, Int.reduceToNat, Int.reduceAdd, Int.reduceSub, hwk]; try exact rfl) (by simp [go_sem, hwk]) ?_
            refine cw_back ⟨1, ⟨by omega, fun j hj => by rw [show j = 0 by omega]; exact he⟩, by omega, le_sub ?_ ?_ ?_⟩
            · simp [go_sem, hwk]
            · simp [go_sem]
            · simp [go_sem]
          · have hwm : IntKind.i64.wrap ((k : Int) - 1) = ((k - 1 : Nat) : Int) := by rw [Eng.wrap_small (by omega) (by omega)]; omega
            have hgm : (x.entries.map entryRow).getD (k - 1) [] = entryRow (x.entries.getD (k - 1) default) := Fam.getD (by omega)
            have heB : entB x.entries k = decide ((x.entries.getD (k - 1) default).name < (x.entries.getD k default).name) := by
              simp [entB, hk0]
            have hyes : entB x.entries k = true → ∀ j, j < k + 1 → entB x.entries j = true := fun h0 j hj => by
              rcases Nat.lt_succ_iff_lt_or_eq.1 hj with h1 | rfl
              · exact hks j h1
              · exact h0
            have hno : entB x.entries k = false → nodeB l i = false := fun h0 => by
              cases e : nodeB l i with
              | false => rfl
              | true =>
                unfold nodeB at e
                rw [hxd] at e
                rw [List.all_eq_true.1 (Bool.and_eq_true_iff.1 e).2 k (List.mem_range.2 hklt)] at h0
                cases h0
            generalize x.entries.getD k default = u at hgk heB
            generalize x.entries.getD (k - 1) default = v at hgm heB
            refine cw_draw mixed ?_
            refine seg_start rfl ?_
            refine seg_runN tabOK 2 (by simp only [go_sem, Nat.reduceLT, Nat.reduceBEq, Nat.reduceLeDiff, Nat.reduceAdd, Nat.reduceMul, Nat.reduceSub, Nat.reduceEqDiff, Int.reduceNeg, Int.reduceToNat, Int.reduceAdd, Int.reduceSub]; exact rfl) (by simp only [go_sem, Nat.reduceLT, Nat.reduceBEq, Nat.reduceLeDiff, Nat.reduceAdd, Nat.reduceMul, Nat.reduceSub, Nat.reduceEqDiff, Int.reduceNeg, Int.reduceToNat, Int.reduceAdd, Int.reduceSub]; exact rfl) (by simp only [go_sem, Nat.reduceLT, Nat.reduceBEq, Nat.reduceLeDiff, Nat.reduceAdd, Nat.reduceMul, Nat.reduceSub, Nat.reduceEqDiff, Int.reduceNeg, Int.reduceToNat, Int.reduceAdd, Int.reduceSub]; try exact rfl) (by simp [go_sem]) (by simp only [go_sem, Nat.reduceLT, Nat.reduceBEq, Nat.reduceLeDiff, Nat.reduceAdd, Nat.reduceMul, Nat.reduceSub, Nat.reduceEqDiff, Int.reduceNeg, Int.reduceToNat, Int.reduceAdd, Int.reduceSub]; exact rfl) ?_
            refine seg_name 33 (by simp only [go_sem, Nat.reduceLT, Nat.reduceBEq, Nat.reduceLeDiff, Nat.reduceAdd, Nat.reduceMul, Nat.reduceSub, Nat.reduceEqDiff, Int.reduceNeg, Int.reduceToNat, Int.reduceAdd, Int.reduceSub]; exact rfl) (fun c33 h33 => ?_)
            simp only [go_sem, Nat.reduceLT, Nat.reduceBEq, Nat.reduceLeDiff, Nat.reduceAdd, Nat.reduceMul, Nat.reduceSub, Nat.reduceEqDiff, Int.reduceNeg, Int.reduceToNat, Int.reduceAdd, Int.reduceSub]
            have hc : c33 = true := by rw [← h33]; simp; omega
            subst hc
            refine seg_runN tabOK 16 (by simp only [go_sem, Nat.reduceLT, Nat.reduceBEq, Nat.reduceLeDiff, Nat.reduceAdd, Nat.reduceMul, Nat.reduceSub, Nat.reduceEqDiff, Int.reduceNeg, Int.reduceToNat, Int.reduceAdd, Int.reduceSub]; exact rfl) (by simp only [go_sem, Nat.reduceLT, Nat.reduceBEq, Nat.reduceLeDiff, Nat.reduceAdd, Nat.reduceMul, Nat.reduceSub, Nat.reduceEqDiff, Int.reduceNeg, Int.reduceToNat, Int.reduceAdd, Int.reduceSub]; exact rfl) (by simp only [go_sem, Nat.reduceLT, Nat.reduceBEq, Nat.reduceLeDiff, Nat.reduceAdd, Nat.reduceMul, Nat.reduceSub, Nat.reduceEqDiff, Int.reduceNeg, Int.reduceToNat, Int.reduceAdd, Int.reduceSub, hwm, hgk, hgm, entryRow]; try exact rfl) ?_ (by simp only [go_sem, Nat.reduceLT, Nat.reduceBEq, Nat.reduceLeDiff, Nat.reduceAdd, Nat.reduceMul, Nat.reduceSub, Nat.reduceEqDiff, Int.reduceNeg, Int.reduceToNat, Int.reduceAdd, Int.reduceSub]; exact rfl) ?_
            · simp [hwm, hgk, hgm, entryRow]; omega
            refine seg_end (by kernel_rfl) (by simp only [go_sem, Nat.reduceLT, Nat.reduceBEq, Nat.reduceLeDiff, Nat.reduceAdd, Nat.reduceMul, Nat.reduceSub, Nat.reduceEqDiff, Int.reduceNeg, Int.reduceToNat, Int.reduceAdd, Int.reduceSub]; exact rfl) ?_
            refine draw_close (by kernel_rfl) ?_
            have hb : (!Op.bytesLess v.name u.name) = !entB x.entries k := by rw [less_iff, heB]
            simp only [go_sem, Nat.reduceLT, Nat.reduceBEq, Nat.reduceLeDiff, Nat.reduceAdd, Nat.reduceMul, Nat.reduceSub, Nat.reduceEqDiff, Int.reduceNeg, Int.reduceToNat, Int.reduceAdd, Int.reduceSub, hwm, hb]
            refine cw_cond (by simp only [go_sem, Nat.reduceLT, Nat.reduceBEq, Nat.reduceLeDiff, Nat.reduceAdd, Nat.reduceMul, Nat.reduceSub, Nat.reduceEqDiff, Int.reduceNeg, Int.reduceToNat, Int.reduceAdd, Int.reduceSub]; try exact rfl) trivial (fun h => ?_) (fun h => ?_)
            · have h0 : entB x.entries k = false := by simpa using h
              have := risesB_no hlt (hno h0)
              refine cw_go tabOK 99 (by simp only [go_sem, Nat.reduceLT, Nat.reduceBEq, Nat.reduceLeDiff, Nat.reduceAdd, Nat.reduceMul, Nat.reduceSub, Nat.reduceEqDiff, Int.reduceNeg, Int.reduceToNat, Int.reduceAdd, Int.reduceSub]; try exact rfl) (by simp [go_sem]) ?_
              refine cw_ret ⟨_, _, (by simp only [go_sem, Nat.reduceLT, Nat.reduceBEq, Nat.reduceLeDiff, Nat.reduceAdd, Nat.reduceMul, Nat.reduceSub, Nat.reduceEqDiff, Int.reduceNeg, Int.reduceToNat, Int.reduceAdd, Int.reduceSub]; try exact rfl), by simp [go_sem], _, .inr (.inl rfl), ?_⟩
              simp [this]
            · have h0 : entB x.entries k = true := by simpa using h
              refine cw_go tabOK 99 (by simp only [go_sem, Nat.reduceLT, Nat.reduceBEq, Nat.reduceLeDiff, Nat.reduceAdd, Nat.reduceMul, Nat.reduceSub, Nat.reduceEqDiff, Int.reduceNeg, Int.reduceToNat, Int.reduceAdd, Int.reduceSub, hwk]; try exact rfl) (by simp [go_sem, hwk]) ?_
              refine cw_back ⟨k + 1, ⟨by omega, hyes h0⟩, by omega, le_sub ?_ ?_ ?_⟩
              · simp [go_sem, hwk]
              · simp [go_sem]
              · simp [go_sem]
        · have e : k = x.entries.length := by simp at h; omega
          have hnB : nodeB l i = true := by
            unfold nodeB
            rw [hxd, hst, Bool.true_and]
            exact List.all_eq_true.2 fun j hj => hks j (by rw [e]; exact List.mem_range.1 hj)
          have hw : IntKind.i64.wrap (((i : Nat) : Int) + 1) = ((i + 1 : Nat) : Int) := by rw [Eng.wrap_small (by omega) (by omega)]; rfl
          refine cw_go tabOK 99 (by simp only [go_sem, Nat.reduceLT, Nat.reduceBEq, Nat.reduceLeDiff, Nat.reduceAdd, Nat.reduceMul, Nat.reduceSub, Nat.reduceEqDiff, Int.reduceNeg, Int.reduceToNat, Int.reduceAdd, Int.reduceSub, hw]; try exact rfl) (by simp [go_sem, hw]) ?_
          refine cw_back ⟨i + 1, ⟨by omega, fun j hj => ?_⟩, by omega, le_sub ?_ ?_ ?_⟩
          · rcases Nat.lt_succ_iff_lt_or_eq.1 hj with h1 | rfl
            · exact hs j h1
            · exact hnB
          · first | (simp [go_sem, hw]; done) | (simp [go_sem]; rfl)
          · simp [go_sem]
          · simp [go_sem]
  · have e : i = l.length := by simp at h; omega
    subst e
    have : risesB l = true := List.all_eq_true.2 fun j hj => hs j (List.mem_range.1 hj)
    refine cw_go tabOK 99 (by simp only [go_sem, Nat.reduceLT, Nat.reduceBEq, Nat.reduceLeDiff, Nat.reduceAdd, Nat.reduceMul, Nat.reduceSub, Nat.reduceEqDiff, Int.reduceNeg, Int.reduceToNat, Int.reduceAdd, Int.reduceSub]; try exact rfl) (by simp [go_sem]) ?_
    refine cw_ret ⟨_, _, (by simp only [go_sem, Nat.reduceLT, Nat.reduceBEq, Nat.reduceLeDiff, Nat.reduceAdd, Nat.reduceMul, Nat.reduceSub, Nat.reduceEqDiff, Int.reduceNeg, Int.reduceToNat, Int.reduceAdd, Int.reduceSub]; try exact rfl), by simp [go_sem], _, .inr (.inl rfl), ?_⟩
    simp [this]
end La

namespace La
open Go Go.Eng Go.Proofs
set_option maxRecDepth 10000
set_option linter.unusedSimpArgs false
set_option linter.unusedVariables false

def walkN (l : List Node) : Int → List (List UInt8) → Int × Int
  | k, [] => (k, 0)
  | k, s :: r => match findN l k with
    | none => (0, 12)
    | some n => if n.dir then (match entryN n s with
      | none => (0, 6)
      | some j => walkN l j r) else (0, 8)

set_option maxHeartbeats 1000000 in
theorem walk_ok (l : List Node) (q : List (List UInt8)) (hl : Small l) (hq : q.length ≤ 100000000) : FnOK Try.prog 83 [.sl (l.map nodeRow), .sl (q.map strRow)] [] (fun r _ => r = .tup [.int .i64 (walkN l 0 q).1, .int .i64 (walkN l 0 q).2]) := by
  refine fn_of_cwW tabOK (Go.Proofs.Try.func83) rfl (fun C => ?_)
  simp only [Go.Proofs.Try.ntmps83, Go.Proofs.Try.results83, go_sem, Nat.reduceLT, Nat.reduceBEq, Nat.reduceLeDiff, Nat.reduceAdd, Nat.reduceMul, Nat.reduceSub, Nat.reduceEqDiff, Int.reduceNeg, Int.reduceToNat, Int.reduceAdd, Int.reduceSub]
  refine cw_go tabOK 99 (by simp only [go_sem, Nat.reduceLT, Nat.reduceBEq, Nat.reduceLeDiff, Nat.reduceAdd, Nat.reduceMul, Nat.reduceSub, Nat.reduceEqDiff, Int.reduceNeg, Int.reduceToNat, Int.reduceAdd, Int.reduceSub]; try exact rfl) (by simp [go_sem]) ?_
  refine cw_loopS (fun s : Nat × Int => s.1 ≤ q.length ∧ walkN l s.2 (q.drop s.1) = walkN l 0 q) (fun s => q.length - s.1) (fun s => [(6, .int .i64 s.2), (8, .any), (9, .any), (10, .any), (13, .int .i64 s.1), (14, .any), (15, .any), (16, .any), (17, .any), (18, .any), (19, .any), (20, .any), (21, .any), (22, .any), (23, .any), (24, .any), (25, .any), (26, .any), (27, .any), (28, .any), (29, .any), (30, .any), (31, .any), (32, .any), (33, .any), (34, .any), (35, .any), (36, .any)]) (fun _ => []) (0, 0) ⟨by simp, rfl⟩ ?_ fun s hs => ?_
  · simp only [go_sem, Nat.reduceLT, Nat.reduceBEq, Nat.reduceLeDiff, Nat.reduceAdd, Nat.reduceMul, Nat.reduceSub, Nat.reduceEqDiff, Int.reduceNeg, Int.reduceToNat, Int.reduceAdd, Int.reduceSub]
    exact le_sub (by simp [go_sem]) (by simp [go_sem]) (by simp [go_sem])
  obtain ⟨i, k⟩ := s
  obtain ⟨hi, hw⟩ := hs
  simp only at hi hw
  simp only [go_sem, Nat.reduceLT, Nat.reduceBEq, Nat.reduceLeDiff, Nat.reduceAdd, Nat.reduceMul, Nat.reduceSub, Nat.reduceEqDiff, Int.reduceNeg, Int.reduceToNat, Int.reduceAdd, Int.reduceSub]
  refine cw_go tabOK 99 (by simp only [go_sem, Nat.reduceLT, Nat.reduceBEq, Nat.reduceLeDiff, Nat.reduceAdd, Nat.reduceMul, Nat.reduceSub, Nat.reduceEqDiff, Int.reduceNeg, Int.reduceToNat, Int.reduceAdd, Int.reduceSub]; try exact rfl) (by simp [go_sem]) ?_
  refine cw_cond (by simp only [go_sem, Nat.reduceLT, Nat.reduceBEq, Nat.reduceLeDiff, Nat.reduceAdd, Nat.reduceMul, Nat.reduceSub, Nat.reduceEqDiff, Int.reduceNeg, Int.reduceToNat, Int.reduceAdd, Int.reduceSub]; try exact rfl) trivial (fun h => ?_) (fun h => ?_)
  · have hlt : i < q.length := by simp at h; omega
    have hg : (q.map strRow).getD i [] = [.str (q.getD i default)] := Fam.getD hlt
    have hd : q.drop i = q.getD i default :: q.drop (i + 1) := drop_getD hlt
    have hwi : IntKind.i64.wrap ((i : Int) + 1) = ((i + 1 : Nat) : Int) := by rw [Eng.wrap_small (by omega) (by omega)]; rfl
    generalize q.getD i default = x at hg hd
    rw [hd] at hw
    simp only [walkN] at hw
    refine cw_go tabOK 99 (by simp only [go_sem, Nat.reduceLT, Nat.reduceBEq, Nat.reduceLeDiff, Nat.reduceAdd, Nat.reduceMul, Nat.reduceSub, Nat.reduceEqDiff, Int.reduceNeg, Int.reduceToNat, Int.reduceAdd, Int.reduceSub, hg]; try exact rfl) ?_ ?_
    · simp [hg, hlt]
    refine cw_call rfl rfl (by simp only [go_sem, Nat.reduceLT, Nat.reduceBEq, Nat.reduceLeDiff, Nat.reduceAdd, Nat.reduceMul, Nat.reduceSub, Nat.reduceEqDiff, Int.reduceNeg, Int.reduceToNat, Int.reduceAdd, Int.reduceSub]; try exact rfl) (by simp [go_sem]) ⟨_, Go.Proofs.Try.func33, by kernel_rfl, rfl⟩ (by simp [go_sem]) (find_ok l k hl) (by simp [go_sem]) (by simp only [go_sem, Nat.reduceLT, Nat.reduceBEq, Nat.reduceLeDiff, Nat.reduceAdd, Nat.reduceMul, Nat.reduceSub, Nat.reduceEqDiff, Int.reduceNeg, Int.reduceToNat, Int.reduceAdd, Int.reduceSub]; exact rfl) ?_
    have hsm := hl.find k
    simp only [go_sem, Nat.reduceLT, Nat.reduceBEq, Nat.reduceLeDiff, Nat.reduceAdd, Nat.reduceMul, Nat.reduceSub, Nat.reduceEqDiff, Int.reduceNeg, Int.reduceToNat, Int.reduceAdd, Int.reduceSub, findR]
    rw [isAt_eq]
    generalize hfd : findN l k = o at hw hsm
    cases o with
    | none =>
      simp only [Option.getD_none, Option.isSome_none] at hw ⊢
      refine cw_go tabOK 99 (by simp only [go_sem, Nat.reduceLT, Nat.reduceBEq, Nat.reduceLeDiff, Nat.reduceAdd, Nat.reduceMul, Nat.reduceSub, Nat.reduceEqDiff, Int.reduceNeg, Int.reduceToNat, Int.reduceAdd, Int.reduceSub, nodeRow, zeroN]; try exact rfl) ?_ ?_
      · simp [nodeRow]
      refine cw_cond (by simp only [go_sem, Nat.reduceLT, Nat.reduceBEq, Nat.reduceLeDiff, Nat.reduceAdd, Nat.reduceMul, Nat.reduceSub, Nat.reduceEqDiff, Int.reduceNeg, Int.reduceToNat, Int.reduceAdd, Int.reduceSub]; try exact rfl) trivial (fun h => ?_) (fun h => ?_)
      · refine cw_go tabOK 99 (by simp only [go_sem, Nat.reduceLT, Nat.reduceBEq, Nat.reduceLeDiff, Nat.reduceAdd, Nat.reduceMul, Nat.reduceSub, Nat.reduceEqDiff, Int.reduceNeg, Int.reduceToNat, Int.reduceAdd, Int.reduceSub]; try exact rfl) (by simp [go_sem]) ?_
        refine cw_ret ⟨_, _, (by simp only [go_sem, Nat.reduceLT, Nat.reduceBEq, Nat.reduceLeDiff, Nat.reduceAdd, Nat.reduceMul, Nat.reduceSub, Nat.reduceEqDiff, Int.reduceNeg, Int.reduceToNat, Int.reduceAdd, Int.reduceSub]; try exact rfl), by simp [go_sem], _, .inr (.inl rfl), ?_⟩
        simp [← hw]
      · cases h
    | some n =>
      simp only [Option.getD_some, Option.isSome_some] at hw hsm ⊢
      refine cw_go tabOK 99 (by simp only [go_sem, Nat.reduceLT, Nat.reduceBEq, Nat.reduceLeDiff, Nat.reduceAdd, Nat.reduceMul, Nat.reduceSub, Nat.reduceEqDiff, Int.reduceNeg, Int.reduceToNat, Int.reduceAdd, Int.reduceSub, nodeRow]; try exact rfl) ?_ ?_
      · simp [nodeRow]
      refine cw_cond (by simp only [go_sem, Nat.reduceLT, Nat.reduceBEq, Nat.reduceLeDiff, Nat.reduceAdd, Nat.reduceMul, Nat.reduceSub, Nat.reduceEqDiff, Int.reduceNeg, Int.reduceToNat, Int.reduceAdd, Int.reduceSub]; try exact rfl) trivial (fun h => ?_) (fun h => ?_)
      · cases h
      refine cw_go tabOK 99 (by simp only [go_sem, Nat.reduceLT, Nat.reduceBEq, Nat.reduceLeDiff, Nat.reduceAdd, Nat.reduceMul, Nat.reduceSub, Nat.reduceEqDiff, Int.reduceNeg, Int.reduceToNat, Int.reduceAdd, Int.reduceSub, nodeRow]; try exact rfl) ?_ ?_
      · simp [nodeRow]
      refine cw_cond (by simp only [go_sem, Nat.reduceLT, Nat.reduceBEq, Nat.reduceLeDiff, Nat.reduceAdd, Nat.reduceMul, Nat.reduceSub, Nat.reduceEqDiff, Int.reduceNeg, Int.reduceToNat, Int.reduceAdd, Int.reduceSub]; try exact rfl) trivial (fun h => ?_) (fun h => ?_)
      · have hdir : n.dir = false := by simpa using h
        rw [hdir] at hw
        refine cw_go tabOK 99 (by simp only [go_sem, Nat.reduceLT, Nat.reduceBEq, Nat.reduceLeDiff, Nat.reduceAdd, Nat.reduceMul, Nat.reduceSub, Nat.reduceEqDiff, Int.reduceNeg, Int.reduceToNat, Int.reduceAdd, Int.reduceSub]; try exact rfl) (by simp [go_sem]) ?_
        refine cw_ret ⟨_, _, (by simp only [go_sem, Nat.reduceLT, Nat.reduceBEq, Nat.reduceLeDiff, Nat.reduceAdd, Nat.reduceMul, Nat.reduceSub, Nat.reduceEqDiff, Int.reduceNeg, Int.reduceToNat, Int.reduceAdd, Int.reduceSub]; try exact rfl), by simp [go_sem], _, .inr (.inl rfl), ?_⟩
        simp [← hw]
      have hdir : n.dir = true := by simpa using h
      rw [if_pos hdir] at hw
      refine cw_go tabOK 99 (by simp only [go_sem, Nat.reduceLT, Nat.reduceBEq, Nat.reduceLeDiff, Nat.reduceAdd, Nat.reduceMul, Nat.reduceSub, Nat.reduceEqDiff, Int.reduceNeg, Int.reduceToNat, Int.reduceAdd, Int.reduceSub, nodeRow]; try exact rfl) ?_ ?_
      · simp [nodeRow]
      refine cw_call rfl rfl (by simp only [go_sem, Nat.reduceLT, Nat.reduceBEq, Nat.reduceLeDiff, Nat.reduceAdd, Nat.reduceMul, Nat.reduceSub, Nat.reduceEqDiff, Int.reduceNeg, Int.reduceToNat, Int.reduceAdd, Int.reduceSub]; try exact rfl) (by simp [go_sem]) ⟨_, Go.Proofs.Try.func36, by kernel_rfl, rfl⟩ (by simp [go_sem]) (entry_ok n x hsm) (by simp [go_sem]) (by simp only [go_sem, Nat.reduceLT, Nat.reduceBEq, Nat.reduceLeDiff, Nat.reduceAdd, Nat.reduceMul, Nat.reduceSub, Nat.reduceEqDiff, Int.reduceNeg, Int.reduceToNat, Int.reduceAdd, Int.reduceSub]; exact rfl) ?_
      cases he : entryN n x with
      | none =>
        rw [he] at hw
        simp only at hw
        simp only [go_sem, Nat.reduceLT, Nat.reduceBEq, Nat.reduceLeDiff, Nat.reduceAdd, Nat.reduceMul, Nat.reduceSub, Nat.reduceEqDiff, Int.reduceNeg, Int.reduceToNat, Int.reduceAdd, Int.reduceSub, optInt]
        refine cw_go tabOK 99 (by simp only [go_sem, Nat.reduceLT, Nat.reduceBEq, Nat.reduceLeDiff, Nat.reduceAdd, Nat.reduceMul, Nat.reduceSub, Nat.reduceEqDiff, Int.reduceNeg, Int.reduceToNat, Int.reduceAdd, Int.reduceSub]; try exact rfl) (by simp [go_sem]) ?_
        refine cw_cond (by simp only [go_sem, Nat.reduceLT, Nat.reduceBEq, Nat.reduceLeDiff, Nat.reduceAdd, Nat.reduceMul, Nat.reduceSub, Nat.reduceEqDiff, Int.reduceNeg, Int.reduceToNat, Int.reduceAdd, Int.reduceSub]; try exact rfl) trivial (fun h => ?_) (fun h => ?_)
        · refine cw_go tabOK 99 (by simp only [go_sem, Nat.reduceLT, Nat.reduceBEq, Nat.reduceLeDiff, Nat.reduceAdd, Nat.reduceMul, Nat.reduceSub, Nat.reduceEqDiff, Int.reduceNeg, Int.reduceToNat, Int.reduceAdd, Int.reduceSub]; try exact rfl) (by simp [go_sem]) ?_
          refine cw_ret ⟨_, _, (by simp only [go_sem, Nat.reduceLT, Nat.reduceBEq, Nat.reduceLeDiff, Nat.reduceAdd, Nat.reduceMul, Nat.reduceSub, Nat.reduceEqDiff, Int.reduceNeg, Int.reduceToNat, Int.reduceAdd, Int.reduceSub]; try exact rfl), by simp [go_sem], _, .inr (.inl rfl), ?_⟩
          simp [← hw]
        · cases h
      | some j =>
        rw [he] at hw
        simp only at hw
        simp only [go_sem, Nat.reduceLT, Nat.reduceBEq, Nat.reduceLeDiff, Nat.reduceAdd, Nat.reduceMul, Nat.reduceSub, Nat.reduceEqDiff, Int.reduceNeg, Int.reduceToNat, Int.reduceAdd, Int.reduceSub, optInt]
        refine cw_go tabOK 99 (by simp only [go_sem, Nat.reduceLT, Nat.reduceBEq, Nat.reduceLeDiff, Nat.reduceAdd, Nat.reduceMul, Nat.reduceSub, Nat.reduceEqDiff, Int.reduceNeg, Int.reduceToNat, Int.reduceAdd, Int.reduceSub]; try exact rfl) (by simp [go_sem]) ?_
        refine cw_cond (by simp only [go_sem, Nat.reduceLT, Nat.reduceBEq, Nat.reduceLeDiff, Nat.reduceAdd, Nat.reduceMul, Nat.reduceSub, Nat.reduceEqDiff, Int.reduceNeg, Int.reduceToNat, Int.reduceAdd, Int.reduceSub]; try exact rfl) trivial (fun h => ?_) (fun h => ?_)
        · cases h
        refine cw_go tabOK 99 (by simp only [go_sem, Nat.reduceLT, Nat.reduceBEq, Nat.reduceLeDiff, Nat.reduceAdd, Nat.reduceMul, Nat.reduceSub, Nat.reduceEqDiff, Int.reduceNeg, Int.reduceToNat, Int.reduceAdd, Int.reduceSub, hwi]; try exact rfl) (by simp [go_sem, hwi]) ?_
        refine cw_back ⟨(i + 1, j), ⟨by omega, hw⟩, by simp only; omega, le_sub ?_ ?_ ?_⟩
        · simp [go_sem, hwi]
        · simp [go_sem]
        · simp [go_sem]
  · have e : i = q.length := by simp at h; omega
    rw [e, List.drop_length] at hw
    simp only [walkN] at hw
    refine cw_go tabOK 99 (by simp only [go_sem, Nat.reduceLT, Nat.reduceBEq, Nat.reduceLeDiff, Nat.reduceAdd, Nat.reduceMul, Nat.reduceSub, Nat.reduceEqDiff, Int.reduceNeg, Int.reduceToNat, Int.reduceAdd, Int.reduceSub]; try exact rfl) (by simp [go_sem]) ?_
    refine cw_ret ⟨_, _, (by simp only [go_sem, Nat.reduceLT, Nat.reduceBEq, Nat.reduceLeDiff, Nat.reduceAdd, Nat.reduceMul, Nat.reduceSub, Nat.reduceEqDiff, Int.reduceNeg, Int.reduceToNat, Int.reduceAdd, Int.reduceSub]; try exact rfl), by simp [go_sem], _, .inr (.inl rfl), ?_⟩
    simp [← hw]
end La
