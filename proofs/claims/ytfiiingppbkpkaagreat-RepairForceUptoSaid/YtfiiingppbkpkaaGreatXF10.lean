/- Texts of this claim, part 10: PTree, EngAC, EngAD, EngAE, EngAF, EngAG, EngAH, EngAI. No condition. -/
import Derived.Test.YtfiiingppbkpkaaGreatXF9
import Derived.Test.YtfiiingppbkpkaaGreatXF8
import Derived.Laws.StructEq
import Derived.Lib.SlBytesConst
set_option maxRecDepth 10000
set_option maxHeartbeats 4000000
set_option linter.unusedSimpArgs false
set_option linter.unusedVariables false
namespace La
def bsearch (lt : Nat → Bool) : Nat → Nat → Nat → Nat
 | 0, lo, _ => lo
 | f + 1, lo, hi => if lo < hi then (if lt ((lo + hi) / 2) then bsearch lt f ((lo + hi) / 2 + 1) hi else bsearch lt f lo ((lo + hi) / 2)) else lo
theorem bsearch_fuel (lt : Nat → Bool) : ∀ (f g lo hi : Nat), hi - lo ≤ f → hi - lo ≤ g → bsearch lt f lo hi = bsearch lt g lo hi
 | 0, 0, _, _, _, _ => rfl
 | 0, g + 1, lo, hi, h, _ => by
  unfold bsearch
  rw [if_neg (by omega)]
 | f + 1, 0, lo, hi, _, h => by
  unfold bsearch
  rw [if_neg (by omega)]
 | f + 1, g + 1, lo, hi, h1, h2 => by
  unfold bsearch
  by_cases h : lo < hi
  ·rw [if_pos h, if_pos h]
   by_cases hl : lt ((lo + hi) / 2) = true
   ·rw [if_pos hl, if_pos hl]; exact bsearch_fuel lt f g _ _ (by omega) (by omega)
   ·rw [if_neg hl, if_neg hl]; exact bsearch_fuel lt f g _ _ (by omega) (by omega)
  ·rw [if_neg h, if_neg h]
theorem bsearch_spec (lt : Nat → Bool) (n : Nat) (hmono : ∀ i j, i ≤ j → j < n → lt j = true → lt i = true) : ∀ (f lo hi : Nat), hi - lo ≤ f → lo ≤ hi → hi ≤ n → (∀ i, i < lo → lt i = true) → (∀ i, hi ≤ i → i < n → lt i = false) →
  bsearch lt f lo hi ≤ n ∧ (∀ i, i < bsearch lt f lo hi → lt i = true) ∧ ∀ i, bsearch lt f lo hi ≤ i → i < n → lt i = false
 | 0, lo, hi, h, hle, hn, h1, h2 => by
  have : lo = hi := by omega
  subst this
  exact ⟨hn, h1, h2⟩
 | f + 1, lo, hi, h, hle, hn, h1, h2 => by
  unfold bsearch
  by_cases hlt : lo < hi
  ·rw [if_pos hlt]
   by_cases hl : lt ((lo + hi) / 2) = true
   ·rw [if_pos hl]
    exact bsearch_spec lt n hmono f _ _ (by omega) (by omega) hn (fun i hi' => hmono i ((lo + hi) / 2) (by omega) (by omega) hl) h2
   ·rw [if_neg hl]
    refine bsearch_spec lt n hmono f _ _ (by omega) (by omega) (by omega) h1 fun i hi1 hi2 => ?_
    cases e : lt i with
    | false => rfl
    | true => exact absurd (hmono _ i hi1 hi2 e) hl
  ·rw [if_neg hlt]
   have : lo = hi := by omega
   subst this
   exact ⟨hn, h1, h2⟩
theorem bsearch_le (lt : Nat → Bool) : ∀ (f lo hi : Nat), lo ≤ hi → lo ≤ bsearch lt f lo hi ∧ bsearch lt f lo hi ≤ hi
 | 0, lo, hi, h => ⟨Nat.le_refl _, h⟩
 | f + 1, lo, hi, h => by
  unfold bsearch
  by_cases hlt : lo < hi
  ·rw [if_pos hlt]
   split
   ·have := bsearch_le lt f ((lo + hi) / 2 + 1) hi (by omega); omega
   ·have := bsearch_le lt f lo ((lo + hi) / 2) (by omega); omega
  ·rw [if_neg hlt]; omega
def placeOf (l : List Node) (fid : Int) : Nat := bsearch (fun i => decide ((l.getD i default).fid < fid)) l.length 0 l.length
def isAt (l : List Node) (fid : Int) : Bool := decide (placeOf l fid < l.length) && decide ((l.getD (placeOf l fid) default).fid = fid)
def findN (l : List Node) (fid : Int) : Option Node := if isAt l fid then some (l.getD (placeOf l fid) default) else none
def putN (l : List Node) (n : Node) : List Node := if isAt l n.fid then l.set (placeOf l n.fid) n else l.take (placeOf l n.fid) ++ n :: l.drop (placeOf l n.fid)
def dropN (l : List Node) (fid : Int) : List Node := l.filter fun n => !(n.fid == fid)
theorem placeOf_le (l : List Node) (fid : Int) : placeOf l fid ≤ l.length := (bsearch_le _ _ _ _ (Nat.zero_le _)).2
def Up (l : List Node) : Prop := l.Pairwise fun a b => a.fid < b.fid
theorem Up.lt {l : List Node} (h : Up l) {i j : Nat} (hij : i < j) (hj : j < l.length) : (l.getD i default).fid < (l.getD j default).fid := by
 have := List.pairwise_iff_getElem.1 h i j (by omega) hj hij
 rw [List.getD_eq_getElem?_getD, List.getD_eq_getElem?_getD, List.getElem?_eq_getElem (by omega), List.getElem?_eq_getElem hj]
 exact this
theorem Up.place {l : List Node} (h : Up l) (fid : Int) : (∀ i, i < placeOf l fid → (l.getD i default).fid < fid) ∧ ∀ i, placeOf l fid ≤ i → i < l.length → fid ≤ (l.getD i default).fid := by
 have := bsearch_spec (fun i => decide ((l.getD i default).fid < fid)) l.length (fun i j hij hj hl => by
  rcases Nat.lt_or_eq_of_le hij with h1 | rfl
  ·have := h.lt h1 hj
   have h2 := of_decide_eq_true hl
   exact decide_eq_true (by omega)
  ·exact hl) l.length 0 l.length (by omega) (by omega) (Nat.le_refl _) (fun i hi => by omega) (fun i h1 h2 => by omega)
 obtain ⟨_, h2, h3⟩ := this
 exact ⟨fun i hi => of_decide_eq_true (h2 i hi), fun i hi hl => by have := of_decide_eq_false (h3 i hi hl); omega⟩
theorem getD_of {l : List Node} {x : Node} {i : Nat} (h : l[i]? = some x) : l.getD i default = x := by rw [List.getD_eq_getElem?_getD, h]; rfl
theorem ZO {l : List Node} (h : Up l) {fid : Int} {x : Node} : findN l fid = some x ↔ x ∈ l ∧ x.fid = fid := by
 obtain ⟨p1, p2⟩ := h.place fid
 unfold findN isAt
 constructor
 ·intro hf
  split at hf
  ·rename_i hc
   rw [Bool.and_eq_true] at hc
   have h1 := of_decide_eq_true hc.1
   have h2 := of_decide_eq_true hc.2
   injection hf with hf
   subst hf
   exact ⟨YG h1, h2⟩
  ·cases hf
 ·rintro ⟨hx, rfl⟩
  obtain ⟨i, hi⟩ := List.getElem?_of_mem hx
  have hil : i < l.length := (List.getElem?_eq_some_iff.1 hi).1
  have hix := getD_of hi
  have hpi : placeOf l x.fid = i := by
   rcases Nat.lt_trichotomy (placeOf l x.fid) i with h1 | h1 | h1
   ·have := p2 _ (Nat.le_refl _) (by omega)
    have h3 := h.lt h1 hil
    rw [hix] at h3
    omega
   ·exact h1
   ·have := p1 i h1
    rw [hix] at this
    omega
  rw [hpi, hix, if_pos (by simp [hil])]
theorem findN_none {l : List Node} (h : Up l) {fid : Int} : findN l fid = none ↔ ∀ x, x ∈ l → x.fid ≠ fid := by
 constructor
 ·intro hf x hx hxf
  rw [(ZO h).2 ⟨hx, hxf⟩] at hf; cases hf
 ·intro hf
  cases e : findN l fid with
  | none => rfl
  | some x =>
   obtain ⟨h1, h2⟩ := (ZO h).1 e
   exact absurd h2 (hf x h1)
theorem putN_up {l : List Node} (h : Up l) (n : Node) : Up (putN l n) ∧ ∀ x, x ∈ putN l n ↔ x = n ∨ (x ∈ l ∧ x.fid ≠ n.fid) := by
 obtain ⟨p1, p2⟩ := h.place n.fid
 have hle := placeOf_le l n.fid
 unfold putN
 generalize hp : placeOf l n.fid = p at *
 have hmem : ∀ x, x ∈ l ↔ x ∈ l.take p ∨ x ∈ l.drop p := fun x => by
  have := List.mem_append (a := x) (s := l.take p) (t := l.drop p)
  rw [List.take_append_drop] at this
  exact this
 have ht : ∀ x, x ∈ l.take p → x.fid < n.fid := fun x hx => by
  obtain ⟨i, hi⟩ := List.getElem?_of_mem hx
  rw [List.getElem?_take] at hi
  split at hi
  ·rename_i hip
   have := p1 i hip
   rwa [getD_of hi] at this
  ·cases hi
 have hd : ∀ x, x ∈ l.drop p → n.fid ≤ x.fid := fun x hx => by
  obtain ⟨i, hi⟩ := List.getElem?_of_mem hx
  rw [List.getElem?_drop] at hi
  have := p2 (p + i) (by omega) (List.getElem?_eq_some_iff.1 hi).1
  rwa [getD_of hi] at this
 by_cases hat : isAt l n.fid = true
 ·rw [if_pos hat]
  unfold isAt at hat
  rw [Bool.and_eq_true] at hat
  have hpl : p < l.length := by have := of_decide_eq_true hat.1; omega
  have hpf : (l.getD p default).fid = n.fid := by have := of_decide_eq_true hat.2; rw [hp] at this; exact this
  have hset : l.set p n = l.take p ++ n :: l.drop (p + 1) := by
   rw [List.set_eq_take_append_cons_drop, if_pos hpl]
  have hdd : l.drop p = l.getD p default :: l.drop (p + 1) := drop_getD hpl
  have hd1 : ∀ x, x ∈ l.drop (p + 1) → n.fid < x.fid := fun x hx => by
   obtain ⟨i, hi⟩ := List.getElem?_of_mem hx
   rw [List.getElem?_drop] at hi
   have := h.lt (i := p) (j := p + 1 + i) (by omega) (List.getElem?_eq_some_iff.1 hi).1
   rw [getD_of hi, hpf] at this
   exact this
  rw [hset]
  refine ⟨?_, fun x => ?_⟩
  ·refine List.pairwise_append.2 ⟨h.sublist (List.take_sublist _ _), List.pairwise_cons.2 ⟨hd1, h.sublist (List.drop_sublist _ _)⟩, fun a ha b hb => ?_⟩
   rcases List.mem_cons.1 hb with rfl | hb
   ·exact ht a ha
   ·have := ht a ha; have := hd1 b hb; omega
  ·rw [hmem, hdd]
   simp only [List.mem_append, List.mem_cons]
   constructor
   ·rintro (h1 | h1 | h1)
    ·exact .inr ⟨.inl h1, by have := ht x h1; omega⟩
    ·exact .inl h1
    ·exact .inr ⟨.inr (.inr h1), by have := hd1 x h1; omega⟩
   ·rintro (h1 | ⟨h1 | rfl | h1, h2⟩)
    ·exact .inr (.inl h1)
    ·exact .inl h1
    ·exact absurd hpf h2
    ·exact .inr (.inr h1)
 ·rw [if_neg hat]
  have hd1 : ∀ x, x ∈ l.drop p → n.fid < x.fid := fun x hx => by
   obtain ⟨i, hi⟩ := List.getElem?_of_mem hx
   rw [List.getElem?_drop] at hi
   have hil : p + i < l.length := (List.getElem?_eq_some_iff.1 hi).1
   have h0 : ¬ (l.getD p default).fid = n.fid := by
    intro e
    apply hat
    unfold isAt
    rw [hp, Bool.and_eq_true]
    exact ⟨decide_eq_true (by omega), decide_eq_true e⟩
   have h1 := p2 p (Nat.le_refl _) (by omega)
   by_cases hi0 : i = 0
   ·subst hi0
    rw [Nat.add_zero] at hi
    rw [getD_of hi] at h0 h1
    omega
   ·have := h.lt (i := p) (j := p + i) (by omega) hil
    rw [getD_of hi] at this
    omega
  refine ⟨?_, fun x => ?_⟩
  ·refine List.pairwise_append.2 ⟨h.sublist (List.take_sublist _ _), List.pairwise_cons.2 ⟨hd1, h.sublist (List.drop_sublist _ _)⟩, fun a ha b hb => ?_⟩
   rcases List.mem_cons.1 hb with rfl | hb
   ·exact ht a ha
   ·have := ht a ha; have := hd1 b hb; omega
  ·rw [hmem]
   simp only [List.mem_append, List.mem_cons]
   constructor
   ·rintro (h1 | h1 | h1)
    ·exact .inr ⟨.inl h1, by have := ht x h1; omega⟩
    ·exact .inl h1
    ·exact .inr ⟨.inr h1, by have := hd1 x h1; omega⟩
   ·rintro (h1 | ⟨h1 | h1, h2⟩)
    ·exact .inr (.inl h1)
    ·exact .inl h1
    ·exact .inr (.inr h1)
theorem dropN_up {l : List Node} (h : Up l) (fid : Int) : Up (dropN l fid) ∧ ∀ x, x ∈ dropN l fid ↔ x ∈ l ∧ x.fid ≠ fid :=
 ⟨h.sublist List.filter_sublist, fun x => by unfold dropN; rw [List.mem_filter]; simp⟩
theorem puts_found {l : List Node} (h : Up l) (n : Node) : findN (putN l n) n.fid = some n := by
 obtain ⟨h1, h2⟩ := putN_up h n
 exact (ZO h1).2 ⟨(h2 n).2 (.inl rfl), rfl⟩
theorem puts_other {l : List Node} (h : Up l) (n : Node) {other : Int} (ho : other ≠ n.fid) : findN l other = findN (putN l n) other := by
 obtain ⟨h1, h2⟩ := putN_up h n
 cases e : findN l other with
 | none =>
  symm
  rw [findN_none h1]
  intro x hx
  rcases (h2 x).1 hx with rfl | ⟨hx, _⟩
  ·exact Ne.symm ho
  ·exact (findN_none h).1 e x hx
 | some x =>
  obtain ⟨k1, k2⟩ := (ZO h).1 e
  symm
  exact (ZO h1).2 ⟨(h2 x).2 (.inr ⟨k1, by rw [k2]; exact ho⟩), k2⟩
end La
namespace Go.Eng
section
variable {P : Program} {T : Tab} {C : Ctx} {σ σ' : St} {Ret : St → Prop} {k : List It}
theorem sub_nil : ∀ H, sub [] H = []
 | [] => rfl
 | p :: r => by simp [sub, sub_nil r]
theorem del_nil : ∀ H, del [] H = H
 | [] => rfl
 | p :: r => by simp [del, del_nil r]
theorem killL_nil (l : List AV) : l.map (killL []) = l := by
 have : killL [] = id := by funext x; simp [killL]
 rw [this, List.map_id]
theorem seg_callN {ops : Array Oper} {Q : Exit → Act → World → Prop} {k n : Nat} {acc : Skel} {o : Oper} {l : List Oper} {c : Operand} {args : Array Operand} {ats : Array TypeId} (off : Nat) (ho : o.op = .call { callee := .value c, args, argTypes := ats }) (hg : o.guard = none) {p : Prop} {f : FuncId} {xs : List AV}
  (h : callArgs σ c args.toList = some (p, f, xs)) (hp : p) (hc : Callable P f) (hx : refsL xs = []) {K : List (Nat × Blk)} {r : AV} (hf : FnOK P f xs [] fun r' H' => r' = r ∧ ∀ id b, hget K id = some b → hget H' id = some b) (hc3 : closed K (refs r) = true)
  {r2 : AV} (hr : ren off r = r2) {K2 : List (Nat × Blk)} (hK : renH off K = K2) (hn : (K2.all fun b => (hget σ.hp b.1).isNone) = true)
  {sk : List Loc × List Loc} (hs : ((Sp.mk o.dst r2 K2 (locsG ops o.guard ++ (locsO σ c ++ locsL σ args.toList))).wr, locsG ops o.guard ++ (locsO σ c ++ locsL σ args.toList)) = sk)
  (ha : St.put ⟨σ.tm, K2 ++ σ.hp⟩ o.dst r2 = σ') (hk : SegFrom P C ops Q k n (acc ++ [sk]) l σ') : SegFrom P C ops Q k n acc (o :: l) σ := by
 subst hr hK
 refine seg_robN (q := ⟨o.dst, ren off r, renH off K, locsG ops o.guard ++ (locsO σ c ++ locsL σ args.toList)⟩) ?_ (fun b hb _ => ?_) (by rw [← hs]) (by rw [← ha]; rfl) hk
 ·intro s hagree hfree a w Kp Q' hr hKp
  have hg' : guardOf ops s o.guard = some true := by rw [hg]; rfl
  obtain ⟨μ, S, hi⟩ := hr
  rw [wanted_of hi hg']
  refine .inl ?_
  refine trip_callG ho (by rw [callArgs_agree (fun x hx => hagree x (List.mem_append_right _ hx))]; exact h) hp hc [] off (H := []) (K := K) (r := r) (sub_nil _) (by rw [hx]; rfl) rfl (by simp) hc3 ?_ hf ?_ a w Kp Q' ⟨μ, S, hi⟩ hKp
  ·rw [List.all_eq_true]
   intro q hq
   have hm : (q.1 + off, renB off q.2) ∈ renH off K := List.mem_map.2 ⟨q, hq, rfl⟩
   have h0 : hget s.hp (q.1 + off) = none := by
    by_cases h : Loc.blk (q.1 + off) ∈ locsG ops o.guard ++ (locsO σ c ++ locsL σ args.toList)
    ·have h1 := List.all_eq_true.1 hn _ hm
     have h2 : hget σ.hp (q.1 + off) = none := by simpa using h1
     exact (hagree _ h).trans h2
    ·exact hfree _ hm h
   rw [h0]
   rfl
  ·rw [killL_nil, del_nil]; rfl
 ·have := List.all_eq_true.1 hn b hb
  simpa using this
theorem le_empty (id e s : Nat) (hf : hget σ.hp id = none) : Le C σ ⟨σ.tm, (id, .cells e s []) :: σ.hp⟩ := by
 rintro a w ⟨μ, S, hi⟩
 refine ⟨μ, S, hi.size, hi.defers, hi.tm, fun i b hb => ?_, fun i q hq => ?_, hi.inj, hi.frm, hi.sb⟩
 ·simp only [hget] at hb
  split at hb
  ·rename_i h1
   injection hb with hb
   subst h1 hb
   exact .inl ⟨rfl, hi.fresh hf⟩
  ·exact hi.hp i b hb
 ·obtain ⟨⟨b, h1⟩, h2⟩ := hi.dom i q hq
  refine ⟨?_, h2⟩
  simp only [hget]
  split
  ·exact ⟨_, rfl⟩
  ·exact ⟨b, h1⟩
theorem le_killB (ref id : Nat) {e s : Nat} {rows rows' : List (List AV)} (hb : hget σ.hp id = some (.cells e s rows)) (hr : rows.map (fun row => row.map (kill ref)) = rows') : Le C σ ⟨σ.tm, hset σ.hp id (.cells e s rows')⟩ := by
 subst hr
 rintro a w ⟨μ, S, hi⟩
 refine ⟨μ, S, hi.size, hi.defers, hi.tm, fun i b hb' => ?_, fun i q hq => ?_, hi.inj, hi.frm, hi.sb⟩
 ·simp only [hget_hset] at hb'
  split at hb'
  ·rename_i h1
   injection hb' with hb'
   subst h1 hb'
   rcases hi.hp id _ hb with ⟨rfl, k2⟩ | ⟨g, c, k1, k2, k3, k4, k5⟩
   ·exact .inl ⟨by simp, k2⟩
   ·refine .inr ⟨g, c, k1, k2, by rw [List.length_map]; exact k3, fun row hrow => ?_, fun i row hi' q x hx => ?_⟩
    ·obtain ⟨r0, h0, rfl⟩ := List.mem_map.1 hrow
     rw [List.length_map]; exact k4 r0 h0
    ·rw [List.getElem?_map] at hi'
     cases e0 : rows[i]? with
     | none => rw [e0] at hi'; cases hi'
     | some r0 =>
      rw [e0] at hi'
      simp only [Option.map_some, Option.some.injEq] at hi'
      subst hi'
      rw [List.getElem?_map] at hx
      cases e1 : r0[q]? with
      | none => rw [e1] at hx; cases hx
      | some y =>
       rw [e1] at hx
       simp only [Option.map_some, Option.some.injEq] at hx
       subst hx
       unfold kill
       split
       ·exact .any _
       ·exact k5 i r0 e0 q y e1
  ·exact hi.hp i b hb'
 ·obtain ⟨⟨b, h1⟩, h2⟩ := hi.dom i q hq
  refine ⟨?_, h2⟩
  simp only [hget_hset]
  split
  ·exact ⟨_, rfl⟩
  ·exact ⟨b, h1⟩
theorem FnOK.nrmR {f : FuncId} {args : List AV} {H : List (Nat × Blk)} {X Y : AV} (h : FnOK P f args H fun r _ => r = X) (hn : Eng.nrm X = Y) : FnOK P f args H fun r _ => r = Y := by
 subst hn
 intro R0 μ w0 vs hl ha hH hR
 refine (h R0 μ w0 vs hl ha hH hR).mono ?_
 rintro e' w' ⟨v, r, H', μ', S', rfl, rfl, h4, h5⟩
 exact ⟨v, _, H', μ', S', rfl, rfl, h4.nrm, h5⟩
structure Sim (σ τ : St) : Prop where
 tm : σ.tm = τ.tm
 hp : ∀ id, hget σ.hp id = hget τ.hp id
theorem Sim.app {σ τ : St} (h : Sim σ τ) (p : Sp) : Sim (p.app σ) (p.app τ) := by
 refine ⟨?_, fun id => ?_⟩
 ·unfold Sp.app St.put
  cases p.dst <;> simp [h.tm]
 ·unfold Sp.app
  rw [St.put_hp, St.put_hp]
  show hget (p.new ++ σ.hp) id = hget (p.new ++ τ.hp) id
  rw [hget_append, hget_append, h.hp id]
theorem Sim.appAll {σ τ : St} : ∀ (ps : List Sp), Sim σ τ → Sim (Eng.appAll ps σ) (Eng.appAll ps τ) := fun ps => by
 induction ps generalizing σ τ with
 | nil => exact id
 | cons p r ih => exact fun h => ih (h.app p)
theorem Sim.agree {σ τ s : St} (h : Sim σ τ) {x : Loc} (hx : AgreeAt σ s x) : AgreeAt τ s x := by
 cases x with
 | tm t => show _ = _; rw [← h.tm]; exact hx
 | blk id => show _ = _; rw [← h.hp]; exact hx
theorem Sim.rob {σ τ : St} (h : Sim σ τ) {ops : Array Oper} {o : Oper} {p : Sp} (hr : Rob P C ops o p τ) : Rob P C ops o p σ := fun s ha hf => hr s (fun x hx => h.agree (ha x hx)) hf
theorem Sim.chain {ops : Array Oper} : ∀ (l : List Oper) (ps : List Sp) {σ τ : St}, Sim σ τ → RobChain P C ops l ps τ → RobChain P C ops l ps σ
 | [], [], _, _, _, h => h
 | _ :: l, p :: ps, _, _, h, hr => ⟨h.rob hr.1, Sim.chain l ps (h.app p) hr.2⟩
 | [], _ :: _, _, _, _, h => h
 | _ :: _, [], _, _, _, h => h
theorem Sim.fresh : ∀ (ps : List Sp) {σ τ : St}, Sim σ τ → FreshAll ps τ → FreshAll ps σ
 | [], _, _, _, h => h
 | p :: ps, _, _, h, hf => ⟨fun b hb hn => by rw [h.hp]; exact hf.1 b hb hn, Sim.fresh ps (h.app p) hf.2⟩
theorem DrawOK.sim {ops : Array Oper} {Q : Exit → Act → World → Prop} {k : Nat} {σ τ : St} (h : Sim σ τ) (hd : DrawOK P C ops Q k τ) : DrawOK P C ops Q k σ := fun a w hr =>
 hd a w (rel_same (by rw [h.tm]) (fun t => by rw [h.tm]) h.hp a w hr)
theorem SegFrom.sim {ops : Array Oper} {Q : Exit → Act → World → Prop} {k n : Nat} {acc : Skel} {l : List Oper} {σ τ : St} (h : Sim σ τ) (hs : SegFrom P C ops Q k n acc l τ) : SegFrom P C ops Q k n acc l σ := by
 obtain ⟨l1, l2, ps, h1, h2, h3, h4, h5, h6⟩ := hs
 exact ⟨l1, l2, ps, h1, h2, h.chain _ _ h3, h.fresh _ h4, h5, DrawOK.sim (h.appAll ps) h6⟩
theorem seg_store (hT : TabOK P T) {ops : Array Oper} {Q : Exit → Act → World → Prop} {k n : Nat} {acc : Skel} {o : Oper} {l : List Oper} {t : TypeId} {x y : Operand} (ho : o.op = .store t x y) (hd : o.dst = none) (hg : guardOf ops σ o.guard = some true) {id size row off : Nat} (hx : evS σ x = (True, .ptr id size row off))
  {q : Prop} {v : AV} (hy : evS σ y = (q, v)) (hq : q) {p : Prop} {H : List (Nat × Blk)} (h : storeOp T σ t (.ptr id size row off) v = some (p, H)) (hp : p) {b : Blk} (hH : hget H id = some b)
  {sk : List Loc × List Loc} (hs : ([Loc.blk id], locsG ops o.guard ++ (locsL σ [x, y] ++ [Loc.blk id])) = sk) (ha : (⟨σ.tm, hset σ.hp id b⟩ : St) = σ') (hk : SegFrom P C ops Q k n (acc ++ [sk]) l σ') : SegFrom P C ops Q k n acc (o :: l) σ := by
 subst hs ha
 have hform : H = hset σ.hp id b := by
  unfold storeOp at h
  split at h
  ·rename_i id' size' row' off' xs heq1 heq2
   injection heq1 with e1 e2 e3 e4
   subst e1 e2 e3 e4
   split at h
   ·split at h
    ·simp only [Option.some.injEq, Prod.mk.injEq] at h
     obtain ⟨_, rfl⟩ := h
     rw [hget_hset, if_pos rfl] at hH
     injection hH with hH
     rw [hH]
    ·cases h
   ·cases h
  ·cases h
 refine seg_robN (q := ⟨none, .any, [(id, b)], locsG ops o.guard ++ (locsL σ [x, y] ++ [Loc.blk id])⟩) (σ' := Sp.app ⟨none, .any, [(id, b)], locsG ops o.guard ++ (locsL σ [x, y] ++ [Loc.blk id])⟩ σ) ?_ (fun c hc hn => ?_) rfl rfl ?_
 ·intro s hagree _ a w K Q' hr hK
  have hg' : guardOf ops s o.guard = some true := by rw [guard_agree (fun x hx => hagree x (List.mem_append_left _ hx))]; exact hg
  obtain ⟨μ, S, hi⟩ := hr
  rw [wanted_of hi hg']
  refine .inl ?_
  have hl : ∀ z, z ∈ locsL σ [x, y] → AgreeAt σ s z := fun z hz => hagree z (List.mem_append_right _ (List.mem_append_left _ hz))
  have hx' : evS s x = (True, .ptr id size row off) := by rw [evS_agree (fun z hz => hl z (locsL_mem (by simp) z hz))]; exact hx
  have hy' : evS s y = (q, v) := by rw [evS_agree (fun z hz => hl z (locsL_mem (by simp) z hz))]; exact hy
  have hb : hget s.hp id = hget σ.hp id := hagree (.blk id) (List.mem_append_right _ (List.mem_append_right _ (by simp)))
  have hst : storeOp T s t (.ptr id size row off) v = some (p, hset s.hp id b) := by
   unfold storeOp at h ⊢
   split at h
   ·rename_i id' size' row' off' xs heq1 heq2
    injection heq1 with e1 e2 e3 e4
    subst e1 e2 e3 e4
    rw [hb]
    split at h
    ·split at h
     ·simp only [Option.some.injEq, Prod.mk.injEq] at h
      obtain ⟨rfl, rfl⟩ := h
      rw [hget_hset, if_pos rfl] at hH
      injection hH with hH
      subst hH
      rw [if_pos (by assumption)]
     ·cases h
    ·cases h
   ·cases h
  have hstep : stepOp T s o.dst o.op = some ((evS s x).1 ∧ (evS s y).1 ∧ p, ⟨s.tm, hset s.hp id b⟩) := by
   rw [ho, hd]
   show (storeOp T s t (evS s x).2 (evS s y).2).map _ = _
   rw [hx', hy', hst]; rfl
  have hnd : (St.mk s.tm (hset s.hp id b)).hp = hset s.hp id b := rfl
  refine step_sound hT o hstep ⟨by rw [hx']; trivial, by rw [hy']; exact hq, hp⟩ a w K Q' ⟨μ, S, hi⟩ fun a' w' hr' => hK a' w' ?_
  show Rel C ⟨s.tm, (id, b) :: s.hp⟩ a' w'
  refine rel_same (s := ⟨s.tm, hset s.hp id b⟩) (s' := ⟨s.tm, (id, b) :: s.hp⟩) rfl (fun t => rfl) (fun i => ?_) a' w' hr'
  show hget (hset s.hp id b) i = hget ((id, b) :: s.hp) i
  rw [hget_hset]; rfl
 ·have hc' := List.mem_singleton.1 hc
  subst hc'
  exact absurd (List.mem_append_right _ (List.mem_append_right _ (by simp))) hn
 ·refine SegFrom.sim (τ := ⟨σ.tm, hset σ.hp id b⟩) ⟨rfl, fun i => ?_⟩ hk
  show hget ((id, b) :: σ.hp) i = hget (hset σ.hp id b) i
  rw [hget_hset]; rfl
end
end Go.Eng
namespace Go.Eng
section
variable {P : Program} {T : Tab} {C : Ctx} {μ : Nat → Option Nat} {S : Nat → Prop} {σ σ' : St} {a : Act} {w : World} {Ret : St → Prop} {k : List It}
def eqT (T : Tab) : List TypeId → List AV → List AV → Option Bool
 | [], [], [] => some true
 | t :: ts, .int k x :: a, .int k' y :: b => match T.und t with
  | .int _ => if k = k' then (eqT T ts a b).map fun r => x == y && r else none
  | _ => none
 | t :: ts, .bool x :: a, .bool y :: b => match T.und t with
  | .bool => (eqT T ts a b).map fun r => x == y && r
  | _ => none
 | t :: ts, .str x :: a, .str y :: b => match T.und t with
  | .str => (eqT T ts a b).map fun r => x == y && r
  | _ => none
 | _, _, _ => none
def fieldsAre : List Field → Nat → List TypeId → Bool
 | [], _, [] => true
 | f :: fs, j, t :: ts => f.name != "_" && f.offset == j && f.type == t && fieldsAre fs (j + 1) ts
 | _, _, _ => false
def eqStruct (P : Program) (t : TypeId) (tys : List TypeId) : Bool :=
 match P.underlying t with
 | some (.struct F) => !P.stoodInHeld t && !P.eqGuardType P.depth t && fieldsAre F.toList 0 tys
 | _ => false
theorem run_eqFields (hT : TabOK P T) {xs ys : Array Value} {A B : List AV} (hsx : xs.size = A.length) (hsy : ys.size = B.length) (hx : ∀ j x, A[j]? = some x → Rd μ S w (xs.getD j undef) x) (hy : ∀ j x, B[j]? = some x → Rd μ S w (ys.getD j undef) x) (d : Nat) :
  ∀ (fs : List Field) (j : Nat) (ts : List TypeId) (r : Bool), fieldsAre fs j ts = true → eqT T ts (A.drop j) (B.drop j) = some r → (Op.eqFields (d + 1) xs ys fs).run P w = .ok r w := by
 intro fs
 induction fs with
 | nil =>
  intro j ts r h he
  cases ts with
  | nil =>
   cases hA : A.drop j <;> cases hB : B.drop j <;> rw [hA, hB] at he <;> simp only [eqT, Option.some.injEq, reduceCtorEq] at he
   subst he
   simp [Op.eqFields]
  | cons t ts => simp [fieldsAre] at h
 | cons f fs ih =>
  intro j ts r h he
  cases ts with
  | nil => simp [fieldsAre] at h
  | cons t ts =>
   simp only [fieldsAre, Bool.and_eq_true, bne_iff_ne, ne_eq, beq_iff_eq] at h
   obtain ⟨⟨⟨h1, h2⟩, h3⟩, h4⟩ := h
   subst h2 h3
   cases hA : A.drop f.offset with
   | nil => rw [hA] at he; cases hB : B.drop f.offset <;> rw [hB] at he <;> simp [eqT] at he
   | cons p A' =>
    cases hB : B.drop f.offset with
    | nil => rw [hA, hB] at he; cases p <;> simp [eqT] at he
    | cons q B' =>
     have hA1 : A[f.offset]? = some p := by have := congrArg (fun l => l[0]?) hA; simpa using this
     have hB1 : B[f.offset]? = some q := by have := congrArg (fun l => l[0]?) hB; simpa using this
     have hA2 : A.drop (f.offset + 1) = A' := by rw [← List.drop_drop, hA]; rfl
     have hB2 : B.drop (f.offset + 1) = B' := by rw [← List.drop_drop, hB]; rfl
     have hAl : f.offset < A.length := (List.getElem?_eq_some_iff.1 hA1).1
     have hBl : f.offset < B.length := (List.getElem?_eq_some_iff.1 hB1).1
     have hpx : ∀ b, (T.und f.type).isA = some b → b = false → (part f.type xs f.offset).run P w = .ok (xs.getD f.offset undef) w := fun b hb hf => by
      subst hf
      simp [part, isAgg_of hT hb, hsx, hAl, Array.getD_eq_getD_getElem?]
     have hpy : ∀ b, (T.und f.type).isA = some b → b = false → (part f.type ys f.offset).run P w = .ok (ys.getD f.offset undef) w := fun b hb hf => by
      subst hf
      simp [part, isAgg_of hT hb, hsy, hBl, Array.getD_eq_getD_getElem?]
     have rx := hx _ _ hA1
     have ry := hy _ _ hB1
     have hk := hT.und f.type
     have ih' := fun r' he' => ih (f.offset + 1) ts r' h4 he'
     rw [hA2, hB2] at ih'
     rw [hA, hB] at he
     cases hu : T.und f.type <;> rw [hu] at hk <;> cases p <;> cases q <;> simp only [eqT, hu, reduceCtorEq] at he
     ·obtain ⟨r0, h0, rfl⟩ := Option.map_eq_some_iff.1 he
      have e1 := rx.inv_bool
      have e2 := ry.inv_bool
      simp only [Op.eqFields, h1, not_false_eq_true, if_true, ne_eq, Sem.run_bind, hpx false (by rw [hu]; rfl) rfl, hpy false (by rw [hu]; rfl) rfl, Result.andThen_ok, e1, e2, run_equalIn_bool' w d f.type _ _ hk]
      rename_i b1 b2
      cases hb : (b1 == b2)
      ·simp
      ·simp [ih' r0 h0]
     ·split at he
      ·rename_i hkk
       obtain ⟨r0, h0, rfl⟩ := Option.map_eq_some_iff.1 he
       have e1 := rx.inv_int
       have e2 := ry.inv_int
       subst hkk
       simp only [Op.eqFields, h1, not_false_eq_true, if_true, ne_eq, Sem.run_bind, hpx false (by rw [hu]; rfl) rfl, hpy false (by rw [hu]; rfl) rfl, Result.andThen_ok, e1, e2, run_equalIn_int w d f.type _ _ _ _ hk]
       rename_i b1 b2
       cases hb : (b1 == b2)
       ·simp
       ·simp [ih' r0 h0]
      ·cases he
     ·obtain ⟨r0, h0, rfl⟩ := Option.map_eq_some_iff.1 he
      obtain ⟨s1, e1, q1⟩ := rx.inv_str
      obtain ⟨s2, e2, q2⟩ := ry.inv_str
      subst q1 q2
      simp only [Op.eqFields, h1, not_false_eq_true, if_true, ne_eq, Sem.run_bind, hpx false (by rw [hu]; rfl) rfl, hpy false (by rw [hu]; rfl) rfl, Result.andThen_ok, e1, e2, run_equalIn_string w d f.type _ _ hk, ByteArray.toList_eq]
      cases hb : (s1.data.toList == s2.data.toList)
      ·simp
      ·simp [ih' r0 h0]
theorem sound_eqS (hT : TabOK P T) {t : TypeId} {tys : List TypeId} (hc : eqStruct P t tys = true) {ox oy : Operand} {v u : Value} {A B : List AV} {r : Bool} (h : eqT T tys A B = some r) (hv : Rd μ S w v (.agg A)) (hu : Rd μ S w u (.agg B)) {op : BinOp} {q : Bool} (hop : (op = .eql ∧ q = r) ∨ (op = .neq ∧ q = !r)) :
  (do eqGuard op t ox oy v u; binOp op t v u : Sem Value).run P w = .ok (.bool q) w := by
 obtain ⟨xs, rfl, hxl, hxr⟩ := hv.inv_agg
 obtain ⟨ys, rfl, hyl, hyr⟩ := hu.inv_agg
 unfold eqStruct at hc
 split at hc
 ·rename_i F hF
  simp only [Bool.and_eq_true, Bool.not_eq_true'] at hc
  obtain ⟨⟨h1, h2⟩, h3⟩ := hc
  have hfo : P.fieldsOf t = F := by simp [Program.fieldsOf, hF]
  have key := run_eqFields (P := P) (w := w) hT hxl hyl hxr hyr 9998 F.toList 0 tys r h3 (by simpa using h)
  have key2 : (Op.equalIn 10000 t (.agg xs) (.agg ys)).run P w = .ok r w := by
   rw [run_equalIn_struct w 9999 t xs ys (by rw [hfo]; exact hF) h1, hfo]
   exact key
  rcases hop with ⟨rfl, rfl⟩ | ⟨rfl, rfl⟩
  ·simp [run_eqGuard_agg w .eql t ox oy xs ys h2, run_eql_struct w t xs ys, key2]
  ·simp [run_eqGuard_agg w .neq t ox oy xs ys h2, run_neq_struct w t xs ys, key2]
 ·cases hc
theorem trip_eqS (hT : TabOK P T) {o : Oper} {op : BinOp} {t ty : TypeId} {x y : Operand} (ho : o.op = .binOp op t x y ty) {tys : List TypeId} (hc : eqStruct P t tys = true) {A B : List AV} {r : Bool} (hx : evS σ x = (True, .agg A)) (hy : evS σ y = (True, .agg B)) (h : eqT T tys A B = some r)
  {q : Bool} (hop : (op = .eql ∧ q = r) ∨ (op = .neq ∧ q = !r)) : Trip P C o σ (σ.put o.dst (.bool q)) := by
 refine trip_value fun μ S a w hi => ?_
 have hv := hi.evS x (by rw [hx]; trivial)
 have hu := hi.evS y (by rw [hy]; trivial)
 rw [hx] at hv; rw [hy] at hu
 refine ⟨.bool q, ?_, .pure (.bool _)⟩
 have := sound_eqS (ox := x) (oy := y) hT hc h hv hu hop
 simp only [execOp, ho]
 have e : (do eqGuard op t x y (a.eval x) (a.eval y); binOp op t (a.eval x) (a.eval y) : Sem Value).run P w = .ok (.bool q) w := this
 simp only [Sem.run_bind] at e ⊢
 revert e
 generalize (eqGuard op t x y (a.eval x) (a.eval y)).run P w = z
 intro e
 rw [e]; rfl
attribute [go_sem] eqT
end
end Go.Eng
namespace Go.Eng
section
variable {P : Program} {T : Tab} {C : Ctx} {μ : Nat → Option Nat} {S : Nat → Prop} {σ σ' : St} {a : Act} {w w' : World} {Ret : St → Prop} {k : List It}
end
end Go.Eng
namespace Go.Eng
section
variable {P : Program} {T : Tab} {C : Ctx} {μ : Nat → Option Nat} {S : Nat → Prop} {σ σ' : St} {Ret : St → Prop} {k : List It}
def pins (ids : List Nat) (G Y N : Nat → Nat) : List (Nat × Blk) := ids.map fun i => (5000 + i, .pin i (G i) (Y i) (N i))
theorem hget_pins (G Y N : Nat → Nat) (i : Nat) : ∀ (ids : List Nat), hget (pins ids G Y N) i = if 5000 ≤ i ∧ ids.contains (i - 5000) = true then some (.pin (i - 5000) (G (i - 5000)) (Y (i - 5000)) (N (i - 5000))) else none
 | [] => by simp [pins, hget]
 | j :: r => by
  have ih := hget_pins G Y N i r
  simp only [pins, List.map_cons, hget] at ih ⊢
  by_cases e : 5000 + j = i
  ·subst e
   rw [if_pos rfl, if_pos ⟨by omega, by rw [Nat.add_sub_cancel_left]; simp⟩, Nat.add_sub_cancel_left]
  ·rw [if_neg e, ih]
   by_cases h : 5000 ≤ i
   ·have hne : i - 5000 ≠ j := by omega
    simp only [h, true_and, List.contains_cons]
    simp [hne]
   ·rw [if_neg (fun hh => h hh.1), if_neg (fun hh => h hh.1)]
theorem hget_hsetAll (i : Nat) : ∀ (K H : List (Nat × Blk)), (K.map (·.1)).Nodup → hget (hsetAll H K) i = if (hget K i).isSome = true then hget K i else hget H i
 | [], H, _ => by simp [hsetAll, hget]
 | (j, b) :: r, H, hn => by
  simp only [List.map_cons, List.nodup_cons] at hn
  simp only [hsetAll, hget]
  rw [hget_hsetAll i r _ hn.2, hget_hset]
  by_cases e : j = i
  ·subst e
   have h0 : hget r j = none := by
    cases h : hget r j with
    | none => rfl
    | some c => exact absurd (List.mem_map.2 ⟨_, hget_mem h, rfl⟩) hn.1
   simp [h0]
  ·simp [e]
def pinnable : Blk → Bool
 | .cells _ s rows => !rows.isEmpty && s != 0
 | .map _ => true
 | _ => false
theorem pin_of {w : World} {id : Nat} {b : Blk} (h : BlkOK μ S w id b) (hp : pinnable b = true) : ∃ g t n, μ id = some g ∧ rowSize w g = pinS t n := by
 cases b with
 | cells e s rows =>
  simp only [pinnable, Bool.and_eq_true, Bool.not_eq_true', List.isEmpty_eq_false_iff, bne_iff_ne] at hp
  rcases h with ⟨rfl, _⟩ | ⟨g, c, h1, h2, h3, _⟩
  ·exact absurd rfl hp.1
  ·refine ⟨g, e, c.size, h1, ?_⟩
   have hpos : 0 < rows.length := by
    rcases Nat.eq_zero_or_pos rows.length with h | h
    ·exact absurd (List.eq_nil_of_length_eq_zero h) hp.1
    ·exact h
   have : 0 < rows.length * s := Nat.mul_pos hpos (Nat.pos_of_ne_zero hp.2)
   unfold rowSize pinS
   rw [h2, if_neg (by omega)]; rfl
 | map kvs =>
  obtain ⟨g, es, clk, vals, h1, h2, _⟩ := h
  refine ⟨g, 0, 0, h1, ?_⟩
  unfold rowSize pinS
  rw [h2]; rfl
 | iter kvs seen => cases hp
 | cap id s N => cases hp
 | pin id g t n => cases hp
theorem trip_callP {o : Oper} {c : Operand} {args : Array Operand} {ats : Array TypeId} (ho : o.op = .call { callee := .value c, args, argTypes := ats }) {p : Prop} {f : FuncId} {xs : List AV}
  (h : callArgs σ c args.toList = some (p, f, xs)) (hp : p) (hc : Callable P f) (ids : List Nat) {H K : List (Nat × Blk)} {r : AV} (hH : sub ids σ.hp = H)
  (hck : ((refsL xs).all ids.contains && (refs r).all ids.contains && ids.all (fun i => decide (i < 5000) && (hget K i).isSome) && K.all (fun q => ids.contains q.1)) = true) (hnd : (K.map (·.1)).Nodup)
  (hpin : (ids.all fun i => match hget H i with | some b => pinnable b | none => false) = true) (hc1 : (H.all fun q => (refsB q.2).all ids.contains) = true) (hc2 : (K.all fun q => (refsB q.2).all ids.contains) = true)
  (hf : ∀ G Y N : Nat → Nat, FnOK P f xs (H ++ pins ids G Y N) fun r' H' => r' = r ∧ ∀ i b, hget (K ++ pins ids G Y N) i = some b → hget H' i = some b) {τ : St} (hτ : (⟨σ.tm, hsetAll σ.hp K⟩ : St).put o.dst r = τ) : Trip P C o σ τ := by
 subst hH hτ
 simp only [Bool.and_eq_true] at hck
 obtain ⟨⟨⟨hx, hr⟩, hi1⟩, hK1⟩ := hck
 have hxr : ∀ i, i ∈ refsL xs → ids.contains i = true := fun i h => List.all_eq_true.1 hx i h
 have hrr : ∀ i, i ∈ refs r → ids.contains i = true := fun i h => List.all_eq_true.1 hr i h
 have hid : ∀ i, ids.contains i = true → i < 5000 ∧ ∃ b, hget K i = some b := fun i h => by
  have := List.all_eq_true.1 hi1 i (by simpa using h)
  rw [Bool.and_eq_true, decide_eq_true_eq] at this
  exact ⟨this.1, Option.isSome_iff_exists.1 this.2⟩
 have hKi : ∀ i b, hget K i = some b → ids.contains i = true := fun i b h => List.all_eq_true.1 hK1 _ (hget_mem h)
 intro a w Kp Q ⟨μ, S, hi⟩ hKp
 obtain ⟨vs, h1, h2, h3⟩ := exec_call hi ho h hp hc
 unfold Oper.wp
 rw [h3]
 have hpn : ∀ i, ∃ g t n, ids.contains i = true → μ i = some g ∧ rowSize w g = pinS t n := fun i => by
  by_cases e : ids.contains i = true
  ·have := List.all_eq_true.1 hpin i (by simpa using e)
   cases e2 : hget (sub ids σ.hp) i with
   | none => rw [e2] at this; cases this
   | some b =>
    rw [e2] at this
    have e3 : hget σ.hp i = some b := by
     rw [hget_sub, if_pos e] at e2; exact e2
    obtain ⟨g, t, n, k1, k2⟩ := pin_of (hi.hp i b e3) this
    exact ⟨g, t, n, fun _ => ⟨k1, k2⟩⟩
  ·exact ⟨0, 0, 0, fun h => absurd h e⟩
 let G : Nat → Nat := fun i => Classical.choose (hpn i)
 let Y : Nat → Nat := fun i => Classical.choose (Classical.choose_spec (hpn i))
 let N : Nat → Nat := fun i => Classical.choose (Classical.choose_spec (Classical.choose_spec (hpn i)))
 have hg : ∀ i, ids.contains i = true → μ i = some (G i) ∧ rowSize w (G i) = pinS (Y i) (N i) := fun i => Classical.choose_spec (Classical.choose_spec (Classical.choose_spec (hpn i)))
 let μc : Nat → Option Nat := fun i => if ids.contains i then μ i else none
 have mc : ∀ {i g}, μc i = some g → ids.contains i = true ∧ μ i = some g := fun {i g} h => by
  simp only [μc] at h; split at h
  ·exact ⟨by assumption, h⟩
  ·cases h
 have mc' : ∀ {i}, ids.contains i = true → μc i = μ i := fun {i} h => by simp only [μc, h, if_true]
 have mcn : ∀ {i}, ids.contains i = false → μc i = none := fun {i} h => by simp only [μc, h, Bool.false_eq_true, if_false]
 have hsubk : ∀ i b, hget (sub ids σ.hp) i = some b → ids.contains i = true ∧ hget σ.hp i = some b := fun i b h => by
  rw [hget_sub] at h
  split at h
  ·exact ⟨by assumption, h⟩
  ·cases h
 refine (hf G Y N S μc w vs h1 (fun j x hj => (h2 j x hj).less fun id hid g hg => by rw [mc' (hxr id (refsL_mem hj hid))]; exact hg) ⟨fun id b hb => ?_, fun id g hg' => ?_, fun id id' g hg hg' => hi.inj id id' g (mc hg).2 (mc hg').2, hi.gok.sub fun i g h => ⟨i, (mc h).2⟩⟩ (fun b hb => (hi.sb b hb).1)).mono ?_
 ·rw [hget_append] at hb
  split at hb
  ·obtain ⟨q1, q2⟩ := hsubk id b hb
   have hall := List.all_eq_true.1 hc1 _ (hget_mem hb)
   exact (hi.hp id b q2).less (mc' q1) (fun i hi' g hg => by rw [mc' (List.all_eq_true.1 hall i hi')]; exact hg)
  ·rw [hget_pins] at hb
   split at hb
   ·rename_i hc5
    injection hb with hb
    subst hb
    have hno : ids.contains id = false := by
     cases e : ids.contains id with
     | false => rfl
     | true => have := (hid id e).1; omega
    exact ⟨mcn hno, by rw [mc' hc5.2]; exact (hg _ hc5.2).1, (hg _ hc5.2).2⟩
   ·cases hb
 ·obtain ⟨k1, k2⟩ := mc hg'
  obtain ⟨⟨b, j1⟩, _, j3⟩ := hi.dom id g k2
  refine ⟨⟨b, ?_⟩, j3⟩
  rw [hget_append, if_pos ⟨(id, b), hget_mem (by rw [hget_sub, if_pos k1]; exact j1), rfl⟩, hget_sub, if_pos k1]; exact j1
 rintro e w' ⟨v, r', H', μ', S', rfl, ⟨rfl, hKH⟩, k1, k2, k3, k4, k5⟩
 have hKget : ∀ i b, hget K i = some b → hget H' i = some b := fun i b hb => hKH i b (by
  rw [hget_append, if_pos ⟨(i, b), hget_mem hb, rfl⟩]; exact hb)
 have hPget : ∀ i, ids.contains i = true → hget H' (5000 + i) = some (.pin i (G i) (Y i) (N i)) := fun i hi' => hKH _ _ (by
  rw [hget_append, if_neg (by
   rintro ⟨b, hb, hb2⟩
   have : ids.contains b.1 = true := List.all_eq_true.1 hK1 b hb
   have := (hid _ this).1
   omega), hget_pins, if_pos ⟨by omega, by rw [Nat.add_sub_cancel_left]; exact hi'⟩, Nat.add_sub_cancel_left])
 have hpin' : ∀ i, ids.contains i = true → μ' i = some (G i) ∧ rowSize w' (G i) = pinS (Y i) (N i) := fun i hi' => (k2.blk _ _ (hPget i hi')).2
 have hfr : Frm (fun g => ∃ id, μc id = some g) w w' := k3
 have hS : SameOn S w w' := fun b hb => hfr.block b (hi.sb b hb).1 (by rintro ⟨id, h⟩; exact (hi.dom id b (mc h).2).2.2.1 hb)
 have hO : ∀ i g, μ i = some g → ids.contains i = false → w'.heap[g]? = w.heap[g]? := fun i g hg hn => hfr.block g (hi.dom i g hg).2.2.2 (by
  rintro ⟨id, h⟩
  obtain ⟨q1, q2⟩ := mc h
  have := hi.inj _ _ _ hg q2
  subst this
  rw [q1] at hn; cases hn)
 have hz : ∀ i g, μ i = some g → rowSize w' g = rowSize w g := fun i g hg' => by
  cases e : ids.contains i with
  | false => exact rowSize_same (hO i g hg' e)
  | true =>
   obtain ⟨q1, q2⟩ := hg i e
   rw [hg'] at q1; injection q1 with q1
   rw [q1, (hpin' i e).2, q2]
 let S2 : Nat → Prop := fun b => S b ∨ S' b
 have hrd : ∀ {v x}, Rd μ S w v x → Rd μ S2 w' v x := fun hv => hv.mono hS (fun _ h => .inl h) (fun _ _ h => h) hz
 have inv : Inv C μ S2 ⟨σ.tm, hsetAll σ.hp K⟩ a w' := by
  refine ⟨hi.size, hi.defers, fun t x hx => hrd (hi.tm t x hx), fun i b hb => ?_, fun i g hg' => ?_, hi.inj, hi.frm.step _ hfr (fun g ⟨id, h⟩ => (hi.dom id g (mc h).2).2.1), fun b hb => ?_⟩
  ·rw [hget_hsetAll i K σ.hp hnd] at hb
   split at hb
   ·have hib := hKi i b hb
    have hB := k2.blk i b (hKget i b hb)
    have hall := List.all_eq_true.1 hc2 _ (hget_mem hb)
    have h1 : BlkOK μ S' w' i b := hB.less (by rw [(hg i hib).1, (hpin' i hib).1]) (fun j hj q hq => by
     have hjb := List.all_eq_true.1 hall j hj
     rw [(hpin' j hjb).1] at hq
     rw [(hg j hjb).1]; exact hq)
    exact h1.mono (SameOn.refl _ _) (fun _ h => .inr h) (fun _ _ h => h) (fun _ _ _ => rfl) (fun h => h) (fun _ _ => rfl)
   ·rename_i hno
    have hib : ids.contains i = false := by
     cases e : ids.contains i with
     | false => rfl
     | true =>
      obtain ⟨_, c, hc'⟩ := hid i e
      rw [hc'] at hno
      exact absurd rfl hno
    exact (hi.hp i b hb).mono hS (fun _ h => .inl h) (fun _ _ h => h) hz (fun h => h) (fun g hg' => hO i g hg' hib)
  ·obtain ⟨⟨b, j1⟩, j2, j3, j4⟩ := hi.dom i g hg'
   refine ⟨?_, j2, ?_, Nat.lt_of_lt_of_le j4 hfr.size⟩
   ·rw [hget_hsetAll i K σ.hp hnd]
    split
    ·rename_i hs
     exact Option.isSome_iff_exists.1 hs
    ·exact ⟨b, j1⟩
   ·rintro (h | h)
    ·exact j3 h
    ·cases e : ids.contains i with
     | true =>
      have := (hg i e).1
      rw [hg'] at this; injection this with this
      subst this
      exact (k2.dom i _ (hpin' i e).1).2.1 h
     | false =>
      rcases (k5 g h).2 with q | ⟨id, q⟩ | q
      ·exact j3 q
      ·obtain ⟨q1, q2⟩ := mc q
       have := hi.inj _ _ _ hg' q2
       subst this
       rw [q1] at e; cases e
      ·omega
  ·rcases hb with h | h
   ·exact ⟨Nat.lt_of_lt_of_le (hi.sb b h).1 hfr.size, (hi.sb b h).2⟩
   ·refine ⟨(k5 b h).1, ?_⟩
    rcases (k5 b h).2 with q | ⟨id, q⟩ | q
    ·exact (hi.sb b q).2
    ·rcases (hi.dom id b (mc q).2).2.1 with z | z
     ·exact .inr (.inl z)
     ·exact .inr (.inr z)
    ·have := hi.frm.size
     exact .inr (.inr (by omega))
 refine hKp _ _ ⟨μ, S2, inv.put o.dst ?_⟩
 have h1 : Rd μ S' w' v r' := k1.less fun i hi' g hg' => by
  have hib := hrr i hi'
  rw [(hpin' i hib).1] at hg'
  rw [(hg i hib).1]; exact hg'
 exact h1.mono (SameOn.refl _ _) (fun _ h => .inr h) (fun _ _ h => h) (fun _ _ _ => rfl)
theorem partsS_agree {s : St} {t : TypeId} : ∀ {parts : List (Nat × Operand)}, (∀ q, q ∈ parts → evS s q.2 = evS σ q.2) → partsS T s t parts = partsS T σ t parts
 | [], _ => rfl
 | (j, o) :: r, h => by
  simp only [partsS]
  rw [h (j, o) (by simp), partsS_agree (fun q hq => h q (by simp [hq]))]
theorem seg_build (hT : TabOK P T) {ops : Array Oper} {Q : Exit → Act → World → Prop} {k n : Nat} {acc : Skel} {o : Oper} {l : List Oper} {t : TypeId} {parts : Array (Nat × Operand)} (ho : o.op = .build t parts) {b : Bool} (hg : guardOf ops σ o.guard = some b)
  {p : Prop} {x : AV} (h : buildAV T σ t parts.toList = some (p, x)) (hp : b = true → p) {y : AV} (hy : (bif b then x else .cnd false x) = y)
  {sk : List Loc × List Loc} (hs : ((Sp.mk o.dst y [] (locsG ops o.guard ++ locsL σ (parts.toList.map (·.2)))).wr, locsG ops o.guard ++ locsL σ (parts.toList.map (·.2))) = sk) (ha : σ.put o.dst y = σ') (hk : SegFrom P C ops Q k n (acc ++ [sk]) l σ') : SegFrom P C ops Q k n acc (o :: l) σ := by
 refine seg_rob (rob_trip (x := y) (rd := locsL σ (parts.toList.map (·.2))) hg (by
  cases b
  ·exact .inr ⟨x, hy.symm⟩
  ·exact .inl rfl) (fun hb s hag => ?_)) rfl (by rw [← hs]) (by rw [← ha]; simp [Sp.app]) hk
 subst hb
 have hyx : x = y := hy
 subst hyx
 have hb2 : buildAV T s t parts.toList = some (p, x) := by
  rw [← h]
  unfold buildAV
  rw [partsS_agree (fun q hq => evS_agree fun z hz => hag z (locsL_mem (List.mem_map.2 ⟨q, hq, rfl⟩) z hz))]
 refine step_sound hT o (p := p) ?_ (hp rfl)
 rw [ho]
 simp only [stepOp, hb2, Option.map_some]
attribute [go_sem] pins pinnable
end
end Go.Eng
namespace Go.Eng
section
variable {P : Program} {T : Tab} {C : Ctx} {σ σ' : St} {Ret : St → Prop} {k : List It} {μ : Nat → Option Nat} {S : Nat → Prop} {a : Act} {w : World}
end
end Go.Eng
namespace Go.Eng
def renE (f : Nat → Nat) (e : Edge) : Edge := ⟨f e.on, e.ground⟩
section
variable {P : Program} {C : Ctx} {σ σ' : St}
def asEmpty (id s : Nat) : AV → AV
 | .nils => .osl id s 0 0
 | x => x
theorem wk_asEmpty (id s : Nat) (x : AV) : wk x (asEmpty id s x) := by
 cases x
 case nils => exact .inr (.inr ⟨rfl, .inr ⟨id, s, 0, rfl⟩⟩)
 all_goals exact .inr (.inl rfl)
theorem le_nilB (id' s' id : Nat) {e s : Nat} {rows rows' : List (List AV)} (hb : hget σ.hp id = some (.cells e s rows)) (hr : rows.map (fun row => row.map (asEmpty id' s')) = rows') : Le C σ ⟨σ.tm, hset σ.hp id (.cells e s rows')⟩ := by
 subst hr
 rintro a w ⟨μ, S, hi⟩
 refine ⟨μ, S, hi.size, hi.defers, hi.tm, fun i b hb' => ?_, fun i q hq => ?_, hi.inj, hi.frm, hi.sb⟩
 ·simp only [hget_hset] at hb'
  split at hb'
  ·rename_i h1
   injection hb' with hb'
   subst h1 hb'
   rcases hi.hp id _ hb with ⟨rfl, k2⟩ | ⟨g, c, k1, k2, k3, k4, k5⟩
   ·exact .inl ⟨by simp, k2⟩
   ·refine .inr ⟨g, c, k1, k2, by rw [List.length_map]; exact k3, fun row hrow => ?_, fun i row hi' q x hx => ?_⟩
    ·obtain ⟨r0, h0, rfl⟩ := List.mem_map.1 hrow
     rw [List.length_map]; exact k4 r0 h0
    ·rw [List.getElem?_map] at hi'
     cases e0 : rows[i]? with
     | none => rw [e0] at hi'; cases hi'
     | some r0 =>
      rw [e0] at hi'
      simp only [Option.map_some, Option.some.injEq] at hi'
      subst hi'
      rw [List.getElem?_map] at hx
      cases e1 : r0[q]? with
      | none => rw [e1] at hx; cases hx
      | some y =>
       rw [e1] at hx
       simp only [Option.map_some, Option.some.injEq] at hx
       subst hx
       exact (k5 i r0 e0 q y e1).wk (wk_asEmpty id' s' y)
  ·exact hi.hp i b hb'
 ·obtain ⟨⟨b, h1⟩, h2⟩ := hi.dom i q hq
  refine ⟨?_, h2⟩
  simp only [hget_hset]
  split
  ·exact ⟨_, rfl⟩
  ·exact ⟨b, h1⟩
theorem draw_le {ops : Array Oper} {Q : Exit → Act → World → Prop} {k : Nat} (h : Le C σ σ') (hk : DrawOK P C ops Q k σ') : DrawOK P C ops Q k σ := fun a w hr => hk a w (h a w hr)
end
attribute [go_sem] asEmpty
end Go.Eng
namespace Go.Eng
def remOp (r : Nat) (f : Nat → Nat) (o : Oper) : Oper := ⟨o.dst, o.op, o.type, o.pos, (o.after.filter fun e => !(e.on == r)).map (renE f), o.guard.map fun g => (f g.1, g.2)⟩
def remOps (r : Nat) (p q : List Nat) (l : List Oper) : List Oper := p.map fun i => remOp r (fun j => q.getD j j) (l.getD i default)
def isSel : Op → Bool
 | .select .. => true
 | _ => false
def remOK (r : Nat) (p q : List Nat) (ops : Array Oper) : Bool :=
 p.length + 1 == ops.size && q.length == ops.size && (decide (r < ops.size) && (List.range ops.size).all fun i => i == r || (decide (q.getD i i + 1 < ops.size) && p.getD (q.getD i i) 0 == i)) &&
 ((List.range p.length).all fun j => decide (p.getD j 0 < ops.size) && !(p.getD j 0 == r) && q.getD (p.getD j 0) 0 == j) &&
 ops.toList.all fun o => (match o.guard with | some g => !(g.1 == r) | none => true) && !isSel o.op
def firstOK (r : Nat) (o : Oper) (ops : Array Oper) : Bool :=
 o.after.isEmpty && (List.range ops.size).all fun j => j == r || (match ops[j]? with | some oj => (oj.after.any fun e => Region.binds .any e && e.on == r) || o.apart ops oj | none => true)
section
variable {P : Program} {T : Tab} {C : Ctx} {σ σ' : St} {μ : Nat → Option Nat} {S : Nat → Prop} {a : Act} {w : World}
structure RemF (r : Nat) (p q : List Nat) (ops : Array Oper) : Prop where
 pl : p.length + 1 = ops.size
 ql : q.length = ops.size
 rl : r < ops.size
 to : ∀ i, i < ops.size → i ≠ r → q.getD i i + 1 < ops.size ∧ p.getD (q.getD i i) 0 = i
 fro : ∀ j, j < p.length → p.getD j 0 < ops.size ∧ p.getD j 0 ≠ r ∧ q.getD (p.getD j 0) 0 = j
 gd : ∀ (i : Nat) o j b, ops[i]? = some o → o.guard = some (j, b) → j ≠ r
 sel : ∀ (i : Nat) o cs b, ops[i]? = some o → o.op ≠ .select cs b
theorem rem_facts {r : Nat} {p q : List Nat} {ops : Array Oper} (h : remOK r p q ops = true) : RemF r p q ops := by
 unfold remOK at h
 simp only [Bool.and_eq_true, beq_iff_eq, decide_eq_true_eq] at h
 obtain ⟨⟨⟨⟨h1, h2⟩, h3, h4⟩, h5⟩, h6⟩ := h
 have hall : ∀ (i : Nat) o, ops[i]? = some o → ((match o.guard with | some g => !(g.1 == r) | none => true) && !isSel o.op) = true := fun i o ho =>
  List.all_eq_true.1 h6 o (by rw [Array.mem_toList_iff]; exact Array.mem_of_getElem? ho)
 refine ⟨h1, h2, h3, fun i hi hne => ?_, fun j hj => ?_, fun i o j b ho hg e => ?_, fun i o cs b ho e => ?_⟩
 ·have := List.all_eq_true.1 h4 i (List.mem_range.2 hi)
  simp only [Bool.or_eq_true, Bool.and_eq_true, beq_iff_eq, decide_eq_true_eq] at this
  rcases this with h | h
  ·exact absurd h hne
  ·exact h
 ·have := List.all_eq_true.1 h5 j (List.mem_range.2 hj)
  simp only [Bool.and_eq_true, beq_iff_eq, decide_eq_true_eq, Bool.not_eq_true', beq_eq_false_iff_ne] at this
  exact ⟨this.1.1, this.1.2, this.2⟩
 ·have := hall i o ho
  rw [hg] at this
  simp only [Bool.and_eq_true, Bool.not_eq_true', beq_eq_false_iff_ne] at this
  exact this.1 e
 ·have := hall i o ho
  rw [e] at this
  simp [isSel] at this
theorem RemF.get {r : Nat} {p q : List Nat} {ops : Array Oper} (h : RemF r p q ops) {i : Nat} (hne : i ≠ r) {o : Oper} (ho : ops[i]? = some o) :
  (remOps r p q ops.toList).toArray[q.getD i i]? = some (remOp r (fun j => q.getD j j) o) := by
 have hi : i < ops.size := (Array.getElem?_eq_some_iff.1 ho).1
 obtain ⟨h4, h5⟩ := h.to i hi hne
 have hpl := h.pl
 rw [List.getElem?_toArray, remOps, List.getElem?_map]
 have hp : p[q.getD i i]? = some i := by
  rw [List.getD_eq_getElem?_getD, List.getElem?_eq_getElem (by omega)] at h5
  rw [List.getElem?_eq_getElem (by omega)]
  exact congrArg some h5
 rw [hp]
 simp only [Option.map_some]
 rw [List.getD_eq_getElem?_getD, Array.getElem?_toList, ho]
 rfl
theorem RemF.big {r : Nat} {p q : List Nat} {ops : Array Oper} (h : RemF r p q ops) {i : Nat} (hi : ops.size ≤ i) : q.getD i i = i := by
 have := h.ql
 rw [List.getD_eq_getElem?_getD, List.getElem?_eq_none (by omega)]; rfl
theorem RemF.inj {r : Nat} {p q : List Nat} {ops : Array Oper} (h : RemF r p q ops) {i j : Nat} (hi : i ≠ r) (hj : j ≠ r) (he : q.getD i i = q.getD j j) : i = j := by
 by_cases h1 : i < ops.size
 ·by_cases h2 : j < ops.size
  ·have e1 := (h.to i h1 hi).2
   rw [he, (h.to j h2 hj).2] at e1
   exact e1.symm
  ·have := (h.to i h1 hi).1
   rw [he, h.big (by omega)] at this
   omega
 ·by_cases h2 : j < ops.size
  ·have := (h.to j h2 hj).1
   rw [← he, h.big (by omega)] at this
   omega
  ·rw [h.big (by omega), h.big (by omega)] at he; exact he
theorem RemF.yielded {r : Nat} {p q : List Nat} {ops : Array Oper} (h : RemF r p q ops) (t : Array Value) {j : Nat} (hj : j ≠ r) : Go.yielded (remOps r p q ops.toList).toArray t (q.getD j j) = Go.yielded ops t j := by
 unfold Go.yielded
 cases ho : ops[j]? with
 | none =>
  have hs : ops.size ≤ j := Array.getElem?_eq_none_iff.1 ho
  have hpl := h.pl
  rw [h.big hs, List.getElem?_toArray, remOps, List.getElem?_map, List.getElem?_eq_none (by omega)]
  rfl
 | some o => rw [h.get hj ho]; rfl
theorem rem_any {r : Nat} {p q : List Nat} {ops : Array Oper} (h : RemF r p q ops) {Q : Exit → Act → World → Prop} : ∀ (f : Nat) (L L' : Array Bool) (a : Act) (w : World), L.size = ops.size → L'.size + 1 = ops.size → L.getD r false = true →
  (∀ i, i ≠ r → L'.getD (q.getD i i) false = L.getD i false) → wpAny P .any (remOps r p q ops.toList).toArray Q f L' a w → wpAny P .any ops Q f L a w := by
 have hpl := h.pl
 have hTF : ∀ (L : Array Bool) (i : Nat), i < L.size → L.getD i true = L.getD i false := fun L i hi => by rw [Array.getD_eq_getD_getElem?, Array.getD_eq_getD_getElem?, Array.getElem?_eq_getElem hi]; rfl
 have hne : ∀ (L : Array Bool), L.size = ops.size → L.getD r false = true → ∀ i, i ∈ Region.ready .any ops L → i ≠ r := fun L hL hr i hi e => by
  subst e
  obtain ⟨k1, _⟩ := mem_ready.1 hi
  rw [hTF L i (by rw [hL]; exact h.rl), hr] at k1
  cases k1
 have hrd : ∀ (L L' : Array Bool), L.size = ops.size → L'.size + 1 = ops.size → L.getD r false = true → (∀ i, i ≠ r → L'.getD (q.getD i i) false = L.getD i false) → ∀ i, i ∈ Region.ready .any ops L → q.getD i i ∈ Region.ready .any (remOps r p q ops.toList).toArray L' := fun L L' hL hL' hr hg i hi => by
  have hir := hne L hL hr i hi
  obtain ⟨k1, o, k2, k3⟩ := mem_ready.1 hi
  have hlt : i < ops.size := (Array.getElem?_eq_some_iff.1 k2).1
  refine mem_ready.2 ⟨?_, _, h.get hir k2, fun e he hb => ?_⟩
  ·rw [hTF L' _ (by have := (h.to i hlt hir).1; omega), hg i hir, ← hTF L i (by omega)]; exact k1
  ·simp only [remOp] at he
   obtain ⟨e0, he0, rfl⟩ := Array.mem_map.1 he
   obtain ⟨he1, he2⟩ := Array.mem_filter.1 he0
   show L'.getD (q.getD e0.on e0.on) false = true
   rw [hg _ (by simpa using he2)]
   exact k3 e0 he1 hb
 intro f
 induction f with
 | zero =>
  intro L L' a w hL hL' hr hg hw
  refine ⟨List.eq_nil_iff_forall_not_mem.2 fun i hi => ?_, hw.2⟩
  have := hrd L L' hL hL' hr hg i hi
  rw [hw.1] at this
  cases this
 | succ f ih =>
  intro L L' a w hL hL' hr hg hw
  refine ⟨fun h0 => ?_, fun i hi => ?_⟩
  ·by_cases hrr : Region.ready .any (remOps r p q ops.toList).toArray L' = []
   ·exact hw.1 hrr
   ·exfalso
    obtain ⟨j, hj⟩ := List.exists_mem_of_ne_nil _ hrr
    obtain ⟨k1, o, k2, k3⟩ := mem_ready.1 hj
    have hjn : j < p.length := by
     have := (Array.getElem?_eq_some_iff.1 k2).1
     simpa only [List.size_toArray, remOps, List.length_map] using this
    obtain ⟨f1, f2, f3⟩ := h.fro j hjn
    have hqi : q.getD (p.getD j 0) (p.getD j 0) = j := by
     have hq := h.ql
     rw [List.getD_eq_getElem?_getD, List.getElem?_eq_getElem (by omega)] at f3 ⊢
     exact f3
    obtain ⟨oi, hoi⟩ : ∃ oi, ops[p.getD j 0]? = some oi := ⟨_, Array.getElem?_eq_getElem f1⟩
    have hget := h.get f2 hoi
    rw [hqi] at hget
    rw [hget] at k2
    injection k2 with k2
    have : p.getD j 0 ∈ Region.ready .any ops L := by
     refine mem_ready.2 ⟨?_, oi, hoi, fun e he hb => ?_⟩
     ·rw [hTF L _ (by omega), ← hg _ f2, hqi, ← hTF L' j (by omega)]; exact k1
     ·by_cases her : e.on = r
      ·rw [her]; exact hr
      ·rw [← hg _ her]
       exact k3 (renE (fun j => q.getD j j) e) (by rw [← k2]; exact Array.mem_map.2 ⟨e, Array.mem_filter.2 ⟨he, by simpa using her⟩, rfl⟩) hb
    rw [h0] at this
    cases this
  ·have hir := hne L hL hr i hi
   have hri := hrd L L' hL hL' hr hg i hi
   have hop := hw.2 _ hri
   obtain ⟨_, o, hoi, _⟩ := mem_ready.1 hi
   have hlt : i < ops.size := (Array.getElem?_eq_some_iff.1 hoi).1
   have hnext : ∀ a' w', wpAny P .any (remOps r p q ops.toList).toArray Q f (L'.setIfInBounds (q.getD i i) true) a' w' → wpAny P .any ops Q f (L.setIfInBounds i true) a' w' := fun a' w' hk =>
    ih _ _ a' w' (by simpa using hL) (by simpa using hL') (by
     rw [Array.getD_eq_getD_getElem?, Array.getElem?_setIfInBounds, if_neg hir, ← Array.getD_eq_getD_getElem?]; exact hr) (fun j hj => by
     have hqi := (h.to i hlt hir).1
     have := hg j hj
     rw [Array.getD_eq_getD_getElem?, Array.getD_eq_getD_getElem?] at this
     rw [Array.getD_eq_getD_getElem?, Array.getD_eq_getD_getElem?, Array.getElem?_setIfInBounds, Array.getElem?_setIfInBounds]
     by_cases e : j = i
     ·subst e
      rw [if_pos rfl, if_pos rfl, if_pos (by omega), if_pos (by omega)]
     ·rw [if_neg (fun e2 => e (h.inj hj hir e2.symm)), if_neg (fun e2 => e e2.symm)]
      exact this) hk
   have hop2 := wpOp_mono hnext hop
   unfold wpOp at hop2 ⊢
   rw [h.get hir hoi] at hop2
   rw [hoi]
   simp only at hop2 ⊢
   have hwant : Region.wanted (remOp r (fun j => q.getD j j) o) (Go.yielded (remOps r p q ops.toList).toArray a.tmps) = Region.wanted o (Go.yielded ops a.tmps) := by
    unfold Region.wanted remOp
    cases hgd : o.guard with
    | none => rfl
    | some g =>
     obtain ⟨j, b⟩ := g
     simp only [Option.map_some]
     rw [h.yielded a.tmps (h.gd i o j b hoi hgd)]
   rw [hwant] at hop2
   exact hop2
end
end Go.Eng
