/- Texts of this claim, part 21: RCache, EngAM, EngAO, RKeepK, RFreshK. No condition. -/
import Derived.Test.YtfiiingppbkpkaaGreatXF18
import Derived.Test.YtfiiingppbkpkaaGreatXF20
import Derived.Test.YtfiiingppbkpkaaGreatXF17
import Derived.Test.YtfiiingppbkpkaaGreatXF15
import Derived.Test.YtfiiingppbkpkaaGreatXF14
import Derived.Test.YtfiiingppbkpkaaGreatXF11
set_option maxRecDepth 10000
set_option maxHeartbeats 4000000
set_option linter.unusedSimpArgs false
set_option linter.unusedVariables false
namespace La
open Go Go.Eng Go.Proofs
theorem cmpI_neg {a b : Int} : cmpI a b < 0 ↔ a < b := by rcases cmpI_cases a b with ⟨h, e⟩ | ⟨h, e⟩ | ⟨h, e⟩ <;> rw [e] <;> omega
theorem cmpI_zero {a b : Int} : cmpI a b = 0 ↔ a = b := by rcases cmpI_cases a b with ⟨h, e⟩ | ⟨h, e⟩ | ⟨h, e⟩ <;> rw [e] <;> omega
theorem cmpK_iff {a b : Kept} : cmpK a b < 0 ↔ (a.worth ≠ b.worth ∧ a.worth < b.worth) ∨ (a.worth = b.worth ∧ ((a.last ≠ b.last ∧ a.last < b.last) ∨ (a.last = b.last ∧ a.node.fid < b.node.fid))) := by
 unfold cmpK orI
 by_cases h1 : a.worth = b.worth
 ·rw [if_neg (by simp [cmpI_zero, h1])]
  by_cases h2 : a.last = b.last
  ·rw [if_neg (by simp [cmpI_zero, h2]), cmpI_neg]; simp [h1, h2]
  ·rw [if_pos (by simp [cmpI_zero, h2]), cmpI_neg]; simp [h1, h2]
 ·rw [if_pos (by simp [cmpI_zero, h1]), cmpI_neg]; simp [h1]
theorem worse_ok (a b : Kept) : FnOK Tryz.prog 125 [.agg (ZK a), .agg (ZK b)] [] (fun r _ => r = .bool (decide (cmpK a b < 0))) := by
 have hk := @cmpK_iff a b
 unfold ZK
 refine ZF tK (Tryz.func125) rfl (fun C => ?_)
 simp only [Tryz.ntmps125, Tryz.results125, go_sem]
 refine wG tK ?_
 refine wD (fun h => ?_) (fun h => ?_)
 ·have h1 : a.worth ≠ b.worth := by simpa using h
  refine wG tK ?_
  refine wT ?_
  simp [hk, h1]
 have h1 : a.worth = b.worth := by simpa using h
 refine wG tK ?_
 refine wD (fun h => ?_) (fun h => ?_)
 ·have h2 : a.last ≠ b.last := by simpa using h
  refine wG tK ?_
  refine wT ?_
  simp [hk, h1, h2]
 have h2 : a.last = b.last := by simpa using h
 refine wG tK ?_
 refine wT ?_
 simp [hk, h1, h2]
theorem kept_rm (l : List Kept) (hlen : l.length ≤ 100000000) : FnOK Tryz.prog 106 [.sl (l.map ZK)] [] (fun r _ => r = .rm (mN (mapD (nodesK l)))) := by
 rw [← mapN_eq]
 refine ZF tK (Tryz.func106) rfl (fun C => ?_)
 simp only [Tryz.ntmps106, Tryz.results106, go_sem]
 refine wG tK ?_
 refine ZL (fun i : Nat => i ≤ l.length) (fun i => l.length - i) (fun i => [(3, .mp 6), (5, .any), (9, .int .i64 i), (10, .any), (11, .any), (12, .any), (13, .any), (14, .any), (15, .any), (16, .any), (17, .any), (18, .any), (19, .any)])
  (fun i => [(6, .map (mapUN (nodesK l) i))]) 0 (by omega) ?_ fun i hi => ?_
 ·simp only [go_sem]
  exact ZU (by simp [go_sem]) (by simp [go_sem, mapUN, mapUpto]) (by simp only [go_sem])
 simp only [go_sem]
 refine wG tK ?_
 refine wD (fun h => ?_) (fun h => ?_)
 ·have hlt : i < l.length := by simp at h; omega
  have hg : (l.map ZK).getD i [] = ZK (l.getD i default) := Fam.getD hlt
  have hw := wi1 (i := i) (by omega)
  have hnd : (nodesK l).getD i default = (l.getD i default).node := by
   unfold nodesK
   rw [List.getD_eq_getElem?_getD, List.getElem?_map, List.getD_eq_getElem?_getD, List.getElem?_eq_getElem hlt]; rfl
  have hput : mapUN (nodesK l) (i + 1) = mput (mapUN (nodesK l) i) ((nodesK l).getD i default).fid (.agg (ZN ((nodesK l).getD i default))) := rfl
  rw [hnd] at hput
  generalize l.getD i default = n at *
  refine wGq tK ?_ ?_ (by simp only [go_sem, hg, ZK, hw]; try exact rfl)
  ·simp [hg, ZK, hlt, AV.deepB, AV.pureB]
  refine ZB ⟨i + 1, by omega, by omega, ZU ?_ ?_ ?_⟩
  ·simp [go_sem]
  ·simp [go_sem, hput, ZN]
  ·simp only [go_sem]
 ·have e : i = l.length := by simp at h; omega
  subst e
  have hN : mapN (nodesK l) = mapUN (nodesK l) l.length := by unfold mapN nodesK; rw [List.length_map]
  rw [hN]
  refine wG tK ?_
  refine cw_freezeM 6 rfl ?_
  simp only [go_sem]
  refine wT ?_
  rfl
theorem of_rm (l : List Node) (hlen : l.length ≤ 100000000) : FnOK Tryz.prog 20 [.sl (l.map ZN)] [] (fun r _ => r = .rm (mN (mapD l))) := by
 rw [← mapN_eq]
 refine ZF tK (Tryz.func20) rfl (fun C => ?_)
 simp only [Tryz.ntmps20, Tryz.results20, go_sem]
 refine wG tK ?_
 refine ZL (fun i : Nat => i ≤ l.length) (fun i => l.length - i) (fun i => [(3, .mp 6), (5, .any), (9, .int .i64 i), (10, .any), (11, .any), (12, .any), (13, .any), (14, .any), (15, .any), (16, .any), (17, .any)])
  (fun i => [(6, .map (mapUN l i))]) 0 (by omega) ?_ fun i hi => ?_
 ·simp only [go_sem]
  exact ZU (by simp [go_sem]) (by simp [go_sem, mapUN, mapUpto]) (by simp only [go_sem])
 simp only [go_sem]
 refine wG tK ?_
 refine wD (fun h => ?_) (fun h => ?_)
 ·have hlt : i < l.length := by simp at h; omega
  have hg : (l.map ZN).getD i [] = ZN (l.getD i default) := Fam.getD hlt
  have hw := wi1 (i := i) (by omega)
  have hput : mapUN l (i + 1) = mput (mapUN l i) (l.getD i default).fid (.agg (ZN (l.getD i default))) := rfl
  generalize l.getD i default = n at *
  refine wGq tK ?_ ?_ (by simp only [go_sem, hg, ZN, hw]; try exact rfl)
  ·simp [hg, ZN, hlt, AV.deepB, AV.pureB]
  refine ZB ⟨i + 1, by omega, by omega, ZU ?_ ?_ ?_⟩
  ·simp [go_sem]
  ·simp [go_sem, hput, ZN]
  ·simp only [go_sem]
 ·have e : i = l.length := by simp at h; omega
  subst e
  unfold mapN
  refine wG tK ?_
  refine cw_freezeM 6 rfl ?_
  simp only [go_sem]
  refine wT ?_
  rfl
end La
namespace Go.Eng
section
variable {P : Program} {T : Tab} {C : Ctx} {σ σ' : St} {μ : Nat → Option Nat} {S : Nat → Prop} {a : Act} {w : World} {Ret : St → Prop} {k : List It}
def mv1 (p q : Nat) : AV → AV
 | .osl id s o l => if id = p then .osl q s o l else .osl id s o l
 | .ptr id s r o => if id = p then .ptr q s r o else .ptr id s r o
 | x => kill p x
theorem le_mv (p q : Nat) {e s : Nat} {rows : List (List AV)} {H' : List (Nat × Blk)} {l' : List AV} (hb : hget σ.hp p = some (.cells e s rows) := by simp only [go_sem]; exact rfl) (hq : hget σ.hp q = none := by simp only [go_sem]; try exact rfl) (hr : refsB (.cells e s rows) = [] := by simp only [go_sem]; try exact rfl)
  (hH : hdel σ.hp p = H' := by simp only [go_sem, hdel]; exact rfl) (hf : (H'.all fun x => !(refsB x.2).contains p) = true := by simp only [go_sem]; try exact rfl) (ht : σ.tm.map (mv1 p q) = l' := by simp only [go_sem, mv1, kill]; exact rfl) : Le C σ ⟨l', (q, .cells e s rows) :: H'⟩ := by
 subst hH ht
 intro a w ⟨μ, S, hi⟩
 have hne : p ≠ q := fun h => by subst h; rw [hb] at hq; cases hq
 have hmq : μ q = none := by
  cases h : μ q with
  | none => rfl
  | some g => obtain ⟨⟨b, h1⟩, _⟩ := hi.dom q g h; rw [hq] at h1; cases h1
 let ν : Nat → Option Nat := fun i => if i = q then μ p else if i = p then none else μ i
 have hνq : ν q = μ p := by simp [ν]
 have hν : ∀ i, i ≠ p → i ≠ q → ν i = μ i := fun i h1 h2 => by simp [ν, h1, h2]
 have hm : ∀ i, i ≠ p → ∀ g, μ i = some g → ν i = some g := fun i h g hg => by
  rw [hν i h (fun e => by subst e; rw [hmq] at hg; cases hg)]; exact hg
 have hv : ∀ i g, ν i = some g → (i = q ∧ μ p = some g) ∨ (i ≠ p ∧ i ≠ q ∧ μ i = some g) := fun i g h => by
  simp only [ν] at h
  split at h
  ·exact .inl ⟨by assumption, h⟩
  ·split at h
   ·cases h
   ·exact .inr ⟨by assumption, by assumption, h⟩
 have hkill : ∀ {v : Value} {y : AV}, Rd μ S w v y → Rd ν S w v (kill p y) := fun {v y} h => by
  unfold kill
  split
  ·exact .any v
  ·rename_i hc
   exact h.less fun id hid g hg => hm id (fun e => by subst e; exact hc (by simpa using hid)) g hg
 refine ⟨ν, S, by simpa using hi.size, hi.defers, fun t x hx => ?_, fun id b hb' => ?_, fun id g hg => ?_, fun i j g h1 h2 => ?_, hi.frm, hi.sb⟩
 ·simp only [List.getElem?_map] at hx
  obtain ⟨y, hy, rfl⟩ := Option.map_eq_some_iff.1 hx
  have h := hi.tm t y hy
  cases y with
  | osl id s' o n =>
   simp only [mv1]
   split
   ·rename_i e
    subst e
    obtain ⟨A, cap, e1, hc, hor⟩ := h.inv_osl
    rw [e1]
    refine .osl q s' o n cap A hc ?_
    rcases hor with h | ⟨g, e2, m, k1, k2, k3, k4⟩
    ·exact .inl h
    ·exact .inr ⟨g, e2, m, hνq.trans k1, k2, k3, k4⟩
   ·rename_i e
    exact h.less fun i hid g hg => hm i (fun e' => by simp only [refs, List.mem_singleton] at hid; exact e (hid.symm.trans e')) g hg
  | ptr id s' r o =>
   simp only [mv1]
   split
   ·rename_i e
    subst e
    obtain ⟨g, k1, e1⟩ := h.inv_ptr
    rw [e1]
    exact .ptr q s' r o g (hνq.trans k1)
   ·rename_i e
    exact h.less fun i hid g hg => hm i (fun e' => by simp only [refs, List.mem_singleton] at hid; exact e (hid.symm.trans e')) g hg
  | _ => exact hkill h
 ·simp only [hget] at hb'
  split at hb'
  ·rename_i e'
   injection hb' with hb'
   subst e' hb'
   have hk := hi.hp p _ hb
   rcases hk with ⟨k1, k2⟩ | ⟨g, c, k1, k2, k3, k4, k5⟩
   ·exact .inl ⟨k1, hνq.trans k2⟩
   ·refine .inr ⟨g, c, hνq.trans k1, k2, k3, k4, fun i row hi' j x hx => (k5 i row hi' j x hx).less fun id hid g' hg' => ?_⟩
    have : id ∈ refsB (.cells e s rows) := List.mem_flatMap.2 ⟨row, List.mem_of_getElem? hi', refsL_mem hx hid⟩
    rw [hr] at this
    cases this
  ·rename_i hq'
   have hb2 := hb'
   rw [hget_hdel] at hb'
   split at hb'
   ·cases hb'
   ·rename_i hp'
    refine (hi.hp id b hb').less (hν id (fun e => hp' e.symm) (fun e => hq' e.symm)) fun i hid g hg => hm i (fun e => ?_) g hg
    subst e
    have := List.all_eq_true.1 hf _ (hget_mem hb2)
    simp at this
    exact this hid
 ·rcases hv id g hg with ⟨rfl, h⟩ | ⟨h1, h2, h⟩
  ·exact ⟨⟨_, by simp only [hget, if_true]; rfl⟩, (hi.dom p g h).2⟩
  ·obtain ⟨⟨b, hb1⟩, h3⟩ := hi.dom id g h
   exact ⟨⟨b, by simp only [hget, if_neg (fun e : q = id => h2 e.symm), hget_hdel, if_neg (fun e : p = id => h1 e.symm)]; exact hb1⟩, h3⟩
 ·rcases hv i g h1 with ⟨rfl, k⟩ | ⟨k1, k2, k⟩ <;> rcases hv j g h2 with ⟨rfl, m⟩ | ⟨m1, m2, m⟩
  ·rfl
  ·exact absurd (hi.inj p j g k m) (fun e => m1 e.symm)
  ·exact absurd (hi.inj i p g k m) k1
  ·exact hi.inj i j g k m
theorem draw_earlyM (r : Nat) (p q : List Nat) {ops ops' : Array Oper} {Q : Exit → Act → World → Prop} {o : Oper} {x : Operand} (ho : ops[r]? = some o) (hop : o.op = .move x) (hg : o.guard = none)
  (hQ : ∀ c a w, ¬ Q (.panic c) a w) (h1 : remOK r p q ops = true) (h2 : firstOK r o ops = true) (he : (remOps r p q ops.toList).toArray = ops') {y : AV} (hx : evS σ x = (True, y))
  (hk : DrawOK P C ops' Q 0 (σ.put o.dst y)) : DrawOK P C ops Q 0 σ := by
 subst he
 have hF := rem_facts h1
 have hrl := hF.rl
 have hpl := hF.pl
 intro a w ⟨μ, S, hi⟩
 have hv := hi.evS x (by rw [hx]; trivial)
 rw [hx] at hv
 obtain ⟨u, hr, hu⟩ : ∃ u, Rd μ S w u y ∧ u = a.eval x := ⟨_, hv, rfl⟩
 have hrel : Rel C (σ.put o.dst y) (a.put o.dst u) w := ⟨μ, S, hi.put o.dst hr⟩
 have hk' := hk _ _ hrel
 have hs : (remOps r p q ops.toList).toArray.size + 1 = ops.size := by simp [remOps, hpl]
 obtain ⟨n, hn⟩ : ∃ n, ops.size = n + 1 := ⟨ops.size - 1, by omega⟩
 have hsz : (remOps r p q ops.toList).toArray.size = n := by omega
 unfold firstOK at h2
 rw [Bool.and_eq_true] at h2
 have hafter : o.after = #[] := Array.isEmpty_iff.1 h2.1
 have hd0 : ∀ (m i : Nat) (d : Bool), (doneTo m 0).getD i d = if i < m then false else d := fun m i d => by rw [doneTo_get]; simp
 rw [hn, Nat.sub_zero]
 refine wpAny_first (v := u) ho hF.sel (fun c a w hc => absurd hc (hQ c _ _)) n _ a w (fun k oj hoj hkr _ hw => ?_) (mem_ready.2 ⟨?_, o, ho, fun e he => by rw [hafter] at he; simp at he⟩) (.inl ⟨by rw [Region.wanted, hg], fun w' => ?_⟩) ?_
 ·have := List.all_eq_true.1 h2.2 k (List.mem_range.2 (Array.getElem?_eq_some_iff.1 hoj).1)
  rw [hoj] at this
  simp only [Bool.or_eq_true, beq_iff_eq, Array.any_eq_true', Bool.and_eq_true] at this
  rcases this with h | ⟨e, he, hb, hon⟩ | h
  ·exact absurd h hkr
  ·exact absurd hon (hw e he hb)
  ·exact h
 ·rw [← hn, hd0, if_pos hrl]
 ·subst hu
  simp [execOp, hop]
 ·rw [hsz, Nat.sub_zero] at hk'
  refine rem_any hF n _ _ _ _ (by simp [doneTo, hn]) (by simp [doneTo, hn]) ?_ (fun i hi => ?_) hk'
  ·rw [Array.getD_eq_getD_getElem?, Array.getElem?_setIfInBounds, if_pos rfl, if_pos (by simp [doneTo]; omega)]; rfl
  ·have e2 : ((doneTo (n + 1) 0).setIfInBounds r true).getD i false = (doneTo (n + 1) 0).getD i false := by
    rw [Array.getD_eq_getD_getElem?, Array.getElem?_setIfInBounds, if_neg (fun e => hi e.symm), ← Array.getD_eq_getD_getElem?]
   rw [e2, hd0, hd0]
   split <;> split <;> rfl
end
end Go.Eng
namespace Go.Eng
section
variable {P : Program} {T : Tab} {C : Ctx} {σ σ' : St} {μ : Nat → Option Nat} {S : Nat → Prop} {a : Act} {w : World} {Ret : St → Prop} {k : List It}
theorem draw_earlyV (r : Nat) (p q : List Nat) {ops ops' : Array Oper} {Q : Exit → Act → World → Prop} {o : Oper} (ho : ops[r]? = some o) (hg : o.guard = none)
  (hQ : ∀ c a w, ¬ Q (.panic c) a w) (h1 : remOK r p q ops = true) (h2 : firstOK r o ops = true) (he : (remOps r p q ops.toList).toArray = ops') {y : AV}
  (hx : ∀ μ S a w, Inv C μ S σ a w → ∃ u, (∀ w', (execOp a.eval o).run P w' = .ok (.value u) w') ∧ Rd μ S w u y)
  (hk : DrawOK P C ops' Q 0 (σ.put o.dst y)) : DrawOK P C ops Q 0 σ := by
 subst he
 have hF := rem_facts h1
 have hrl := hF.rl
 have hpl := hF.pl
 intro a w ⟨μ, S, hi⟩
 obtain ⟨u, hu, hr⟩ := hx μ S a w hi
 have hrel : Rel C (σ.put o.dst y) (a.put o.dst u) w := ⟨μ, S, hi.put o.dst hr⟩
 have hk' := hk _ _ hrel
 have hs : (remOps r p q ops.toList).toArray.size + 1 = ops.size := by simp [remOps, hpl]
 obtain ⟨n, hn⟩ : ∃ n, ops.size = n + 1 := ⟨ops.size - 1, by omega⟩
 have hsz : (remOps r p q ops.toList).toArray.size = n := by omega
 unfold firstOK at h2
 rw [Bool.and_eq_true] at h2
 have hafter : o.after = #[] := Array.isEmpty_iff.1 h2.1
 have hd0 : ∀ (m i : Nat) (d : Bool), (doneTo m 0).getD i d = if i < m then false else d := fun m i d => by rw [doneTo_get]; simp
 rw [hn, Nat.sub_zero]
 refine wpAny_first (v := u) ho hF.sel (fun c a w hc => absurd hc (hQ c _ _)) n _ a w (fun k oj hoj hkr _ hw => ?_) (mem_ready.2 ⟨?_, o, ho, fun e he => by rw [hafter] at he; simp at he⟩) (.inl ⟨by rw [Region.wanted, hg], hu⟩) ?_
 ·have := List.all_eq_true.1 h2.2 k (List.mem_range.2 (Array.getElem?_eq_some_iff.1 hoj).1)
  rw [hoj] at this
  simp only [Bool.or_eq_true, beq_iff_eq, Array.any_eq_true', Bool.and_eq_true] at this
  rcases this with h | ⟨e, he, hb, hon⟩ | h
  ·exact absurd h hkr
  ·exact absurd hon (hw e he hb)
  ·exact h
 ·rw [← hn, hd0, if_pos hrl]
 ·rw [hsz, Nat.sub_zero] at hk'
  refine rem_any hF n _ _ _ _ (by simp [doneTo, hn]) (by simp [doneTo, hn]) ?_ (fun i hi => ?_) hk'
  ·rw [Array.getD_eq_getD_getElem?, Array.getElem?_setIfInBounds, if_pos rfl, if_pos (by simp [doneTo]; omega)]; rfl
  ·have e2 : ((doneTo (n + 1) 0).setIfInBounds r true).getD i false = (doneTo (n + 1) 0).getD i false := by
    rw [Array.getD_eq_getD_getElem?, Array.getElem?_setIfInBounds, if_neg (fun e => hi e.symm), ← Array.getD_eq_getD_getElem?]
   rw [e2, hd0, hd0]
   split <;> split <;> rfl
theorem slice_any (hT : TabOK P T) {o : Oper} {t e : TypeId} {x : Operand} {lo hi' : Option Operand} (ho : o.op = .slice t x lo hi' none) (ht : T.und t = .sl e) {id s off len l h : Nat} (hs : T.siz e = s) (hz : s ≠ 0) (hx : evS σ x = (True, .osl id s off len))
  (hlo : (lo = none ∧ l = 0) ∨ ∃ q, lo = some q ∧ ∃ kk, evS σ q = (True, .int kk (l : Nat))) (hhi : (hi' = none ∧ h = len) ∨ ∃ q, hi' = some q ∧ ∃ kk, evS σ q = (True, .int kk (h : Nat))) (hlh : l ≤ h) (hhl : h ≤ len) :
  ∀ μ S a w, Inv C μ S σ a w → ∃ u, (∀ w', (execOp a.eval o).run P w' = .ok (.value u) w') ∧ Rd μ S w u (.osl id s (off + l) (h - l)) := by
 intro μ S a w hi
 have hu := hT.und t
 rw [ht] at hu
 simp only [KDOK] at hu
 have hv := hi.evS x (by rw [hx]; trivial)
 rw [hx] at hv
 obtain ⟨A, cap, hA, hc, hor⟩ := hv.inv_osl
 have k1 : BoundIs (lo.map a.eval) 0 l := by
  rcases hlo with ⟨rfl, rfl⟩ | ⟨q, rfl, kk, hq⟩
  ·rfl
  ·have := hi.evS q (by rw [hq]; trivial)
   rw [hq] at this
   exact ⟨kk, this.inv_int⟩
 have k2 : BoundIs (hi'.map a.eval) len h := by
  rcases hhi with ⟨rfl, rfl⟩ | ⟨q, rfl, kk, hq⟩
  ·rfl
  ·have := hi.evS q (by rw [hq]; trivial)
   rw [hq] at this
   exact ⟨kk, this.inv_int⟩
 have hrun : ∀ w', (Instr.sliceAt t (.slice A len cap) (lo.map a.eval) (hi'.map a.eval) none).run P w' = .ok (.slice (if cap = l then A else A.map (·.add (l * T.siz e))) (h - l) (cap - l)) w' := fun w' => by
  simp [Instr.sliceAt, Instr.slice, run_underlying hu, run_bounds (P := P) (w := w') true len cap l h (lo.map a.eval) (hi'.map a.eval) k1 k2 hlh (by omega), sizeOf_of hT (by rw [hs]; exact hz)]
 refine ⟨.slice (if cap = l then A else A.map (·.add (l * T.siz e))) (h - l) (cap - l), fun w' => ?_, .osl id s (off + l) (h - l) (cap - l) _ (by omega) ?_⟩
 ·have := hrun w'
  simp only [execOp, ho]
  rw [hA]
  simp [this]
 ·rcases hor with ⟨j1, j2⟩ | ⟨g, e', n, j1, rfl, j3, j4⟩
  ·exact .inl ⟨by omega, by omega⟩
  ·by_cases hcl : cap = l
   ·exact .inl ⟨by omega, by omega⟩
   ·refine .inr ⟨g, e', n, j1, ?_, j3, ?_⟩
    ·rw [if_neg hcl]; simp [add_plain, hs, Nat.add_mul]
    ·rw [show off + l + (cap - l) = off + cap from by omega]; exact j4
theorem add_any {o : Oper} {t ty : TypeId} {x y : Operand} (ho : o.op = .binOp .add t x y ty) {kk : IntKind} {m n : Int} (hx : evS σ x = (True, .int kk m)) (hy : evS σ y = (True, .int kk n)) :
  ∀ μ S a w, Inv C μ S σ a w → ∃ u, (∀ w', (execOp a.eval o).run P w' = .ok (.value u) w') ∧ Rd μ S w u (.int kk (kk.wrap (m + n))) := by
 intro μ S a w hi
 have h1 := hi.evS x (by rw [hx]; trivial)
 have h2 := hi.evS y (by rw [hy]; trivial)
 rw [hx] at h1
 rw [hy] at h2
 refine ⟨.int kk (kk.wrap (m + n)), fun w' => ?_, .pure (.int _ _)⟩
 simp only [execOp, ho]
 rw [h1.inv_int, h2.inv_int]
 simp [eqGuard_at_int, binOp, Op.intArith]
theorem le_drop (q : Nat) {H' : List (Nat × Blk)} {l' : List AV} (hH : hdel σ.hp q = H' := by simp only [go_sem, hdel]; exact rfl) (hf : (H'.all fun x => !(refsB x.2).contains q) = true := by simp only [go_sem]; try exact rfl) (ht : σ.tm.map (kill q) = l' := by simp only [go_sem, kill]; exact rfl) : Le C σ ⟨l', H'⟩ := by
 subst hH ht
 intro a w ⟨μ, S, hi⟩
 let ν : Nat → Option Nat := fun i => if i = q then none else μ i
 have hm : ∀ i, i ≠ q → ∀ g, μ i = some g → ν i = some g := fun i h g hg => by simp [ν, h, hg]
 have hv : ∀ i g, ν i = some g → i ≠ q ∧ μ i = some g := fun i g h => by
  simp only [ν] at h
  split at h
  ·cases h
  ·exact ⟨by assumption, h⟩
 refine ⟨ν, S, by simpa using hi.size, hi.defers, fun t x hx => ?_, fun id b hb' => ?_, fun id g hg => ?_, fun i j g h1 h2 => ?_, hi.frm, hi.sb⟩
 ·simp only [List.getElem?_map] at hx
  obtain ⟨y, hy, rfl⟩ := Option.map_eq_some_iff.1 hx
  have h := hi.tm t y hy
  unfold kill
  split
  ·exact .any _
  ·rename_i hc
   exact h.less fun id hid g hg => hm id (fun e => by subst e; exact hc (by simpa using hid)) g hg
 ·have hb2 := hb'
  rw [hget_hdel] at hb'
  split at hb'
  ·cases hb'
  ·rename_i hq'
   refine (hi.hp id b hb').less (by simp only [ν]; rw [if_neg (fun e => hq' e.symm)]) fun i hid g hg => hm i (fun e => ?_) g hg
   subst e
   have := List.all_eq_true.1 hf _ (hget_mem hb2)
   simp at this
   exact this hid
 ·obtain ⟨h1, h2⟩ := hv id g hg
  obtain ⟨⟨b, hb1⟩, h3⟩ := hi.dom id g h2
  exact ⟨⟨b, by rw [hget_hdel, if_neg (fun e => h1 e.symm)]; exact hb1⟩, h3⟩
 ·exact hi.inj i j g (hv i g h1).2 (hv j g h2).2
def DrawD (P : Program) (C : Ctx) (ops : Array Oper) (Q : Exit → Act → World → Prop) (n : Nat) (L : Array Bool) (σ : St) : Prop := ∀ a w, Rel C σ a w → wpAny P .any ops Q n L a w
theorem drawD {ops : Array Oper} {Q : Exit → Act → World → Prop} {n : Nat} {L : Array Bool} (hn : ops.size = n) (hL : doneTo ops.size 0 = L) (h : DrawD P C ops Q n L σ) : DrawOK P C ops Q 0 σ := by
 subst hn hL
 intro a w hr
 rw [Nat.sub_zero]
 exact h a w hr
theorem drawD_end {ops : Array Oper} {L : Array Bool} (hr : Region.ready .any ops L = []) (h : Cw P C Ret k σ) : DrawD P C ops (aft (RetOf C Ret) (sem P C (RetOf C Ret) k)) 0 L σ := fun a w hrel => ⟨hr, h a w hrel⟩
theorem YD {ops : Array Oper} {Q : Exit → Act → World → Prop} {n i : Nat} {L L' : Array Bool} {o : Oper} (hr : Region.ready .any ops L = [i]) (hL : L.setIfInBounds i true = L') (ho : ops[i]? = some o) (ht : TripG P C ops o σ σ') (h : DrawD P C ops Q n L' σ') : DrawD P C ops Q (n + 1) L σ := fun a w hrel => by
 subst hL
 refine ⟨fun h0 => (by rw [hr] at h0; cases h0), fun j hj => ?_⟩
 rw [hr, List.mem_singleton] at hj
 subst hj
 exact drawn_op ho ht hrel fun a' w' hr' => h a' w' hr'
theorem drawD_two {ops : Array Oper} {Q : Exit → Act → World → Prop} {n i j : Nat} {L L1 L2 : Array Bool} {o1 o2 : Oper} {σ1 σ2 : St} (hr : Region.ready .any ops L = [i, j]) (hL1 : L.setIfInBounds i true = L1) (hL2 : L.setIfInBounds j true = L2) (ho1 : ops[i]? = some o1) (ho2 : ops[j]? = some o2)
  (ht1 : TripG P C ops o1 σ σ1) (ht2 : TripG P C ops o2 σ σ2) (h1 : DrawD P C ops Q n L1 σ1) (h2 : DrawD P C ops Q n L2 σ2) : DrawD P C ops Q (n + 1) L σ := fun a w hrel => by
 subst hL1 hL2
 refine ⟨fun h0 => (by rw [hr] at h0; cases h0), fun m hm => ?_⟩
 rw [hr] at hm
 rcases List.mem_cons.1 hm with rfl | hm
 ·exact drawn_op ho1 ht1 hrel fun a' w' hr' => h1 a' w' hr'
 ·rw [List.mem_singleton] at hm
  subst hm
  exact drawn_op ho2 ht2 hrel fun a' w' hr' => h2 a' w' hr'
theorem YT (hT : TabOK P T) {ops : Array Oper} {o : Oper} (hg : o.guard = none) {p : Prop} (h : stepOp T σ o.dst o.op = some (p, σ')) (hp : p) : TripG P C ops o σ σ' := fun a w K Q' hr hK => by
 obtain ⟨μ, S, hi⟩ := hr
 rw [wanted_of hi (show guardOf ops σ o.guard = some true from by rw [hg]; rfl)]
 exact .inl (step_sound hT o h hp a w K Q' ⟨μ, S, hi⟩ hK)
end
end Go.Eng
namespace La
open Go Go.Eng Go.Proofs
theorem keptRow_refs {p : Kept} {x : AV} (h : x ∈ ZK p) : refs x = [] := by
 simp only [ZK, List.mem_cons, List.not_mem_nil, or_false] at h
 rcases h with rfl | rfl | rfl | rfl | rfl | rfl | rfl | rfl <;> rfl
def wK (k x : Kept) : Kept := { k with worth := maxI k.worth x.worth }
def rkS (k : Kept) (q : Bool × List Kept) (x : Kept) : Bool × List Kept := if (x.node.fid == k.node.fid && !q.1) = true then (true, q.2 ++ [wK k x]) else (q.1, q.2 ++ [x])
def rkT (k : Kept) (l : List Kept) : Bool × List Kept := l.foldl (rkS k) (false, [])
theorem rkT_snoc (k : Kept) (l : List Kept) (x : Kept) : rkT k (l ++ [x]) = rkS k (rkT k l) x := by unfold rkT; rw [List.foldl_append]; rfl
theorem rkT_len (k : Kept) (l : List Kept) : (rkT k l).2.length = l.length := by
 have : ∀ (l : List Kept) (q : Bool × List Kept), (l.foldl (rkS k) q).2.length = q.2.length + l.length := fun l => by
  induction l with
  | nil => intro q; rfl
  | cons x r ih => intro q; rw [List.foldl_cons, ih]; unfold rkS; split <;> simp <;> omega
 have := this l (false, [])
 simpa [rkT] using this
theorem rkS_true (k : Kept) : ∀ (l acc : List Kept), l.foldl (rkS k) (true, acc) = (true, acc ++ l)
 | [], acc => by simp
 | x :: r, acc => by rw [List.foldl_cons, show rkS k (true, acc) x = (true, acc ++ [x]) from by simp [rkS], rkS_true k r]; simp
theorem rkS_false (k : Kept) : ∀ (l acc : List Kept), l.foldl (rkS k) (false, acc) = match kplace l k.node.fid with
  | none => (false, acc ++ l)
  | some i => (true, acc ++ l.set i (wK k (l.getD i default)))
 | [], acc => by simp [kplace]
 | x :: r, acc => by
  rw [List.foldl_cons]
  by_cases h : x.node.fid = k.node.fid
  ·rw [show rkS k (false, acc) x = (true, acc ++ [wK k x]) from by simp [rkS, h], rkS_true]
   have : kplace (x :: r) k.node.fid = some 0 := by unfold kplace; rw [List.findIdx?_cons]; simp [h]
   rw [this]
   simp
  ·rw [show rkS k (false, acc) x = (false, acc ++ [x]) from by simp [rkS, h], rkS_false k r]
   have : kplace (x :: r) k.node.fid = (kplace r k.node.fid).map (· + 1) := by unfold kplace; rw [List.findIdx?_cons]; simp [h]
   rw [this]
   cases kplace r k.node.fid <;> simp
theorem rkT_keep (k : Kept) (l : List Kept) : rkT k l = match kplace l k.node.fid with
  | none => (false, l)
  | some i => (true, l.set i (wK k (l.getD i default))) := by
 unfold rkT
 rw [rkS_false]
 cases kplace l k.node.fid <;> simp
theorem keepK_some {l : List Kept} {room : Int} {k : Kept} (h : (rkT k l).1 = true) : keepK l room k = some (rkT k l).2 := by
 unfold keepK
 rw [rkT_keep] at h ⊢
 cases e : kplace l k.node.fid with
 | none => rw [e] at h; cases h
 | some i => rfl
theorem keepK_none {l : List Kept} {room : Int} {k : Kept} (h : (rkT k l).1 = false) : (rkT k l).2 = l ∧ keepK l room k = (shrinkK room (l.length + 1) l).map fun L => L ++ [k] := by
 unfold keepK
 rw [rkT_keep] at h ⊢
 cases e : kplace l k.node.fid with
 | none => exact ⟨rfl, rfl⟩
 | some i => rw [e] at h; cases h
theorem rkeep_raw (l : List Kept) (room : Int) (k : Kept) (hl : l.length ≤ 90000000) : FnOK Tryz.prog 108 [.sl (l.map ZK), .int .i64 room, .agg (ZK k)] [] (fun r _ => r = keepRn l room k) := by
 unfold keepRn
 have hz : rkT k (l.take l.length) = rkT k l := by rw [List.take_length]
 refine ZF tK (Tryz.func108) rfl (fun C => ?_)
 simp only [Tryz.ntmps108, Tryz.results108, go_sem]
 refine wGq tK ?_ ?_ (by simp only [go_sem, ZK]; try exact rfl)
 ·simp
 refine cw_le (le_empty 46 113 8 (by simp only [go_sem]; try exact rfl)) ?_
 simp only [go_sem]
 refine ZL (fun i : Nat => i ≤ l.length) (fun i => l.length - i) (fun i => [(8, .osl 46 8 0 i), (9, .bool (rkT k (l.take i)).1), (11, .any), (12, .any), (18, .int .i64 i), (19, .any), (20, .any), (21, .any), (22, .any), (23, .any), (24, .any), (25, .any), (26, .any), (27, .any), (28, .any), (29, .any), (30, .any), (31, .any), (32, .any), (33, .any), (34, .any), (35, .any), (36, .any), (37, .any), (38, .any), (39, .any), (40, .any), (41, .any), (42, .any), (43, .any), (44, .any), (45, .any), (46, .any), (47, .any)]) (fun i => [(46, .cells 113 8 ((rkT k (l.take i)).2.map ZK))]) 0 (by omega) ?_ fun i hi => ?_
 ·simp only [go_sem]
  exact ZU (by simp [go_sem, rkT]) (by simp [go_sem, rkT]) (by simp [go_sem])
 simp only [go_sem]
 refine wG tK ?_
 refine wD (fun h => ?_) (fun h => ?_)
 ·have hlt : i < l.length := by simp at h; omega
  have hg : (l.map ZK).getD i [] = ZK (l.getD i default) := Fam.getD hlt
  have hw := wi1 (i := i) (by omega)
  have htk : rkT k (l.take (i + 1)) = rkS k (rkT k (l.take i)) (l.getD i default) := by rw [ZT hlt, rkT_snoc]
  have hql := rkT_len k (l.take i)
  rw [List.length_take, Nat.min_eq_left hi] at hql
  generalize l.getD i default = x at hg htk
  generalize rkT k (l.take i) = q at *
  unfold rkS at htk
  have htq : List.take i (q.2.map ZK) = q.2.map ZK := List.take_of_length_le (by simp [hql])
  refine wR ?_
  refine wNq tK 4 ?_ ?_ (by simp only [go_sem]; exact rfl) (by simp only [go_sem]; exact rfl) (by simp only [go_sem, hg, ZK]; try exact rfl)
  ·simp [hg, ZK, hlt]
  cases hb : (x.node.fid == k.node.fid && !q.1) with
  | true =>
   rw [hb, if_pos rfl] at htk
   rw [Bool.and_eq_true] at hb
   refine wG tK ?_
   refine wDT (hb := (by simp [hb.1, hb.2])) (hk := ?_)
   refine wG tK ?_
   refine wD (fun h => ?_) (fun h => ?_)
   ·have hm : maxI k.worth x.worth = x.worth := by unfold maxI; rw [if_pos (by simpa using h)]
    refine wGq tK ?_ ?_ (by simp only [go_sem, hw]; try exact rfl)
    ·simp [htq, refs, hql]
     exact ⟨by intro row h; simp at h; subst h; rfl, by omega, fun x _ y hy => by rw [keptRow_refs hy]; simp⟩
    refine ZB ⟨i + 1, by omega, by omega, ZU ?_ ?_ ?_⟩
    ·simp [go_sem, htk]
    ·simp [go_sem, htk, htq, ZK, wK, hm]
    ·simp [go_sem]
   ·have hm : maxI k.worth x.worth = k.worth := by unfold maxI; rw [if_neg (by simpa using h)]
    refine wGq tK ?_ ?_ (by simp only [go_sem, hw]; try exact rfl)
    ·simp [htq, refs, hql]
     exact ⟨by intro row h; simp at h; subst h; rfl, by omega, fun x _ y hy => by rw [keptRow_refs hy]; simp⟩
    refine ZB ⟨i + 1, by omega, by omega, ZU ?_ ?_ ?_⟩
    ·simp [go_sem, htk]
    ·simp [go_sem, htk, htq, ZK, wK, hm]
    ·simp [go_sem]
  | false =>
   rw [hb, if_neg Bool.false_ne_true] at htk
   refine wG tK ?_
   refine wDF (hb := (by simpa [show ∀ a b : Bool, (bif a then b else false) = (a && b) from fun a b => by cases a <;> rfl] using hb)) (hk := ?_)
   refine wGq tK ?_ ?_ (by simp only [go_sem, hw]; try exact rfl)
   ·simp [htq, refs, hql]
    exact ⟨by intro row h; simp at h; subst h; rfl, by omega, fun x _ y hy => by rw [keptRow_refs hy]; simp⟩
   refine ZB ⟨i + 1, by omega, by omega, ZU ?_ ?_ ?_⟩
   ·simp [go_sem, htk]
   ·simp [go_sem, htk, htq, ZK]
   ·simp [go_sem]
 have e : i = l.length := by simp at h; omega
 subst e
 rw [hz]
 clear hz h
 have hql := rkT_len k l
 cases hb : (rkT k l).1 with
 | true =>
  rw [keepK_some hb]
  refine wG tK ?_
  refine wDT (hb := (by simp)) (hk := ?_)
  refine wG tK ?_
  refine ZZ 46 rfl (keptRow_pure _) ?_
  simp only [go_sem]
  refine wT ?_
  simp [hql]
  exact List.take_of_length_le (by simp [hql])
 | false =>
  obtain ⟨h1, h2⟩ := keepK_none (room := room) hb
  rw [h1, h2]
  rw [h1] at hql
  clear hi h1 h2
  refine wG tK ?_
  refine wDF (hb := (by simp)) (hk := ?_)
  refine wG tK ?_
  refine ZL (fun L : List Kept => shrinkK room (L.length + 1) L = shrinkK room (l.length + 1) l ∧ L.length ≤ l.length) (fun L => L.length) (fun L => [(8, .osl 46 8 0 L.length), (13, .any), (14, .any), (15, .any), (50, .any), (51, .any), (52, .any), (53, .any), (54, .any), (55, .any), (56, .any), (57, .any), (58, .any), (59, .any), (60, .any), (61, .any), (62, .any), (63, .any), (64, .any), (65, .any), (66, .any), (67, .any), (68, .any), (69, .any), (70, .any), (71, .any), (72, .any), (73, .any), (74, .any), (75, .any), (76, .any), (77, .any), (78, .any), (79, .any), (80, .any), (81, .any), (82, .any), (83, .any), (84, .any), (85, .any), (86, .any), (87, .any), (88, .any), (89, .any), (90, .any), (91, .any), (92, .any), (93, .any), (94, .any), (95, .any)]) (fun L => [(46, .cells 113 8 (L.map ZK))]) l ⟨rfl, Nat.le_refl _⟩ ?_ fun L hL => ?_
  ·simp only [go_sem]
   exact ZU (by simp [go_sem]) (by simp [go_sem]) (by simp [go_sem])
  obtain ⟨hsh, hLl⟩ := hL
  rw [← hsh]
  simp only [go_sem]
  refine wG tK ?_
  refine wD (fun h => ?_) (fun h => ?_)
  ·have hge : (L.length : Int) ≥ room := by simpa using h
   refine wG tK ?_
   refine ZL (fun j : Nat => j ≤ L.length) (fun j => L.length - j) (fun j => [(13, .int .i64 (idxI (worstAt L j))), (14, .any), (15, .any), (56, .int .i64 j), (57, .any), (58, .any), (59, .any), (60, .any), (61, .any), (62, .any), (63, .any), (64, .any), (65, .any), (66, .any), (67, .any), (68, .any), (69, .any), (70, .any), (71, .any), (72, .any), (73, .any), (74, .any), (75, .any), (76, .any), (77, .any), (78, .any), (79, .any), (80, .any), (81, .any), (82, .any), (83, .any)]) (fun _ => []) 0 (by omega) ?_ fun j hj => ?_
   ·simp only [go_sem]
    exact ZU (by simp [go_sem, worstAt, idxI]) (by simp [go_sem]) (by simp [go_sem])
   simp only [go_sem]
   refine wG tK ?_
   refine wD (fun h => ?_) (fun h => ?_)
   ·have hlt : j < L.length := by simp at h; omega
    have hg : (L.map ZK).getD j [] = ZK (L.getD j default) := Fam.getD hlt
    have hw : IntKind.i64.wrap ((j : Int) + 1) = ((j + 1 : Nat) : Int) := by rw [Eng.wrap_small (by omega) (by omega)]; rfl
    have hwa : worstAt L (j + 1) = if (L.getD j default).dirty || (L.getD j default).node.fid == 0 then worstAt L j
      else match worstAt L j with
       | none => some j
       | some b => if cmpK (L.getD j default) (L.getD b default) < 0 then some j else some b := rfl
    have hwl := worstAt_lt L j
    generalize L.getD j default = x at hg hwa
    refine wGq tK ?_ ?_ (by simp only [go_sem, hg, ZK]; try exact rfl)
    ·simp [hg, ZK, hlt]
    refine ZW ZM ?_
    refine ZS rfl ?_
    cases hd : x.dirty with
    | true =>
     rw [hd, Bool.true_or, if_pos rfl] at hwa
     refine sN tK 4 ?_ (by simp only [go_sem]; exact rfl) (by simp only [go_sem]; exact rfl) (by simp only [go_sem, hd]; try exact rfl) (by simp [go_sem, hd])
     try simp only [hd, Bool.not_true]
     iterate 3 refine sS ?_
     refine sSB ?_
     refine sN tK 2 ?_
     refine sS ?_
     refine sSB ?_
     refine sSB ?_
     iterate 5 refine sS ?_
     refine sSB ?_
     refine sSB ?_
     refine sN tK 1 ?_
     refine sE ?_
     refine wKd ?_
     try simp only [go_sem, gA, gB, gC]
     refine wD (fun h => ?_) (fun h => ?_)
     ·exfalso; simp at h
     refine wG tK ?_ (by simp only [go_sem, hw]; try exact rfl) (by simp [go_sem, hw])
     refine ZB ⟨j + 1, by omega, by omega, ZU ?_ ?_ ?_⟩
     ·simp [go_sem, hwa]
     ·simp [go_sem]
     ·simp [go_sem]
    | false =>
     by_cases hf : x.node.fid = 0
     ·have hf0 : (x.node.fid == 0) = true := by simp [hf]
      have hf1 : (x.node.fid != 0) = false := by simp [hf]
      rw [hd, hf0, Bool.or_true, if_pos rfl] at hwa
      refine sN tK 10 ?_ (by simp only [go_sem]; exact rfl) (by simp only [go_sem]; exact rfl) (by simp only [go_sem, hd, hf1]; try exact rfl) (by simp [go_sem, hd, hf1])
      try simp only [hd, hf1, Bool.not_false, cond_true]
      refine sS ?_
      refine sSB ?_
      refine sSB ?_
      iterate 5 refine sS ?_
      refine sSB ?_
      refine sSB ?_
      refine sN tK 1 ?_
      refine sE ?_
      refine wKd ?_
      try simp only [go_sem, gA, gB, gC]
      refine wD (fun h => ?_) (fun h => ?_)
      ·exfalso; simp at h
      refine wG tK ?_ (by simp only [go_sem, hw]; try exact rfl) (by simp [go_sem, hw])
      refine ZB ⟨j + 1, by omega, by omega, ZU ?_ ?_ ?_⟩
      ·simp [go_sem, hwa]
      ·simp [go_sem]
      ·simp [go_sem]
     ·have hf0 : (x.node.fid == 0) = false := by simp [hf]
      have hf1 : (x.node.fid != 0) = true := by simp [hf]
      rw [hd, hf0, Bool.or_false, if_neg Bool.false_ne_true] at hwa
      cases hwb : worstAt L j with
      | none =>
       rw [hwb] at hwa
       simp only at hwa
       refine sN tK 13 ?_ (by simp only [go_sem]; exact rfl) (by simp only [go_sem]; exact rfl) (by simp only [go_sem, hd, hf1, idxI]; try exact rfl) (by simp [go_sem, hd, hf1, idxI])
       try simp only [hd, hf1, Bool.not_false, cond_true, show decide ((-1 : Int) < 0) = true from rfl, beq_self_eq_true, Bool.true_and, Bool.and_true]
       iterate 5 refine sS ?_
       refine sSB ?_
       refine sN tK 2 ?_
       refine sE ?_
       refine wKd ?_
       try simp only [go_sem, gA, gB, gC]
       refine wD (fun h => ?_) (fun h => ?_)
       ·refine wG tK ?_ (by simp only [go_sem, hw]; try exact rfl) (by simp [go_sem, hw])
        refine ZB ⟨j + 1, by omega, by omega, ZU ?_ ?_ ?_⟩
        ·simp [go_sem, hwa, idxI]
        ·simp [go_sem]
        ·simp [go_sem]
       ·exfalso; simp at h
      | some b =>
       rw [hwb] at hwa
       simp only at hwa
       have hbj := hwl b hwb
       have hgb : (L.map ZK).getD b [] = ZK (L.getD b default) := Fam.getD (by omega)
       have hneg : decide ((b : Int) < 0) = false := decide_eq_false (by omega)
       generalize L.getD b default = y at hgb hwa
       refine sN tK 13 ?_ (by simp only [go_sem]; exact rfl) (by simp only [go_sem]; exact rfl) (by simp only [go_sem, hd, hf1, idxI, hneg]; try exact rfl) (by simp [go_sem, hd, hf1, idxI, hneg])
       try simp only [hd, hf1, hneg, Bool.not_false, cond_true, beq_self_eq_true, Bool.true_and, Bool.and_true]
       refine sNq tK 5 ?_ ?_ (by simp only [go_sem]; exact rfl) (by simp only [go_sem]; exact rfl) (by simp only [go_sem, hgb, ZK]; try exact rfl)
       ·simp [hgb, ZK]
        omega
       have hws := worse_ok x y
       unfold ZK at hws
       rw [hd] at hws
       refine sCC Tryz.func125 (hf := fun hb => (hws)) (hk := ?_)
       refine sN tK 2 ?_
       refine sE ?_
       refine wKd ?_
       try simp only [go_sem, gA, gB, gC]
       refine wD (fun h => ?_) (fun h => ?_)
       ·have hc : cmpK x y < 0 := by simpa using h
        rw [if_pos hc] at hwa
        refine wG tK ?_ (by simp only [go_sem, hw]; try exact rfl) (by simp [go_sem, hw])
        refine ZB ⟨j + 1, by omega, by omega, ZU ?_ ?_ ?_⟩
        ·simp [go_sem, hwa, idxI]
        ·simp [go_sem]
        ·simp [go_sem]
       ·have hc : ¬ cmpK x y < 0 := by simpa using h
        rw [if_neg hc] at hwa
        refine wG tK ?_ (by simp only [go_sem, hw]; try exact rfl) (by simp [go_sem, hw])
        refine ZB ⟨j + 1, by omega, by omega, ZU ?_ ?_ ?_⟩
        ·simp [go_sem, hwa, idxI]
        ·simp [go_sem]
        ·simp [go_sem]
   ·have e : j = L.length := by simp at h; omega
    subst e
    have hwk : worstAt L L.length = worstK L := rfl
    rw [hwk]
    cases hwb : worstK L with
    | none =>
     have hn : shrinkK room (L.length + 1) L = none := by rw [shrinkK, if_pos hge, hwb]
     rw [hn]
     refine wG tK ?_ (by simp only [go_sem, idxI]; try exact rfl) (by simp [go_sem, idxI])
     refine wD (fun h => ?_) (fun h => ?_)
     ·refine wG tK ?_
      refine wT ?_
      rfl
     ·exfalso; simp at h
    | some b =>
     have hbl : b < L.length := worstAt_lt L L.length b hwb
     have hsh2 : shrinkK room (L.length + 1) L = shrinkK room L.length (L.eraseIdx b) := by rw [shrinkK, if_pos hge, hwb]
     have hel : (L.eraseIdx b).length + 1 = L.length := by rw [List.length_eraseIdx, if_pos hbl]; omega
     have her : L.eraseIdx b = L.take b ++ L.drop (b + 1) := List.eraseIdx_eq_take_drop_succ L b
     have hneg : decide ((b : Int) < 0) = false := decide_eq_false (by omega)
     have hwb1 : IntKind.i64.wrap ((b : Int) + 1) = ((b + 1 : Nat) : Int) := by rw [Eng.wrap_small (by omega) (by omega)]; rfl
     have hA1 : List.take b (L.map ZK) = (L.take b).map ZK := by rw [List.map_take]
     have hB1 : List.take (L.length - (b + 1)) (List.drop (b + 1) (L.map ZK)) = (L.drop (b + 1)).map ZK := by rw [← List.map_drop, List.take_of_length_le (by simp)]
     have hlA : (L.take b).length = b := by rw [List.length_take]; omega
     have hlB : (L.drop (b + 1)).length = L.length - (b + 1) := List.length_drop
     generalize L.take b = A at hA1 hlA her
     generalize L.drop (b + 1) = B at hB1 hlB her
     subst hlA
     refine wG tK ?_ (by simp only [go_sem, idxI]; try exact rfl) (by simp [go_sem, idxI])
     refine wD (fun h => ?_) (fun h => ?_)
     ·exfalso; simp at h; omega
     refine wG tK ?_
     refine ZW ZM ?_
     refine draw_earlyM 1 [0, 2, 3, 4, 5, 6, 7, 8, 9, 10] [0, 0, 1, 2, 3, 4, 5, 6, 7, 8, 9] rfl rfl rfl (fun _ _ _ h => h) (by kernel_rfl) (by kernel_rfl) (by simp [remOps, remOp, renE]; exact rfl) (by simp only [go_sem]; try exact rfl) ?_
     simp only [go_sem, gA, gB, gC]
     refine draw_earlyM 1 [0, 2, 3, 4, 5, 6, 7, 8, 9] [0, 0, 1, 2, 3, 4, 5, 6, 7, 8] rfl rfl rfl (fun _ _ _ h => h) (by kernel_rfl) (by kernel_rfl) (by simp [remOps, remOp, renE]; exact rfl) (by simp only [go_sem]; try exact rfl) ?_
     simp only [go_sem, gA, gB, gC]
     refine draw_earlyV 1 [0, 2, 3, 4, 5, 6, 7, 8] [0, 0, 1, 2, 3, 4, 5, 6, 7] rfl rfl (fun _ _ _ h => h) (by kernel_rfl) (by kernel_rfl) (by simp [remOps, remOp, renE]; exact rfl) (slice_any tK rfl rfl rfl (by decide) (by simp only [go_sem]; try exact rfl) (.inl ⟨rfl, rfl⟩) (.inr ⟨_, rfl, _, (by simp only [go_sem]; try exact rfl)⟩) (by simp [hbl, Nat.le_of_lt hbl]) (by simp [hbl, Nat.le_of_lt hbl])) ?_
     simp only [go_sem, gA, gB, gC]
     refine draw_earlyM 2 [0, 1, 3, 4, 5, 6, 7] [0, 1, 0, 2, 3, 4, 5, 6] rfl rfl rfl (fun _ _ _ h => h) (by kernel_rfl) (by kernel_rfl) (by simp [remOps, remOp, renE]; exact rfl) (by simp only [go_sem]; try exact rfl) ?_
     simp only [go_sem, gA, gB, gC]
     refine draw_earlyM 2 [0, 1, 3, 4, 5, 6] [0, 1, 0, 2, 3, 4, 5] rfl rfl rfl (fun _ _ _ h => h) (by kernel_rfl) (by kernel_rfl) (by simp [remOps, remOp, renE]; exact rfl) (by simp only [go_sem]; try exact rfl) ?_
     simp only [go_sem, gA, gB, gC]
     refine draw_earlyV 2 [0, 1, 3, 4, 5] [0, 1, 0, 2, 3, 4] rfl rfl (fun _ _ _ h => h) (by kernel_rfl) (by kernel_rfl) (by simp [remOps, remOp, renE]; exact rfl) (add_any rfl (by simp only [go_sem]; try exact rfl) (by simp only [go_sem]; try exact rfl)) ?_
     simp only [go_sem, hwb1, gA, gB, gC]
     refine draw_earlyV 2 [0, 1, 3, 4] [0, 1, 0, 2, 3] rfl rfl (fun _ _ _ h => h) (by kernel_rfl) (by kernel_rfl) (by simp [remOps, remOp, renE]; exact rfl) (slice_any tK rfl rfl rfl (by decide) (by simp only [go_sem]; try exact rfl) (.inr ⟨_, rfl, _, (by simp only [go_sem]; try exact rfl)⟩) (.inl ⟨rfl, rfl⟩) (by simp [hbl, Nat.succ_le_of_lt hbl]) (by simp [hbl, Nat.succ_le_of_lt hbl])) ?_
     simp only [go_sem, gA, gB, gC]
     refine drawD (n := 4) (by kernel_rfl) rfl ?_
     refine YD (i := 0) (by kernel_rfl) rfl rfl (YT tK rfl (by simp only [go_sem]; try exact rfl) (by simp [go_sem])) ?_
     try simp only [go_sem, hA1, hB1, gD, gE, gF, gG, hwb1, gA, gB, gC]
     refine YD (i := 1) (by kernel_rfl) rfl rfl (YT tK rfl (by simp only [go_sem, hA1, hB1, gD, gE, gF, gG, hwb1, gA, gB, gC]; try exact rfl) ?_) ?_
     ·simp [go_sem, hA1, hB1, gD, gE, gF, gG, hwb1, gA, gB, gC]
      omega
     try simp only [go_sem, hA1, hB1, gD, gE, gF, gG, hwb1, gA, gB, gC]
     refine YD (i := 2) (by kernel_rfl) rfl rfl (YT tK rfl (by simp only [go_sem, hA1, hB1, gD, gE, gF, gG, hwb1, gA, gB, gC]; try exact rfl) ?_) ?_
     ·simp [go_sem, hA1, hB1, gD, gE, gF, gG, hwb1, gA, gB, gC, hlB]
      omega
     try simp only [go_sem, hA1, hB1, gD, gE, gF, gG, hwb1, gA, gB, gC]
     refine YD (i := 3) (by kernel_rfl) rfl rfl (YT tK rfl (by simp only [go_sem]; try exact rfl) (by simp [go_sem])) ?_
     refine drawD_end (by kernel_rfl) ?_
     simp only [go_sem, gA, gB, gC]
     refine cw_le (le_drop 46) ?_
     refine cw_le (le_mv 95 46) ?_
     refine wG tK ?_
     have her2 : L.eraseIdx A.length = A ++ B := her
     have hlen2 : (A ++ B).length + 1 = L.length := by rw [← her]; exact hel
     refine ZB ⟨A ++ B, ⟨by rw [hsh2, her, hlen2], by omega⟩, by omega, ZU ?_ ?_ ?_⟩
     ·simp [go_sem, hlB]
     ·simp [go_sem, hB1]
     ·simp [go_sem]
  ·have hlt : ¬ (L.length : Int) ≥ room := by simpa using h
   have hn : shrinkK room (L.length + 1) L = some L := by rw [shrinkK, if_neg hlt]
   rw [hn]
   refine wGq tK ?_ ?_
   ·simp
    exact ⟨by intro row h; simp at h; subst h; rfl, by omega⟩
   rw [show List.map ZK L ++ [[AV.int .i64 k.node.fid, .bool k.node.dir, .sl (k.node.data.map ZY), .sl (k.node.entries.map ZE), .int .i64 k.node.version, .bool k.dirty, .int .i64 k.worth, .int .i64 k.last]] = (L ++ [k]).map ZK by simp [ZK]]
   refine ZZ 99 rfl (keptRow_pure _) ?_
   simp only [go_sem]
   refine wT ?_
   simp
   exact List.take_of_length_le (by simp)
theorem rkeep_ok (l : List Kept) (room : Int) (k : Kept) (hl : l.length ≤ 90000000) : FnOK Tryz.prog 108 [.sl (l.map ZK), .int .i64 room, .agg (ZK k)] [] (fun r _ => r = keepR l room k) := by
 have h := rkeep_raw l room k hl
 unfold keepRn at h
 unfold keepR
 cases e : keepK l room k with
 | none =>
  rw [e] at h
  exact h.nrmR rfl
 | some L =>
  rw [e] at h
  exact h
theorem rfreshK_ok (l : List Kept) (at_ : List Node) (hl : l.length ≤ 90000000) (hu : Up at_) : FnOK Tryz.prog 52 [.sl (l.map ZK), .rm (mN (mapD at_))] [] (fun r _ => r = .sl ((l.filter fun k => !staleK at_ k).map ZK)) := by
 have hgf : ∀ k, mget (mN (mapD at_)) k = (findN at_ k).map fun n => AV.agg (ZN n) := fun k => by rw [mN_get, mapD_get hu]
 refine ZF tK (Tryz.func52) rfl (fun C => ?_)
 simp only [Tryz.ntmps52, Tryz.results52, go_sem]
 refine wG tK ?_
 refine cw_le (le_empty 40 113 8 (by simp only [go_sem]; try exact rfl)) ?_
 simp only [go_sem]
 refine ZL (fun i : Nat => i ≤ l.length) (fun i => l.length - i) (fun i => [(5, .osl 40 8 0 ((l.take i).filter fun k => !staleK at_ k).length), (7, .any), (8, .any), (9, .any), (12, .int .i64 i), (13, .any), (14, .any), (15, .any), (16, .any), (17, .any), (18, .any), (19, .any), (20, .any), (21, .any), (22, .any), (23, .any), (24, .any), (25, .any), (26, .any), (27, .any), (28, .any), (29, .any), (30, .any), (31, .any), (32, .any), (33, .any), (34, .any), (35, .any), (36, .any), (37, .any), (38, .any), (39, .any), (40, .any), (41, .any)]) (fun i => [(40, .cells 113 8 (((l.take i).filter fun k => !staleK at_ k).map ZK))]) 0 (by omega) ?_ fun i hi => ?_
 ·simp only [go_sem]
  exact ZU (by simp [go_sem]) (by simp [go_sem]) (by simp [go_sem])
 simp only [go_sem]
 refine wG tK ?_
 refine wD (fun h => ?_) (fun h => ?_)
 ·have hlt : i < l.length := by simp at h; omega
  have hg : (l.map ZK).getD i [] = ZK (l.getD i default) := Fam.getD hlt
  have hw := wi1 (i := i) (by omega)
  have htk : (l.take (i + 1)).filter (fun k => !staleK at_ k) = (l.take i).filter (fun k => !staleK at_ k) ++ if staleK at_ (l.getD i default) = true then [] else [l.getD i default] := by
   rw [ZT hlt, List.filter_append, List.filter_cons]
   cases staleK at_ (l.getD i default) <;> simp
  have hll : ((l.take i).filter fun k => !staleK at_ k).length ≤ i := by
   have := List.length_filter_le (fun k => !staleK at_ k) (l.take i)
   simp only [List.length_take] at this
   omega
  generalize (l.take i).filter (fun k => !staleK at_ k) = D at htk hll
  generalize l.getD i default = k at hg htk
  have hg1 := hgf k.node.fid
  have hst : staleK at_ k = (!k.dirty && (!(findN at_ k.node.fid).isSome || !(((findN at_ k.node.fid).getD zeroN).version == k.node.version))) := by unfold staleK; rw [isAt_eq]
  have htq : List.take D.length (D.map ZK) = D.map ZK := List.take_of_length_le (by simp)
  cases hff : findN at_ k.node.fid with
  | none =>
   rw [hff] at hg1 hst
   simp only [Option.map_none] at hg1
   refine wR ?_
   refine wNq tK 4 ?_ ?_ (by simp only [go_sem]; exact rfl) (by simp only [go_sem]; exact rfl) (by simp only [go_sem, hg, ZK]; try exact rfl)
   ·simp [hg, ZK, hlt]
   refine wR ?_
   refine wN tK 11 ?_ (by simp only [go_sem]; exact rfl) (by simp only [go_sem]; exact rfl) (by simp only [go_sem, hg1]; try exact rfl) (by simp [go_sem, hg1])
   cases hd : k.dirty with
   | true =>
    rw [hd] at hst
    rw [hst, if_neg (by simp)] at htk
    refine wG tK ?_ (by simp only [go_sem, hd, cond_true, cond_false]; try exact rfl) (by simp [go_sem, hd, cond_true, cond_false])
    refine wDT (hb := (by simp)) (hk := ?_)
    refine wGq tK ?_ ?_ (by simp only [go_sem, hw]; try exact rfl)
    ·simp [htq, refs]
     exact ⟨by intro row h; simp at h; subst h; rfl, by omega⟩
    refine ZB ⟨i + 1, by omega, by omega, ZU ?_ ?_ ?_⟩
    ·simp [go_sem, htk]
    ·simp [go_sem, htk, htq, ZK, hd]
    ·simp [go_sem]
   | false =>
    rw [hd] at hst
    rw [hst, if_pos (by simp)] at htk
    refine wG tK ?_ (by simp only [go_sem, hd, cond_true, cond_false]; try exact rfl) (by simp [go_sem, hd, cond_true, cond_false])
    refine wDF (hb := (by simp)) (hk := ?_)
    refine wG tK ?_ (by simp only [go_sem, hw]; try exact rfl) (by simp [go_sem, hw])
    refine ZB ⟨i + 1, by omega, by omega, ZU ?_ ?_ ?_⟩
    ·simp [go_sem, htk]
    ·simp [go_sem, htk]
    ·simp [go_sem]
  | some n =>
   rw [hff] at hg1 hst
   simp only [Option.map_some] at hg1
   refine wR ?_
   refine wNq tK 4 ?_ ?_ (by simp only [go_sem]; exact rfl) (by simp only [go_sem]; exact rfl) (by simp only [go_sem, hg, ZK]; try exact rfl)
   ·simp [hg, ZK, hlt]
   refine wR ?_
   refine wN tK 11 ?_ (by simp only [go_sem]; exact rfl) (by simp only [go_sem]; exact rfl) (by simp only [go_sem, hg1, ZN]; try exact rfl) (by simp [go_sem, hg1, ZN])
   cases hd : k.dirty with
   | true =>
    rw [hd] at hst
    rw [hst, if_neg (by simp)] at htk
    refine wG tK ?_ (by simp only [go_sem, hd, cond_true, cond_false]; try exact rfl) (by simp [go_sem, hd, cond_true, cond_false])
    refine wDT (hb := (by simp)) (hk := ?_)
    refine wGq tK ?_ ?_ (by simp only [go_sem, hw]; try exact rfl)
    ·simp [htq, refs]
     exact ⟨by intro row h; simp at h; subst h; rfl, by omega⟩
    refine ZB ⟨i + 1, by omega, by omega, ZU ?_ ?_ ?_⟩
    ·simp [go_sem, htk]
    ·simp [go_sem, htk, htq, ZK, hd]
    ·simp [go_sem]
   | false =>
    rw [hd] at hst
    cases hv : (n.version == k.node.version) with
    | true =>
     rw [hst, if_neg (by simp [hv])] at htk
     refine wG tK ?_ (by simp only [go_sem, hd, hv, cond_true, cond_false]; try exact rfl) (by simp [go_sem, hd, hv, cond_true, cond_false])
     refine wDT (hb := (by simp)) (hk := ?_)
     refine wGq tK ?_ ?_ (by simp only [go_sem, hw]; try exact rfl)
     ·simp [htq, refs]
      exact ⟨by intro row h; simp at h; subst h; rfl, by omega⟩
     refine ZB ⟨i + 1, by omega, by omega, ZU ?_ ?_ ?_⟩
     ·simp [go_sem, htk]
     ·simp [go_sem, htk, htq, ZK, hd]
     ·simp [go_sem]
    | false =>
     rw [hst, if_pos (by simp [hv])] at htk
     refine wG tK ?_ (by simp only [go_sem, hd, hv, cond_true, cond_false]; try exact rfl) (by simp [go_sem, hd, hv, cond_true, cond_false])
     refine wDF (hb := (by simp)) (hk := ?_)
     refine wG tK ?_ (by simp only [go_sem, hw]; try exact rfl) (by simp [go_sem, hw])
     refine ZB ⟨i + 1, by omega, by omega, ZU ?_ ?_ ?_⟩
     ·simp [go_sem, htk]
     ·simp [go_sem, htk]
     ·simp [go_sem]
 ·have e : i = l.length := by simp at h; omega
  subst e
  rw [List.take_length]
  refine wG tK ?_
  refine ZZ 40 rfl (keptRow_pure _) ?_
  simp only [go_sem]
  refine wT ?_
  simp
end La
