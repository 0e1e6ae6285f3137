/- Texts of this claim, part 14: RCache, EngAM, EngAO, RKeepK, RFreshK, RList, CKeep, EngAP. No condition. -/
import Derived.Test.YtfiiingppbkpkaaGreatXR11
import Derived.Test.YtfiiingppbkpkaaGreatXR13
import Derived.Test.YtfiiingppbkpkaaGreatXR10
import Derived.Test.YtfiiingppbkpkaaGreatXR9
import Derived.Test.YtfiiingppbkpkaaGreatXR7
set_option maxRecDepth 10000
set_option maxHeartbeats 4000000
set_option linter.unusedSimpArgs false
set_option linter.unusedVariables false
namespace La
open Go Go.Eng Go.Proofs
theorem cmpI_neg {a b : Int} : cmpI a b < 0 ↔ a < b := by rcases cmpI_cases a b with ⟨h,e⟩ | ⟨h,e⟩ | ⟨h,e⟩ <;> rw [e] <;> omega
theorem cmpI_zero {a b : Int} : cmpI a b = 0 ↔ a = b := by rcases cmpI_cases a b with ⟨h,e⟩ | ⟨h,e⟩ | ⟨h,e⟩ <;> rw [e] <;> omega
theorem cmpK_iff {a b : Kept} : cmpK a b < 0 ↔ (a.worth ≠ b.worth ∧ a.worth < b.worth) ∨ (a.worth = b.worth ∧ ((a.last ≠ b.last ∧ a.last < b.last) ∨ (a.last = b.last ∧ a.node.fid < b.node.fid))) := by
 unfold cmpK orI
 by_cases h1 : a.worth = b.worth
 ·rw [if_neg (by simp [cmpI_zero,h1])]
  by_cases h2 : a.last = b.last
  ·rw [if_neg (by simp [cmpI_zero,h2]),cmpI_neg]; simp [h1,h2]
  ·rw [if_pos (by simp [cmpI_zero,h2]),cmpI_neg]; simp [h1,h2]
 ·rw [if_pos (by simp [cmpI_zero,h1]),cmpI_neg]; simp [h1]
theorem worse_ok (a b : Kept) : FnOK Tryz.prog 125 [.agg (ZK a),.agg (ZK b)] [] (fun r _ => r = .bool (decide (cmpK a b < 0))) := by
 have hk := @cmpK_iff a b
 unfold ZK
 refine ZF tK (Tryz.func125) rfl (fun C => ?_)
 simp only [Tryz.ntmps125,Tryz.results125,go_sem]
 refine wG tK ?_
 refine wD (fun h => ?_) (fun h => ?_)
 ·have h1 : a.worth ≠ b.worth := by simpa using h
  refine wG tK ?_
  refine wT ?_
  simp [hk,h1]
 have h1 : a.worth = b.worth := by simpa using h
 refine wG tK ?_
 refine wD (fun h => ?_) (fun h => ?_)
 ·have h2 : a.last ≠ b.last := by simpa using h
  refine wG tK ?_
  refine wT ?_
  simp [hk,h1,h2]
 have h2 : a.last = b.last := by simpa using h
 refine wG tK ?_
 refine wT ?_
 simp [hk,h1,h2]
theorem kept_rm (l : List Kept) (hlen : l.length ≤ 100000000) : FnOK Tryz.prog 106 [.sl (l.map ZK)] [] (fun r _ => r = .rm (mN (mapD (nodesK l)))) := by
 rw [← mapN_eq]
 refine ZF tK (Tryz.func106) rfl (fun C => ?_)
 simp only [Tryz.ntmps106,Tryz.results106,go_sem]
 refine wG tK ?_
 refine ZL (fun i : Nat => i ≤ l.length) (fun i => l.length - i) (fun i => [(3,.mp 6),(5,.any),(9,.int .i64 i),(10,.any),(11,.any),(12,.any),(13,.any),(14,.any),(15,.any),(16,.any),(17,.any),(18,.any),(19,.any)])
  (fun i => [(6,.map (mapUN (nodesK l) i))]) 0 (by omega) ?_ fun i hi => ?_
 ·simp only [go_sem]
  exact ZU (by simp [go_sem]) (by simp [go_sem,mapUN,mapUpto]) (by simp only [go_sem])
 simp only [go_sem]
 refine wG tK ?_
 refine wD (fun h => ?_) (fun h => ?_)
 ·have hlt : i < l.length := by simp at h; omega
  have hg : (l.map ZK).getD i [] = ZK (l.getD i default) := Fam.getD hlt
  have hw := wi1 (i := i) (by omega)
  have hnd : (nodesK l).getD i default = (l.getD i default).node := by
   unfold nodesK
   rw [List.getD_eq_getElem?_getD,List.getElem?_map,List.getD_eq_getElem?_getD,List.getElem?_eq_getElem hlt]; rfl
  have hput : mapUN (nodesK l) (i + 1) = Zp (mapUN (nodesK l) i) ((nodesK l).getD i default).fid (.agg (ZN ((nodesK l).getD i default))) := rfl
  rw [hnd] at hput
  generalize l.getD i default = n at *
  refine wGq tK ?_ ?_ (by simp only [go_sem,hg,ZK,hw]; try exact rfl)
  ·simp [hg,ZK,hlt,AV.deepB,AV.pureB]
  refine ZB ⟨i + 1,by omega,by omega,ZU ?_ ?_ ?_⟩
  ·simp [go_sem]
  ·simp [go_sem,hput,ZN]
  ·simp only [go_sem]
 ·have e : i = l.length := by simp at h; omega
  subst e
  have hN : mapN (nodesK l) = mapUN (nodesK l) l.length := by unfold mapN nodesK; rw [List.length_map]
  rw [hN]
  refine wG tK ?_
  refine cw_freezeM 6 rfl ?_
  simp only [go_sem]
  refine wT ?_
  rfl
theorem of_rm (l : List Node) (hlen : l.length ≤ 100000000) : FnOK Tryz.prog 20 [.sl (l.map ZN)] [] (fun r _ => r = .rm (mN (mapD l))) := by
 rw [← mapN_eq]
 refine ZF tK (Tryz.func20) rfl (fun C => ?_)
 simp only [Tryz.ntmps20,Tryz.results20,go_sem]
 refine wG tK ?_
 refine ZL (fun i : Nat => i ≤ l.length) (fun i => l.length - i) (fun i => [(3,.mp 6),(5,.any),(9,.int .i64 i),(10,.any),(11,.any),(12,.any),(13,.any),(14,.any),(15,.any),(16,.any),(17,.any)])
  (fun i => [(6,.map (mapUN l i))]) 0 (by omega) ?_ fun i hi => ?_
 ·simp only [go_sem]
  exact ZU (by simp [go_sem]) (by simp [go_sem,mapUN,mapUpto]) (by simp only [go_sem])
 simp only [go_sem]
 refine wG tK ?_
 refine wD (fun h => ?_) (fun h => ?_)
 ·have hlt : i < l.length := by simp at h; omega
  have hg : (l.map ZN).getD i [] = ZN (l.getD i default) := Fam.getD hlt
  have hw := wi1 (i := i) (by omega)
  have hput : mapUN l (i + 1) = Zp (mapUN l i) (l.getD i default).fid (.agg (ZN (l.getD i default))) := rfl
  generalize l.getD i default = n at *
  refine wGq tK ?_ ?_ (by simp only [go_sem,hg,ZN,hw]; try exact rfl)
  ·simp [hg,ZN,hlt,AV.deepB,AV.pureB]
  refine ZB ⟨i + 1,by omega,by omega,ZU ?_ ?_ ?_⟩
  ·simp [go_sem]
  ·simp [go_sem,hput,ZN]
  ·simp only [go_sem]
 ·have e : i = l.length := by simp at h; omega
  subst e
  unfold mapN
  refine wG tK ?_
  refine cw_freezeM 6 rfl ?_
  simp only [go_sem]
  refine wT ?_
  rfl
end La
namespace Go.Eng
section
variable {P : Program} {T : Tab} {C : Ctx} {σ σ' : St} {μ : Nat → Option Nat} {S : Nat → Prop} {a : Act} {w : World} {Ret : St → Prop} {k : List It}
def mv1 (p q : Nat) : AV → AV
 | .osl id s o l => if id = p then .osl q s o l else .osl id s o l
 | .ptr id s r o => if id = p then .ptr q s r o else .ptr id s r o
 | x => kill p x
theorem le_mv (p q : Nat) {e s : Nat} {rows : List (List AV)} {H' : List (Nat × Blk)} {l' : List AV} (hb : Yk σ.hp p = some (.cells e s rows) := by simp only [go_sem]; exact rfl) (hq : Yk σ.hp q = none := by simp only [go_sem]; try exact rfl) (hr : refsB (.cells e s rows) = [] := by simp only [go_sem]; try exact rfl)
  (hH : hdel σ.hp p = H' := by simp only [go_sem,hdel]; exact rfl) (hf : (H'.all fun x => !(refsB x.2).contains p) = true := by simp only [go_sem]; try exact rfl) (ht : σ.tm.map (mv1 p q) = l' := by simp only [go_sem,mv1,kill]; exact rfl) : Le C σ ⟨l',(q,.cells e s rows) :: H'⟩ := by
 subst hH ht
 intro a w ⟨μ,S,hi⟩
 have hne : p ≠ q := fun h => by subst h; rw [hb] at hq; cases hq
 have hmq : μ q = none := by
  cases h : μ q with
  | none => rfl
  | some g => obtain ⟨⟨b,h1⟩,_⟩ := hi.dom q g h; rw [hq] at h1; cases h1
 let ν : Nat → Option Nat := fun i => if i = q then μ p else if i = p then none else μ i
 have hνq : ν q = μ p := by simp [ν]
 have hν : ∀ i,i ≠ p → i ≠ q → ν i = μ i := fun i h1 h2 => by simp [ν,h1,h2]
 have hm : ∀ i,i ≠ p → ∀ g,μ i = some g → ν i = some g := fun i h g hg => by
  rw [hν i h (fun e => by subst e; rw [hmq] at hg; cases hg)]; exact hg
 have hv : ∀ i g,ν i = some g → (i = q ∧ μ p = some g) ∨ (i ≠ p ∧ i ≠ q ∧ μ i = some g) := fun i g h => by
  simp only [ν] at h
  split at h
  ·exact .inl ⟨by assumption,h⟩
  ·split at h
   ·cases h
   ·exact .inr ⟨by assumption,by assumption,h⟩
 have hkill : ∀ {v : Value} {y : AV},Rd μ S w v y → Rd ν S w v (kill p y) := fun {v y} h => by
  unfold kill
  split
  ·exact .any v
  ·rename_i hc
   exact h.less fun id hid g hg => hm id (fun e => by subst e; exact hc (by simpa using hid)) g hg
 refine ⟨ν,S,by simpa using hi.size,hi.defers,fun t x hx => ?_,fun id b hb' => ?_,fun id g hg => ?_,fun i j g h1 h2 => ?_,hi.frm,hi.sb⟩
 ·simp only [List.getElem?_map] at hx
  obtain ⟨y,hy,rfl⟩ := Option.map_eq_some_iff.1 hx
  have h := hi.tm t y hy
  cases y with
  | osl id s' o n =>
   simp only [mv1]
   split
   ·rename_i e
    subst e
    obtain ⟨A,cap,e1,hc,hor⟩ := h.inv_osl
    rw [e1]
    refine .osl q s' o n cap A hc ?_
    rcases hor with h | ⟨g,e2,m,k1,k2,k3,k4⟩
    ·exact .inl h
    ·exact .inr ⟨g,e2,m,hνq.trans k1,k2,k3,k4⟩
   ·rename_i e
    exact h.less fun i hid g hg => hm i (fun e' => by simp only [refs,List.mem_singleton] at hid; exact e (hid.symm.trans e')) g hg
  | ptr id s' r o =>
   simp only [mv1]
   split
   ·rename_i e
    subst e
    obtain ⟨g,k1,e1⟩ := h.inv_ptr
    rw [e1]
    exact .ptr q s' r o g (hνq.trans k1)
   ·rename_i e
    exact h.less fun i hid g hg => hm i (fun e' => by simp only [refs,List.mem_singleton] at hid; exact e (hid.symm.trans e')) g hg
  | _ => exact hkill h
 ·simp only [Yk] at hb'
  split at hb'
  ·rename_i e'
   injection hb' with hb'
   subst e' hb'
   have hk := hi.hp p _ hb
   rcases hk with ⟨k1,k2⟩ | ⟨g,c,k1,k2,k3,k4,k5⟩
   ·exact .inl ⟨k1,hνq.trans k2⟩
   ·refine .inr ⟨g,c,hνq.trans k1,k2,k3,k4,fun i row hi' j x hx => (k5 i row hi' j x hx).less fun id hid g' hg' => ?_⟩
    have : id ∈ refsB (.cells e s rows) := List.mem_flatMap.2 ⟨row,List.mem_of_getElem? hi',Zr hx hid⟩
    rw [hr] at this
    cases this
  ·rename_i hq'
   have hb2 := hb'
   rw [hget_hdel] at hb'
   split at hb'
   ·cases hb'
   ·rename_i hp'
    refine (hi.hp id b hb').less (hν id (fun e => hp' e.symm) (fun e => hq' e.symm)) fun i hid g hg => hm i (fun e => ?_) g hg
    subst e
    have := List.all_eq_true.1 hf _ (hget_mem hb2)
    simp at this
    exact this hid
 ·rcases hv id g hg with ⟨rfl,h⟩ | ⟨h1,h2,h⟩
  ·exact ⟨⟨_,by simp only [Yk,if_true]; rfl⟩,(hi.dom p g h).2⟩
  ·obtain ⟨⟨b,hb1⟩,h3⟩ := hi.dom id g h
   exact ⟨⟨b,by simp only [Yk,if_neg (fun e : q = id => h2 e.symm),hget_hdel,if_neg (fun e : p = id => h1 e.symm)]; exact hb1⟩,h3⟩
 ·rcases hv i g h1 with ⟨rfl,k⟩ | ⟨k1,k2,k⟩ <;> rcases hv j g h2 with ⟨rfl,m⟩ | ⟨m1,m2,m⟩
  ·rfl
  ·exact absurd (hi.inj p j g k m) (fun e => m1 e.symm)
  ·exact absurd (hi.inj i p g k m) k1
  ·exact hi.inj i j g k m
theorem draw_earlyM (r : Nat) (p q : List Nat) {ops ops' : Array Oper} {Q : Exit → Act → World → Prop} {o : Oper} {x : Operand} (ho : ops[r]? = some o) (hop : o.op = .move x) (hg : o.guard = none)
  (hQ : ∀ c a w,¬ Q (.panic c) a w) (h1 : remOK r p q ops = true) (h2 : firstOK r o ops = true) (he : (Ym r p q ops.toList).toArray = ops') {y : AV} (hx : evS σ x = (True,y))
  (hk : DrawOK P C ops' Q 0 (σ.put o.dst y)) : DrawOK P C ops Q 0 σ := by
 subst he
 have hF := rem_facts h1
 have hrl := hF.rl
 have hpl := hF.pl
 intro a w ⟨μ,S,hi⟩
 have hv := hi.evS x (by rw [hx]; trivial)
 rw [hx] at hv
 obtain ⟨u,hr,hu⟩ : ∃ u,Rd μ S w u y ∧ u = a.eval x := ⟨_,hv,rfl⟩
 have hrel : Rel C (σ.put o.dst y) (a.put o.dst u) w := ⟨μ,S,hi.put o.dst hr⟩
 have hk' := hk _ _ hrel
 have hs : (Ym r p q ops.toList).toArray.size + 1 = ops.size := by simp [Ym,hpl]
 obtain ⟨n,hn⟩ : ∃ n,ops.size = n + 1 := ⟨ops.size - 1,by omega⟩
 have hsz : (Ym r p q ops.toList).toArray.size = n := by omega
 unfold firstOK at h2
 rw [Bool.and_eq_true] at h2
 have hafter : o.after = #[] := Array.isEmpty_iff.1 h2.1
 have hd0 : ∀ (m i : Nat) (d : Bool),(Yt m 0).getD i d = if i < m then false else d := fun m i d => by rw [doneTo_get]; simp
 rw [hn,Nat.sub_zero]
 refine wpAny_first (v := u) ho hF.sel (fun c a w hc => absurd hc (hQ c _ _)) n _ a w (fun k oj hoj hkr _ hw => ?_) (mem_ready.2 ⟨?_,o,ho,fun e he => by rw [hafter] at he; simp at he⟩) (.inl ⟨by rw [Region.wanted,hg],fun w' => ?_⟩) ?_
 ·have := List.all_eq_true.1 h2.2 k (List.mem_range.2 (Array.getElem?_eq_some_iff.1 hoj).1)
  rw [hoj] at this
  simp only [Bool.or_eq_true,beq_iff_eq,Array.any_eq_true',Bool.and_eq_true] at this
  rcases this with h | ⟨e,he,hb,hon⟩ | h
  ·exact absurd h hkr
  ·exact absurd hon (hw e he hb)
  ·exact h
 ·rw [← hn,hd0,if_pos hrl]
 ·subst hu
  simp [execOp,hop]
 ·rw [hsz,Nat.sub_zero] at hk'
  refine rem_any hF n _ _ _ _ (by simp [Yt,hn]) (by simp [Yt,hn]) ?_ (fun i hi => ?_) hk'
  ·rw [Array.getD_eq_getD_getElem?,Array.getElem?_setIfInBounds,if_pos rfl,if_pos (by simp [Yt]; omega)]; rfl
  ·have e2 : ((Yt (n + 1) 0).setIfInBounds r true).getD i false = (Yt (n + 1) 0).getD i false := by
    rw [Array.getD_eq_getD_getElem?,Array.getElem?_setIfInBounds,if_neg (fun e => hi e.symm),← Array.getD_eq_getD_getElem?]
   rw [e2,hd0,hd0]
   split <;> split <;> rfl
end
end Go.Eng
namespace Go.Eng
section
variable {P : Program} {T : Tab} {C : Ctx} {σ σ' : St} {μ : Nat → Option Nat} {S : Nat → Prop} {a : Act} {w : World} {Ret : St → Prop} {k : List It}
theorem draw_earlyV (r : Nat) (p q : List Nat) {ops ops' : Array Oper} {Q : Exit → Act → World → Prop} {o : Oper} (ho : ops[r]? = some o) (hg : o.guard = none)
  (hQ : ∀ c a w,¬ Q (.panic c) a w) (h1 : remOK r p q ops = true) (h2 : firstOK r o ops = true) (he : (Ym r p q ops.toList).toArray = ops') {y : AV}
  (hx : ∀ μ S a w,Inv C μ S σ a w → ∃ u,(∀ w',(execOp a.eval o).run P w' = .ok (.value u) w') ∧ Rd μ S w u y)
  (hk : DrawOK P C ops' Q 0 (σ.put o.dst y)) : DrawOK P C ops Q 0 σ := by
 subst he
 have hF := rem_facts h1
 have hrl := hF.rl
 have hpl := hF.pl
 intro a w ⟨μ,S,hi⟩
 obtain ⟨u,hu,hr⟩ := hx μ S a w hi
 have hrel : Rel C (σ.put o.dst y) (a.put o.dst u) w := ⟨μ,S,hi.put o.dst hr⟩
 have hk' := hk _ _ hrel
 have hs : (Ym r p q ops.toList).toArray.size + 1 = ops.size := by simp [Ym,hpl]
 obtain ⟨n,hn⟩ : ∃ n,ops.size = n + 1 := ⟨ops.size - 1,by omega⟩
 have hsz : (Ym r p q ops.toList).toArray.size = n := by omega
 unfold firstOK at h2
 rw [Bool.and_eq_true] at h2
 have hafter : o.after = #[] := Array.isEmpty_iff.1 h2.1
 have hd0 : ∀ (m i : Nat) (d : Bool),(Yt m 0).getD i d = if i < m then false else d := fun m i d => by rw [doneTo_get]; simp
 rw [hn,Nat.sub_zero]
 refine wpAny_first (v := u) ho hF.sel (fun c a w hc => absurd hc (hQ c _ _)) n _ a w (fun k oj hoj hkr _ hw => ?_) (mem_ready.2 ⟨?_,o,ho,fun e he => by rw [hafter] at he; simp at he⟩) (.inl ⟨by rw [Region.wanted,hg],hu⟩) ?_
 ·have := List.all_eq_true.1 h2.2 k (List.mem_range.2 (Array.getElem?_eq_some_iff.1 hoj).1)
  rw [hoj] at this
  simp only [Bool.or_eq_true,beq_iff_eq,Array.any_eq_true',Bool.and_eq_true] at this
  rcases this with h | ⟨e,he,hb,hon⟩ | h
  ·exact absurd h hkr
  ·exact absurd hon (hw e he hb)
  ·exact h
 ·rw [← hn,hd0,if_pos hrl]
 ·rw [hsz,Nat.sub_zero] at hk'
  refine rem_any hF n _ _ _ _ (by simp [Yt,hn]) (by simp [Yt,hn]) ?_ (fun i hi => ?_) hk'
  ·rw [Array.getD_eq_getD_getElem?,Array.getElem?_setIfInBounds,if_pos rfl,if_pos (by simp [Yt]; omega)]; rfl
  ·have e2 : ((Yt (n + 1) 0).setIfInBounds r true).getD i false = (Yt (n + 1) 0).getD i false := by
    rw [Array.getD_eq_getD_getElem?,Array.getElem?_setIfInBounds,if_neg (fun e => hi e.symm),← Array.getD_eq_getD_getElem?]
   rw [e2,hd0,hd0]
   split <;> split <;> rfl
theorem slice_any (hT : TabOK P T) {o : Oper} {t e : TypeId} {x : Operand} {lo hi' : Option Operand} (ho : o.op = .slice t x lo hi' none) (ht : T.und t = .sl e) {id s off len l h : Nat} (hs : T.siz e = s) (hz : s ≠ 0) (hx : evS σ x = (True,.osl id s off len))
  (hlo : (lo = none ∧ l = 0) ∨ ∃ q,lo = some q ∧ ∃ kk,evS σ q = (True,.int kk (l : Nat))) (hhi : (hi' = none ∧ h = len) ∨ ∃ q,hi' = some q ∧ ∃ kk,evS σ q = (True,.int kk (h : Nat))) (hlh : l ≤ h) (hhl : h ≤ len) :
  ∀ μ S a w,Inv C μ S σ a w → ∃ u,(∀ w',(execOp a.eval o).run P w' = .ok (.value u) w') ∧ Rd μ S w u (.osl id s (off + l) (h - l)) := by
 intro μ S a w hi
 have hu := hT.und t
 rw [ht] at hu
 simp only [KDOK] at hu
 have hv := hi.evS x (by rw [hx]; trivial)
 rw [hx] at hv
 obtain ⟨A,cap,hA,hc,hor⟩ := hv.inv_osl
 have k1 : BoundIs (lo.map a.eval) 0 l := by
  rcases hlo with ⟨rfl,rfl⟩ | ⟨q,rfl,kk,hq⟩
  ·rfl
  ·have := hi.evS q (by rw [hq]; trivial)
   rw [hq] at this
   exact ⟨kk,this.inv_int⟩
 have k2 : BoundIs (hi'.map a.eval) len h := by
  rcases hhi with ⟨rfl,rfl⟩ | ⟨q,rfl,kk,hq⟩
  ·rfl
  ·have := hi.evS q (by rw [hq]; trivial)
   rw [hq] at this
   exact ⟨kk,this.inv_int⟩
 have hrun : ∀ w',(Instr.sliceAt t (.slice A len cap) (lo.map a.eval) (hi'.map a.eval) none).run P w' = .ok (.slice (if cap = l then A else A.map (·.add (l * T.siz e))) (h - l) (cap - l)) w' := fun w' => by
  simp [Instr.sliceAt,Instr.slice,run_underlying hu,run_bounds (P := P) (w := w') true len cap l h (lo.map a.eval) (hi'.map a.eval) k1 k2 hlh (by omega),sizeOf_of hT (by rw [hs]; exact hz)]
 refine ⟨.slice (if cap = l then A else A.map (·.add (l * T.siz e))) (h - l) (cap - l),fun w' => ?_,.osl id s (off + l) (h - l) (cap - l) _ (by omega) ?_⟩
 ·have := hrun w'
  simp only [execOp,ho]
  rw [hA]
  simp [this]
 ·rcases hor with ⟨j1,j2⟩ | ⟨g,e',n,j1,rfl,j3,j4⟩
  ·exact .inl ⟨by omega,by omega⟩
  ·by_cases hcl : cap = l
   ·exact .inl ⟨by omega,by omega⟩
   ·refine .inr ⟨g,e',n,j1,?_,j3,?_⟩
    ·rw [if_neg hcl]; simp [add_plain,hs,Nat.add_mul]
    ·rw [show off + l + (cap - l) = off + cap from by omega]; exact j4
theorem add_any {o : Oper} {t ty : TypeId} {x y : Operand} (ho : o.op = .binOp .add t x y ty) {kk : IntKind} {m n : Int} (hx : evS σ x = (True,.int kk m)) (hy : evS σ y = (True,.int kk n)) :
  ∀ μ S a w,Inv C μ S σ a w → ∃ u,(∀ w',(execOp a.eval o).run P w' = .ok (.value u) w') ∧ Rd μ S w u (.int kk (kk.wrap (m + n))) := by
 intro μ S a w hi
 have h1 := hi.evS x (by rw [hx]; trivial)
 have h2 := hi.evS y (by rw [hy]; trivial)
 rw [hx] at h1
 rw [hy] at h2
 refine ⟨.int kk (kk.wrap (m + n)),fun w' => ?_,.pure (.int _ _)⟩
 simp only [execOp,ho]
 rw [h1.inv_int,h2.inv_int]
 simp [eqGuard_at_int,binOp,Op.intArith]
theorem le_drop (q : Nat) {H' : List (Nat × Blk)} {l' : List AV} (hH : hdel σ.hp q = H' := by simp only [go_sem,hdel]; exact rfl) (hf : (H'.all fun x => !(refsB x.2).contains q) = true := by simp only [go_sem]; try exact rfl) (ht : σ.tm.map (kill q) = l' := by simp only [go_sem,kill]; exact rfl) : Le C σ ⟨l',H'⟩ := by
 subst hH ht
 intro a w ⟨μ,S,hi⟩
 let ν : Nat → Option Nat := fun i => if i = q then none else μ i
 have hm : ∀ i,i ≠ q → ∀ g,μ i = some g → ν i = some g := fun i h g hg => by simp [ν,h,hg]
 have hv : ∀ i g,ν i = some g → i ≠ q ∧ μ i = some g := fun i g h => by
  simp only [ν] at h
  split at h
  ·cases h
  ·exact ⟨by assumption,h⟩
 refine ⟨ν,S,by simpa using hi.size,hi.defers,fun t x hx => ?_,fun id b hb' => ?_,fun id g hg => ?_,fun i j g h1 h2 => ?_,hi.frm,hi.sb⟩
 ·simp only [List.getElem?_map] at hx
  obtain ⟨y,hy,rfl⟩ := Option.map_eq_some_iff.1 hx
  have h := hi.tm t y hy
  unfold kill
  split
  ·exact .any _
  ·rename_i hc
   exact h.less fun id hid g hg => hm id (fun e => by subst e; exact hc (by simpa using hid)) g hg
 ·have hb2 := hb'
  rw [hget_hdel] at hb'
  split at hb'
  ·cases hb'
  ·rename_i hq'
   refine (hi.hp id b hb').less (by simp only [ν]; rw [if_neg (fun e => hq' e.symm)]) fun i hid g hg => hm i (fun e => ?_) g hg
   subst e
   have := List.all_eq_true.1 hf _ (hget_mem hb2)
   simp at this
   exact this hid
 ·obtain ⟨h1,h2⟩ := hv id g hg
  obtain ⟨⟨b,hb1⟩,h3⟩ := hi.dom id g h2
  exact ⟨⟨b,by rw [hget_hdel,if_neg (fun e => h1 e.symm)]; exact hb1⟩,h3⟩
 ·exact hi.inj i j g (hv i g h1).2 (hv j g h2).2
def DrawD (P : Program) (C : Ctx) (ops : Array Oper) (Q : Exit → Act → World → Prop) (n : Nat) (L : Array Bool) (σ : St) : Prop := ∀ a w,Rel C σ a w → wpAny P .any ops Q n L a w
theorem drawD {ops : Array Oper} {Q : Exit → Act → World → Prop} {n : Nat} {L : Array Bool} (hn : ops.size = n) (hL : Yt ops.size 0 = L) (h : DrawD P C ops Q n L σ) : DrawOK P C ops Q 0 σ := by
 subst hn hL
 intro a w hr
 rw [Nat.sub_zero]
 exact h a w hr
theorem drawD_end {ops : Array Oper} {L : Array Bool} (hr : Region.ready .any ops L = []) (h : Cw P C Ret k σ) : DrawD P C ops (aft (RetOf C Ret) (sem P C (RetOf C Ret) k)) 0 L σ := fun a w hrel => ⟨hr,h a w hrel⟩
theorem YD {ops : Array Oper} {Q : Exit → Act → World → Prop} {n i : Nat} {L L' : Array Bool} {o : Oper} (hr : Region.ready .any ops L = [i]) (hL : L.setIfInBounds i true = L') (ho : ops[i]? = some o) (ht : TripG P C ops o σ σ') (h : DrawD P C ops Q n L' σ') : DrawD P C ops Q (n + 1) L σ := fun a w hrel => by
 subst hL
 refine ⟨fun h0 => (by rw [hr] at h0; cases h0),fun j hj => ?_⟩
 rw [hr,List.mem_singleton] at hj
 subst hj
 exact drawn_op ho ht hrel fun a' w' hr' => h a' w' hr'
theorem drawD_two {ops : Array Oper} {Q : Exit → Act → World → Prop} {n i j : Nat} {L L1 L2 : Array Bool} {o1 o2 : Oper} {σ1 σ2 : St} (hr : Region.ready .any ops L = [i,j]) (hL1 : L.setIfInBounds i true = L1) (hL2 : L.setIfInBounds j true = L2) (ho1 : ops[i]? = some o1) (ho2 : ops[j]? = some o2)
  (ht1 : TripG P C ops o1 σ σ1) (ht2 : TripG P C ops o2 σ σ2) (h1 : DrawD P C ops Q n L1 σ1) (h2 : DrawD P C ops Q n L2 σ2) : DrawD P C ops Q (n + 1) L σ := fun a w hrel => by
 subst hL1 hL2
 refine ⟨fun h0 => (by rw [hr] at h0; cases h0),fun m hm => ?_⟩
 rw [hr] at hm
 rcases List.mem_cons.1 hm with rfl | hm
 ·exact drawn_op ho1 ht1 hrel fun a' w' hr' => h1 a' w' hr'
 ·rw [List.mem_singleton] at hm
  subst hm
  exact drawn_op ho2 ht2 hrel fun a' w' hr' => h2 a' w' hr'
theorem YT (hT : TabOK P T) {ops : Array Oper} {o : Oper} (hg : o.guard = none) {p : Prop} (h : stepOp T σ o.dst o.op = some (p,σ')) (hp : p) : TripG P C ops o σ σ' := fun a w K Q' hr hK => by
 obtain ⟨μ,S,hi⟩ := hr
 rw [Zw hi (show Yo ops σ o.guard = some true from by rw [hg]; rfl)]
 exact .inl (step_sound hT o h hp a w K Q' ⟨μ,S,hi⟩ hK)
end
end Go.Eng
namespace La
open Go Go.Eng Go.Proofs
theorem keptRow_refs {p : Kept} {x : AV} (h : x ∈ ZK p) : refs x = [] := by
 simp only [ZK,List.mem_cons,List.not_mem_nil,or_false] at h
 rcases h with rfl | rfl | rfl | rfl | rfl | rfl | rfl | rfl <;> rfl
def wK (k x : Kept) : Kept := { k with worth := maxI k.worth x.worth }
def rkS (k : Kept) (q : Bool × List Kept) (x : Kept) : Bool × List Kept := if (x.node.fid == k.node.fid && !q.1) = true then (true,q.2 ++ [wK k x]) else (q.1,q.2 ++ [x])
def rkT (k : Kept) (l : List Kept) : Bool × List Kept := l.foldl (rkS k) (false,[])
theorem rkT_snoc (k : Kept) (l : List Kept) (x : Kept) : rkT k (l ++ [x]) = rkS k (rkT k l) x := by unfold rkT; rw [List.foldl_append]; rfl
theorem rkT_len (k : Kept) (l : List Kept) : (rkT k l).2.length = l.length := by
 have : ∀ (l : List Kept) (q : Bool × List Kept),(l.foldl (rkS k) q).2.length = q.2.length + l.length := fun l => by
  induction l with
  | nil => intro q; rfl
  | cons x r ih => intro q; rw [List.foldl_cons,ih]; unfold rkS; split <;> simp <;> omega
 have := this l (false,[])
 simpa [rkT] using this
theorem rkS_true (k : Kept) : ∀ (l acc : List Kept),l.foldl (rkS k) (true,acc) = (true,acc ++ l)
 | [],acc => by simp
 | x :: r,acc => by rw [List.foldl_cons,show rkS k (true,acc) x = (true,acc ++ [x]) from by simp [rkS],rkS_true k r]; simp
theorem rkS_false (k : Kept) : ∀ (l acc : List Kept),l.foldl (rkS k) (false,acc) = match kplace l k.node.fid with
  | none => (false,acc ++ l)
  | some i => (true,acc ++ l.set i (wK k (l.getD i default)))
 | [],acc => by simp [kplace]
 | x :: r,acc => by
  rw [List.foldl_cons]
  by_cases h : x.node.fid = k.node.fid
  ·rw [show rkS k (false,acc) x = (true,acc ++ [wK k x]) from by simp [rkS,h],rkS_true]
   have : kplace (x :: r) k.node.fid = some 0 := by unfold kplace; rw [List.findIdx?_cons]; simp [h]
   rw [this]
   simp
  ·rw [show rkS k (false,acc) x = (false,acc ++ [x]) from by simp [rkS,h],rkS_false k r]
   have : kplace (x :: r) k.node.fid = (kplace r k.node.fid).map (· + 1) := by unfold kplace; rw [List.findIdx?_cons]; simp [h]
   rw [this]
   cases kplace r k.node.fid <;> simp
theorem rkT_keep (k : Kept) (l : List Kept) : rkT k l = match kplace l k.node.fid with
  | none => (false,l)
  | some i => (true,l.set i (wK k (l.getD i default))) := by
 unfold rkT
 rw [rkS_false]
 cases kplace l k.node.fid <;> simp
theorem keepK_some {l : List Kept} {room : Int} {k : Kept} (h : (rkT k l).1 = true) : keepK l room k = some (rkT k l).2 := by
 unfold keepK
 rw [rkT_keep] at h ⊢
 cases e : kplace l k.node.fid with
 | none => rw [e] at h; cases h
 | some i => rfl
theorem keepK_none {l : List Kept} {room : Int} {k : Kept} (h : (rkT k l).1 = false) : (rkT k l).2 = l ∧ keepK l room k = (shrinkK room (l.length + 1) l).map fun L => L ++ [k] := by
 unfold keepK
 rw [rkT_keep] at h ⊢
 cases e : kplace l k.node.fid with
 | none => exact ⟨rfl,rfl⟩
 | some i => rw [e] at h; cases h
theorem rkeep_raw (l : List Kept) (room : Int) (k : Kept) (hl : l.length ≤ 90000000) : FnOK Tryz.prog 108 [.sl (l.map ZK),.int .i64 room,.agg (ZK k)] [] (fun r _ => r = keepRn l room k) := by
 unfold keepRn
 have hz : rkT k (l.take l.length) = rkT k l := by rw [List.take_length]
 refine ZF tK (Tryz.func108) rfl (fun C => ?_)
 simp only [Tryz.ntmps108,Tryz.results108,go_sem]
 refine wGq tK ?_ ?_ (by simp only [go_sem,ZK]; try exact rfl)
 ·simp
 refine Yl (Ze 46 113 8 (by simp only [go_sem]; try exact rfl)) ?_
 simp only [go_sem]
 refine ZL (fun i : Nat => i ≤ l.length) (fun i => l.length - i) (fun i => [(8,.osl 46 8 0 i),(9,.bool (rkT k (l.take i)).1),(11,.any),(12,.any),(18,.int .i64 i),(19,.any),(20,.any),(21,.any),(22,.any),(23,.any),(24,.any),(25,.any),(26,.any),(27,.any),(28,.any),(29,.any),(30,.any),(31,.any),(32,.any),(33,.any),(34,.any),(35,.any),(36,.any),(37,.any),(38,.any),(39,.any),(40,.any),(41,.any),(42,.any),(43,.any),(44,.any),(45,.any),(46,.any),(47,.any)]) (fun i => [(46,.cells 113 8 ((rkT k (l.take i)).2.map ZK))]) 0 (by omega) ?_ fun i hi => ?_
 ·simp only [go_sem]
  exact ZU (by simp [go_sem,rkT]) (by simp [go_sem,rkT]) (by simp [go_sem])
 simp only [go_sem]
 refine wG tK ?_
 refine wD (fun h => ?_) (fun h => ?_)
 ·have hlt : i < l.length := by simp at h; omega
  have hg : (l.map ZK).getD i [] = ZK (l.getD i default) := Fam.getD hlt
  have hw := wi1 (i := i) (by omega)
  have htk : rkT k (l.take (i + 1)) = rkS k (rkT k (l.take i)) (l.getD i default) := by rw [ZT hlt,rkT_snoc]
  have hql := rkT_len k (l.take i)
  rw [List.length_take,Nat.min_eq_left hi] at hql
  generalize l.getD i default = x at hg htk
  generalize rkT k (l.take i) = q at *
  unfold rkS at htk
  have htq : List.take i (q.2.map ZK) = q.2.map ZK := List.take_of_length_le (by simp [hql])
  refine wR ?_
  refine wNq tK 4 ?_ ?_ (h := by simp only [go_sem,hg,ZK]; try exact rfl)
  ·simp [hg,ZK,hlt]
  cases hb : (x.node.fid == k.node.fid && !q.1) with
  | true =>
   rw [hb,if_pos rfl] at htk
   rw [Bool.and_eq_true] at hb
   refine wG tK ?_
   refine wDT (hb := by simp [hb.1,hb.2]) (hk := ?_)
   refine wG tK ?_
   refine wD (fun h => ?_) (fun h => ?_)
   ·have hm : maxI k.worth x.worth = x.worth := by unfold maxI; rw [if_pos (by simpa using h)]
    refine wGq tK ?_ ?_ (by simp only [go_sem,hw]; try exact rfl)
    ·simp [htq,refs,hql]
     exact ⟨by intro row h; simp at h; subst h; rfl,by omega,fun x _ y hy => by rw [keptRow_refs hy]; simp⟩
    refine ZB ⟨i + 1,by omega,by omega,ZU ?_ ?_ ?_⟩
    ·simp [go_sem,htk]
    ·simp [go_sem,htk,htq,ZK,wK,hm]
    ·simp [go_sem]
   ·have hm : maxI k.worth x.worth = k.worth := by unfold maxI; rw [if_neg (by simpa using h)]
    refine wGq tK ?_ ?_ (by simp only [go_sem,hw]; try exact rfl)
    ·simp [htq,refs,hql]
     exact ⟨by intro row h; simp at h; subst h; rfl,by omega,fun x _ y hy => by rw [keptRow_refs hy]; simp⟩
    refine ZB ⟨i + 1,by omega,by omega,ZU ?_ ?_ ?_⟩
    ·simp [go_sem,htk]
    ·simp [go_sem,htk,htq,ZK,wK,hm]
    ·simp [go_sem]
  | false =>
   rw [hb,if_neg Bool.false_ne_true] at htk
   refine wG tK ?_
   refine wDF (hb := by simpa [show ∀ a b : Bool,(bif a then b else false) = (a && b) from fun a b => by cases a <;> rfl] using hb) (hk := ?_)
   refine wGq tK ?_ ?_ (by simp only [go_sem,hw]; try exact rfl)
   ·simp [htq,refs,hql]
    exact ⟨by intro row h; simp at h; subst h; rfl,by omega,fun x _ y hy => by rw [keptRow_refs hy]; simp⟩
   refine ZB ⟨i + 1,by omega,by omega,ZU ?_ ?_ ?_⟩
   ·simp [go_sem,htk]
   ·simp [go_sem,htk,htq,ZK]
   ·simp [go_sem]
 have e : i = l.length := by simp at h; omega
 subst e
 rw [hz]
 clear hz h
 have hql := rkT_len k l
 cases hb : (rkT k l).1 with
 | true =>
  rw [keepK_some hb]
  refine wG tK ?_
  refine wDT (hb := by simp) (hk := ?_)
  refine wG tK ?_
  refine ZZ 46 rfl (keptRow_pure _) ?_
  simp only [go_sem]
  refine wT ?_
  simp [hql]
  exact List.take_of_length_le (by simp [hql])
 | false =>
  obtain ⟨h1,h2⟩ := keepK_none (room := room) hb
  rw [h1,h2]
  rw [h1] at hql
  clear hi h1 h2
  refine wG tK ?_
  refine wDF (hb := by simp) (hk := ?_)
  refine wG tK ?_
  refine ZL (fun L : List Kept => shrinkK room (L.length + 1) L = shrinkK room (l.length + 1) l ∧ L.length ≤ l.length) (fun L => L.length) (fun L => [(8,.osl 46 8 0 L.length),(13,.any),(14,.any),(15,.any),(50,.any),(51,.any),(52,.any),(53,.any),(54,.any),(55,.any),(56,.any),(57,.any),(58,.any),(59,.any),(60,.any),(61,.any),(62,.any),(63,.any),(64,.any),(65,.any),(66,.any),(67,.any),(68,.any),(69,.any),(70,.any),(71,.any),(72,.any),(73,.any),(74,.any),(75,.any),(76,.any),(77,.any),(78,.any),(79,.any),(80,.any),(81,.any),(82,.any),(83,.any),(84,.any),(85,.any),(86,.any),(87,.any),(88,.any),(89,.any),(90,.any),(91,.any),(92,.any),(93,.any),(94,.any),(95,.any)]) (fun L => [(46,.cells 113 8 (L.map ZK))]) l ⟨rfl,Nat.le_refl _⟩ ?_ fun L hL => ?_
  ·simp only [go_sem]
   exact ZU (by simp [go_sem]) (by simp [go_sem]) (by simp [go_sem])
  obtain ⟨hsh,hLl⟩ := hL
  rw [← hsh]
  simp only [go_sem]
  refine wG tK ?_
  refine wD (fun h => ?_) (fun h => ?_)
  ·have hge : (L.length : Int) ≥ room := by simpa using h
   refine wG tK ?_
   refine ZL (fun j : Nat => j ≤ L.length) (fun j => L.length - j) (fun j => [(13,.int .i64 (idxI (worstAt L j))),(14,.any),(15,.any),(56,.int .i64 j),(57,.any),(58,.any),(59,.any),(60,.any),(61,.any),(62,.any),(63,.any),(64,.any),(65,.any),(66,.any),(67,.any),(68,.any),(69,.any),(70,.any),(71,.any),(72,.any),(73,.any),(74,.any),(75,.any),(76,.any),(77,.any),(78,.any),(79,.any),(80,.any),(81,.any),(82,.any),(83,.any)]) (fun _ => []) 0 (by omega) ?_ fun j hj => ?_
   ·simp only [go_sem]
    exact ZU (by simp [go_sem,worstAt,idxI]) (by simp [go_sem]) (by simp [go_sem])
   simp only [go_sem]
   refine wG tK ?_
   refine wD (fun h => ?_) (fun h => ?_)
   ·have hlt : j < L.length := by simp at h; omega
    have hg : (L.map ZK).getD j [] = ZK (L.getD j default) := Fam.getD hlt
    have hw : IntKind.i64.wrap ((j : Int) + 1) = ((j + 1 : Nat) : Int) := by rw [Eng.wrap_small (by omega) (by omega)]; rfl
    have hwa : worstAt L (j + 1) = if (L.getD j default).dirty || (L.getD j default).node.fid == 0 then worstAt L j
      else match worstAt L j with
       | none => some j
       | some b => if cmpK (L.getD j default) (L.getD b default) < 0 then some j else some b := rfl
    have hwl := worstAt_lt L j
    generalize L.getD j default = x at hg hwa
    refine wGq tK ?_ ?_ (by simp only [go_sem,hg,ZK]; try exact rfl)
    ·simp [hg,ZK,hlt]
    refine ZW ZM ?_
    refine ZS rfl ?_
    cases hd : x.dirty with
    | true =>
     rw [hd,Bool.true_or,if_pos rfl] at hwa
     refine sN tK 4 ?_ (h := by simp only [go_sem,hd]; try exact rfl) (hp := by simp [go_sem,hd])
     try simp only [hd,Bool.not_true]
     iterate 3 refine sS ?_
     refine sSB ?_
     refine sN tK 2 ?_
     refine sS ?_
     refine sSB ?_
     refine sSB ?_
     iterate 5 refine sS ?_
     refine sSB ?_
     refine sSB ?_
     refine sN tK 1 ?_
     refine sE ?_
     refine wKd ?_
     try simp only [go_sem,gA,gB,gC]
     refine wD (fun h => ?_) (fun h => ?_)
     ·exfalso; simp at h
     refine wG tK ?_ (by simp only [go_sem,hw]; try exact rfl) (by simp [go_sem,hw])
     refine ZB ⟨j + 1,by omega,by omega,ZU ?_ ?_ ?_⟩
     ·simp [go_sem,hwa]
     ·simp [go_sem]
     ·simp [go_sem]
    | false =>
     by_cases hf : x.node.fid = 0
     ·have hf0 : (x.node.fid == 0) = true := by simp [hf]
      have hf1 : (x.node.fid != 0) = false := by simp [hf]
      rw [hd,hf0,Bool.or_true,if_pos rfl] at hwa
      refine sN tK 10 ?_ (h := by simp only [go_sem,hd,hf1]; try exact rfl) (hp := by simp [go_sem,hd,hf1])
      try simp only [hd,hf1,Bool.not_false,cond_true]
      refine sS ?_
      refine sSB ?_
      refine sSB ?_
      iterate 5 refine sS ?_
      refine sSB ?_
      refine sSB ?_
      refine sN tK 1 ?_
      refine sE ?_
      refine wKd ?_
      try simp only [go_sem,gA,gB,gC]
      refine wD (fun h => ?_) (fun h => ?_)
      ·exfalso; simp at h
      refine wG tK ?_ (by simp only [go_sem,hw]; try exact rfl) (by simp [go_sem,hw])
      refine ZB ⟨j + 1,by omega,by omega,ZU ?_ ?_ ?_⟩
      ·simp [go_sem,hwa]
      ·simp [go_sem]
      ·simp [go_sem]
     ·have hf0 : (x.node.fid == 0) = false := by simp [hf]
      have hf1 : (x.node.fid != 0) = true := by simp [hf]
      rw [hd,hf0,Bool.or_false,if_neg Bool.false_ne_true] at hwa
      cases hwb : worstAt L j with
      | none =>
       rw [hwb] at hwa
       simp only at hwa
       refine sN tK 13 ?_ (h := by simp only [go_sem,hd,hf1,idxI]; try exact rfl) (hp := by simp [go_sem,hd,hf1,idxI])
       try simp only [hd,hf1,Bool.not_false,cond_true,show decide ((-1 : Int) < 0) = true from rfl,beq_self_eq_true,Bool.true_and,Bool.and_true]
       iterate 5 refine sS ?_
       refine sSB ?_
       refine sN tK 2 ?_
       refine sE ?_
       refine wKd ?_
       try simp only [go_sem,gA,gB,gC]
       refine wD (fun h => ?_) (fun h => ?_)
       ·refine wG tK ?_ (by simp only [go_sem,hw]; try exact rfl) (by simp [go_sem,hw])
        refine ZB ⟨j + 1,by omega,by omega,ZU ?_ ?_ ?_⟩
        ·simp [go_sem,hwa,idxI]
        ·simp [go_sem]
        ·simp [go_sem]
       ·exfalso; simp at h
      | some b =>
       rw [hwb] at hwa
       simp only at hwa
       have hbj := hwl b hwb
       have hgb : (L.map ZK).getD b [] = ZK (L.getD b default) := Fam.getD (by omega)
       have hneg : decide ((b : Int) < 0) = false := decide_eq_false (by omega)
       generalize L.getD b default = y at hgb hwa
       refine sN tK 13 ?_ (h := by simp only [go_sem,hd,hf1,idxI,hneg]; try exact rfl) (hp := by simp [go_sem,hd,hf1,idxI,hneg])
       try simp only [hd,hf1,hneg,Bool.not_false,cond_true,beq_self_eq_true,Bool.true_and,Bool.and_true]
       refine sNq tK 5 ?_ ?_ (h := by simp only [go_sem,hgb,ZK]; try exact rfl)
       ·simp [hgb,ZK]
        omega
       have hws := worse_ok x y
       unfold ZK at hws
       rw [hd] at hws
       refine sCC Tryz.func125 (hf := fun hb => (hws)) (hk := ?_)
       refine sN tK 2 ?_
       refine sE ?_
       refine wKd ?_
       try simp only [go_sem,gA,gB,gC]
       refine wD (fun h => ?_) (fun h => ?_)
       ·have hc : cmpK x y < 0 := by simpa using h
        rw [if_pos hc] at hwa
        refine wG tK ?_ (by simp only [go_sem,hw]; try exact rfl) (by simp [go_sem,hw])
        refine ZB ⟨j + 1,by omega,by omega,ZU ?_ ?_ ?_⟩
        ·simp [go_sem,hwa,idxI]
        ·simp [go_sem]
        ·simp [go_sem]
       ·have hc : ¬ cmpK x y < 0 := by simpa using h
        rw [if_neg hc] at hwa
        refine wG tK ?_ (by simp only [go_sem,hw]; try exact rfl) (by simp [go_sem,hw])
        refine ZB ⟨j + 1,by omega,by omega,ZU ?_ ?_ ?_⟩
        ·simp [go_sem,hwa,idxI]
        ·simp [go_sem]
        ·simp [go_sem]
   ·have e : j = L.length := by simp at h; omega
    subst e
    have hwk : worstAt L L.length = worstK L := rfl
    rw [hwk]
    cases hwb : worstK L with
    | none =>
     have hn : shrinkK room (L.length + 1) L = none := by rw [shrinkK,if_pos hge,hwb]
     rw [hn]
     refine wG tK ?_ (by simp only [go_sem,idxI]; try exact rfl) (by simp [go_sem,idxI])
     refine wD (fun h => ?_) (fun h => ?_)
     ·refine wG tK ?_
      refine wT ?_
      rfl
     ·exfalso; simp at h
    | some b =>
     have hbl : b < L.length := worstAt_lt L L.length b hwb
     have hsh2 : shrinkK room (L.length + 1) L = shrinkK room L.length (L.eraseIdx b) := by rw [shrinkK,if_pos hge,hwb]
     have hel : (L.eraseIdx b).length + 1 = L.length := by rw [List.length_eraseIdx,if_pos hbl]; omega
     have her : L.eraseIdx b = L.take b ++ L.drop (b + 1) := List.eraseIdx_eq_take_drop_succ L b
     have hneg : decide ((b : Int) < 0) = false := decide_eq_false (by omega)
     have hwb1 : IntKind.i64.wrap ((b : Int) + 1) = ((b + 1 : Nat) : Int) := by rw [Eng.wrap_small (by omega) (by omega)]; rfl
     have hA1 : List.take b (L.map ZK) = (L.take b).map ZK := by rw [List.map_take]
     have hB1 : List.take (L.length - (b + 1)) (List.drop (b + 1) (L.map ZK)) = (L.drop (b + 1)).map ZK := by rw [← List.map_drop,List.take_of_length_le (by simp)]
     have hlA : (L.take b).length = b := by rw [List.length_take]; omega
     have hlB : (L.drop (b + 1)).length = L.length - (b + 1) := List.length_drop
     generalize L.take b = A at hA1 hlA her
     generalize L.drop (b + 1) = B at hB1 hlB her
     subst hlA
     refine wG tK ?_ (by simp only [go_sem,idxI]; try exact rfl) (by simp [go_sem,idxI])
     refine wD (fun h => ?_) (fun h => ?_)
     ·exfalso; simp at h; omega
     refine wG tK ?_
     refine ZW ZM ?_
     refine draw_earlyM 1 [0,2,3,4,5,6,7,8,9,10] [0,0,1,2,3,4,5,6,7,8,9] rfl rfl rfl (fun _ _ _ h => h) (by kernel_rfl) (by kernel_rfl) (by simp [Ym,remOp,renE]; exact rfl) (by simp only [go_sem]; try exact rfl) ?_
     simp only [go_sem,gA,gB,gC]
     refine draw_earlyM 1 [0,2,3,4,5,6,7,8,9] [0,0,1,2,3,4,5,6,7,8] rfl rfl rfl (fun _ _ _ h => h) (by kernel_rfl) (by kernel_rfl) (by simp [Ym,remOp,renE]; exact rfl) (by simp only [go_sem]; try exact rfl) ?_
     simp only [go_sem,gA,gB,gC]
     refine draw_earlyV 1 [0,2,3,4,5,6,7,8] [0,0,1,2,3,4,5,6,7] rfl rfl (fun _ _ _ h => h) (by kernel_rfl) (by kernel_rfl) (by simp [Ym,remOp,renE]; exact rfl) (slice_any tK rfl rfl rfl (by decide) (by simp only [go_sem]; try exact rfl) (.inl ⟨rfl,rfl⟩) (.inr ⟨_,rfl,_,(by simp only [go_sem]; try exact rfl)⟩) (by simp [hbl,Nat.le_of_lt hbl]) (by simp [hbl,Nat.le_of_lt hbl])) ?_
     simp only [go_sem,gA,gB,gC]
     refine draw_earlyM 2 [0,1,3,4,5,6,7] [0,1,0,2,3,4,5,6] rfl rfl rfl (fun _ _ _ h => h) (by kernel_rfl) (by kernel_rfl) (by simp [Ym,remOp,renE]; exact rfl) (by simp only [go_sem]; try exact rfl) ?_
     simp only [go_sem,gA,gB,gC]
     refine draw_earlyM 2 [0,1,3,4,5,6] [0,1,0,2,3,4,5] rfl rfl rfl (fun _ _ _ h => h) (by kernel_rfl) (by kernel_rfl) (by simp [Ym,remOp,renE]; exact rfl) (by simp only [go_sem]; try exact rfl) ?_
     simp only [go_sem,gA,gB,gC]
     refine draw_earlyV 2 [0,1,3,4,5] [0,1,0,2,3,4] rfl rfl (fun _ _ _ h => h) (by kernel_rfl) (by kernel_rfl) (by simp [Ym,remOp,renE]; exact rfl) (add_any rfl (by simp only [go_sem]; try exact rfl) (by simp only [go_sem]; try exact rfl)) ?_
     simp only [go_sem,hwb1,gA,gB,gC]
     refine draw_earlyV 2 [0,1,3,4] [0,1,0,2,3] rfl rfl (fun _ _ _ h => h) (by kernel_rfl) (by kernel_rfl) (by simp [Ym,remOp,renE]; exact rfl) (slice_any tK rfl rfl rfl (by decide) (by simp only [go_sem]; try exact rfl) (.inr ⟨_,rfl,_,(by simp only [go_sem]; try exact rfl)⟩) (.inl ⟨rfl,rfl⟩) (by simp [hbl,Nat.succ_le_of_lt hbl]) (by simp [hbl,Nat.succ_le_of_lt hbl])) ?_
     simp only [go_sem,gA,gB,gC]
     refine drawD (n := 4) (by kernel_rfl) rfl ?_
     refine YD (i := 0) (by kernel_rfl) rfl rfl (YT tK rfl (by simp only [go_sem]; try exact rfl) (by simp [go_sem])) ?_
     try simp only [go_sem,hA1,hB1,gD,gE,gF,gG,hwb1,gA,gB,gC]
     refine YD (i := 1) (by kernel_rfl) rfl rfl (YT tK rfl (by simp only [go_sem,hA1,hB1,gD,gE,gF,gG,hwb1,gA,gB,gC]; try exact rfl) ?_) ?_
     ·simp [go_sem,hA1,hB1,gD,gE,gF,gG,hwb1,gA,gB,gC]
      omega
     try simp only [go_sem,hA1,hB1,gD,gE,gF,gG,hwb1,gA,gB,gC]
     refine YD (i := 2) (by kernel_rfl) rfl rfl (YT tK rfl (by simp only [go_sem,hA1,hB1,gD,gE,gF,gG,hwb1,gA,gB,gC]; try exact rfl) ?_) ?_
     ·simp [go_sem,hA1,hB1,gD,gE,gF,gG,hwb1,gA,gB,gC,hlB]
      omega
     try simp only [go_sem,hA1,hB1,gD,gE,gF,gG,hwb1,gA,gB,gC]
     refine YD (i := 3) (by kernel_rfl) rfl rfl (YT tK rfl (by simp only [go_sem]; try exact rfl) (by simp [go_sem])) ?_
     refine drawD_end (by kernel_rfl) ?_
     simp only [go_sem,gA,gB,gC]
     refine Yl (le_drop 46) ?_
     refine Yl (le_mv 95 46) ?_
     refine wG tK ?_
     have her2 : L.eraseIdx A.length = A ++ B := her
     have hlen2 : (A ++ B).length + 1 = L.length := by rw [← her]; exact hel
     refine ZB ⟨A ++ B,⟨by rw [hsh2,her,hlen2],by omega⟩,by omega,ZU ?_ ?_ ?_⟩
     ·simp [go_sem,hlB]
     ·simp [go_sem,hB1]
     ·simp [go_sem]
  ·have hlt : ¬ (L.length : Int) ≥ room := by simpa using h
   have hn : shrinkK room (L.length + 1) L = some L := by rw [shrinkK,if_neg hlt]
   rw [hn]
   refine wGq tK ?_ ?_
   ·simp
    exact ⟨by intro row h; simp at h; subst h; rfl,by omega⟩
   rw [show List.map ZK L ++ [[AV.int .i64 k.node.fid,.bool k.node.dir,.sl (k.node.data.map ZY),.sl (k.node.entries.map ZE),.int .i64 k.node.version,.bool k.dirty,.int .i64 k.worth,.int .i64 k.last]] = (L ++ [k]).map ZK by simp [ZK]]
   refine ZZ 99 rfl (keptRow_pure _) ?_
   simp only [go_sem]
   refine wT ?_
   simp
   exact List.take_of_length_le (by simp)
theorem rkeep_ok (l : List Kept) (room : Int) (k : Kept) (hl : l.length ≤ 90000000) : FnOK Tryz.prog 108 [.sl (l.map ZK),.int .i64 room,.agg (ZK k)] [] (fun r _ => r = keepR l room k) := by
 have h := rkeep_raw l room k hl
 unfold keepRn at h
 unfold keepR
 cases e : keepK l room k with
 | none =>
  rw [e] at h
  exact h.nrmR rfl
 | some L =>
  rw [e] at h
  exact h
theorem rfreshK_ok (l : List Kept) (at_ : List Node) (hl : l.length ≤ 90000000) (hu : Up at_) : FnOK Tryz.prog 52 [.sl (l.map ZK),.rm (mN (mapD at_))] [] (fun r _ => r = .sl ((l.filter fun k => !staleK at_ k).map ZK)) := by
 have hgf : ∀ k,Zg (mN (mapD at_)) k = (Yf at_ k).map fun n => AV.agg (ZN n) := fun k => by rw [mN_get,mapD_get hu]
 refine ZF tK (Tryz.func52) rfl (fun C => ?_)
 simp only [Tryz.ntmps52,Tryz.results52,go_sem]
 refine wG tK ?_
 refine Yl (Ze 40 113 8 (by simp only [go_sem]; try exact rfl)) ?_
 simp only [go_sem]
 refine ZL (fun i : Nat => i ≤ l.length) (fun i => l.length - i) (fun i => [(5,.osl 40 8 0 ((l.take i).filter fun k => !staleK at_ k).length),(7,.any),(8,.any),(9,.any),(12,.int .i64 i),(13,.any),(14,.any),(15,.any),(16,.any),(17,.any),(18,.any),(19,.any),(20,.any),(21,.any),(22,.any),(23,.any),(24,.any),(25,.any),(26,.any),(27,.any),(28,.any),(29,.any),(30,.any),(31,.any),(32,.any),(33,.any),(34,.any),(35,.any),(36,.any),(37,.any),(38,.any),(39,.any),(40,.any),(41,.any)]) (fun i => [(40,.cells 113 8 (((l.take i).filter fun k => !staleK at_ k).map ZK))]) 0 (by omega) ?_ fun i hi => ?_
 ·simp only [go_sem]
  exact ZU (by simp [go_sem]) (by simp [go_sem]) (by simp [go_sem])
 simp only [go_sem]
 refine wG tK ?_
 refine wD (fun h => ?_) (fun h => ?_)
 ·have hlt : i < l.length := by simp at h; omega
  have hg : (l.map ZK).getD i [] = ZK (l.getD i default) := Fam.getD hlt
  have hw := wi1 (i := i) (by omega)
  have htk : (l.take (i + 1)).filter (fun k => !staleK at_ k) = (l.take i).filter (fun k => !staleK at_ k) ++ if staleK at_ (l.getD i default) = true then [] else [l.getD i default] := by
   rw [ZT hlt,List.filter_append,List.filter_cons]
   cases staleK at_ (l.getD i default) <;> simp
  have hll : ((l.take i).filter fun k => !staleK at_ k).length ≤ i := by
   have := List.length_filter_le (fun k => !staleK at_ k) (l.take i)
   simp only [List.length_take] at this
   omega
  generalize (l.take i).filter (fun k => !staleK at_ k) = D at htk hll
  generalize l.getD i default = k at hg htk
  have hg1 := hgf k.node.fid
  have hst : staleK at_ k = (!k.dirty && (!(Yf at_ k.node.fid).isSome || !(((Yf at_ k.node.fid).getD Yz).version == k.node.version))) := by unfold staleK; rw [isAt_eq]
  have htq : List.take D.length (D.map ZK) = D.map ZK := List.take_of_length_le (by simp)
  cases hff : Yf at_ k.node.fid with
  | none =>
   rw [hff] at hg1 hst
   simp only [Option.map_none] at hg1
   refine wR ?_
   refine wNq tK 4 ?_ ?_ (h := by simp only [go_sem,hg,ZK]; try exact rfl)
   ·simp [hg,ZK,hlt]
   refine wR ?_
   refine wN tK 11 ?_ (h := by simp only [go_sem,hg1]; try exact rfl) (hp := by simp [go_sem,hg1])
   cases hd : k.dirty with
   | true =>
    rw [hd] at hst
    rw [hst,if_neg (by simp)] at htk
    refine wG tK ?_ (by simp only [go_sem,hd,cond_true,cond_false]; try exact rfl) (by simp [go_sem,hd,cond_true,cond_false])
    refine wDT (hb := by simp) (hk := ?_)
    refine wGq tK ?_ ?_ (by simp only [go_sem,hw]; try exact rfl)
    ·simp [htq,refs]
     exact ⟨by intro row h; simp at h; subst h; rfl,by omega⟩
    refine ZB ⟨i + 1,by omega,by omega,ZU ?_ ?_ ?_⟩
    ·simp [go_sem,htk]
    ·simp [go_sem,htk,htq,ZK,hd]
    ·simp [go_sem]
   | false =>
    rw [hd] at hst
    rw [hst,if_pos (by simp)] at htk
    refine wG tK ?_ (by simp only [go_sem,hd,cond_true,cond_false]; try exact rfl) (by simp [go_sem,hd,cond_true,cond_false])
    refine wDF (hb := by simp) (hk := ?_)
    refine wG tK ?_ (by simp only [go_sem,hw]; try exact rfl) (by simp [go_sem,hw])
    refine ZB ⟨i + 1,by omega,by omega,ZU ?_ ?_ ?_⟩
    ·simp [go_sem,htk]
    ·simp [go_sem,htk]
    ·simp [go_sem]
  | some n =>
   rw [hff] at hg1 hst
   simp only [Option.map_some] at hg1
   refine wR ?_
   refine wNq tK 4 ?_ ?_ (h := by simp only [go_sem,hg,ZK]; try exact rfl)
   ·simp [hg,ZK,hlt]
   refine wR ?_
   refine wN tK 11 ?_ (h := by simp only [go_sem,hg1,ZN]; try exact rfl) (hp := by simp [go_sem,hg1,ZN])
   cases hd : k.dirty with
   | true =>
    rw [hd] at hst
    rw [hst,if_neg (by simp)] at htk
    refine wG tK ?_ (by simp only [go_sem,hd,cond_true,cond_false]; try exact rfl) (by simp [go_sem,hd,cond_true,cond_false])
    refine wDT (hb := by simp) (hk := ?_)
    refine wGq tK ?_ ?_ (by simp only [go_sem,hw]; try exact rfl)
    ·simp [htq,refs]
     exact ⟨by intro row h; simp at h; subst h; rfl,by omega⟩
    refine ZB ⟨i + 1,by omega,by omega,ZU ?_ ?_ ?_⟩
    ·simp [go_sem,htk]
    ·simp [go_sem,htk,htq,ZK,hd]
    ·simp [go_sem]
   | false =>
    rw [hd] at hst
    cases hv : (n.version == k.node.version) with
    | true =>
     rw [hst,if_neg (by simp [hv])] at htk
     refine wG tK ?_ (by simp only [go_sem,hd,hv,cond_true,cond_false]; try exact rfl) (by simp [go_sem,hd,hv,cond_true,cond_false])
     refine wDT (hb := by simp) (hk := ?_)
     refine wGq tK ?_ ?_ (by simp only [go_sem,hw]; try exact rfl)
     ·simp [htq,refs]
      exact ⟨by intro row h; simp at h; subst h; rfl,by omega⟩
     refine ZB ⟨i + 1,by omega,by omega,ZU ?_ ?_ ?_⟩
     ·simp [go_sem,htk]
     ·simp [go_sem,htk,htq,ZK,hd]
     ·simp [go_sem]
    | false =>
     rw [hst,if_pos (by simp [hv])] at htk
     refine wG tK ?_ (by simp only [go_sem,hd,hv,cond_true,cond_false]; try exact rfl) (by simp [go_sem,hd,hv,cond_true,cond_false])
     refine wDF (hb := by simp) (hk := ?_)
     refine wG tK ?_ (by simp only [go_sem,hw]; try exact rfl) (by simp [go_sem,hw])
     refine ZB ⟨i + 1,by omega,by omega,ZU ?_ ?_ ?_⟩
     ·simp [go_sem,htk]
     ·simp [go_sem,htk]
     ·simp [go_sem]
 ·have e : i = l.length := by simp at h; omega
  subst e
  rw [List.take_length]
  refine wG tK ?_
  refine ZZ 40 rfl (keptRow_pure _) ?_
  simp only [go_sem]
  refine wT ?_
  simp
theorem mput_at {α : Type} {n : Int} {v : α} [Inhabited α] : ∀ (S : List (Int × α)) (k : Nat),k ≤ S.length → (∀ j,j < k → (S.getD j default).1 < n) → (∀ h : k < S.length,n < (S.getD k default).1) → Zp S n v = S.take k ++ (n,v) :: S.drop k
 | [],k,hk,_,_ => by
  have : k = 0 := by simpa using hk
  subst this
  rfl
 | p :: S,0,_,_,h => by
  have := h (by simp)
  simp only [List.getD_cons_zero] at this
  simp only [Zp,List.take_zero,List.drop_zero,List.nil_append]
  rw [if_neg (by omega),if_pos this]
 | p :: S,k + 1,hk,h1,h2 => by
  have h0 := h1 0 (by omega)
  simp only [List.getD_cons_zero] at h0
  have ih := mput_at (n := n) (v := v) S k (by simpa using hk) (fun j hj => by have := h1 (j + 1) (by omega); simpa using this) (fun h => by have := h2 (by simpa using h); simpa using this)
  simp only [Zp,List.take_succ_cons,List.drop_succ_cons,List.cons_append]
  rw [if_neg (by omega),if_neg (by omega),ih]
def rowP (p : Int × Node) : List AV := ZN p.2
theorem fam_rowP : Fam rowP 5 := ⟨fun _ => rfl,fun _ => rfl,fun _ => rfl,fun _ => rfl⟩
@[go_sem,simp] theorem rowP_rowsOf (l : List _) : Eng.rowsOf 5 (l.map rowP) := fam_rowP.rowsOf l
@[go_sem,simp] theorem rowP_leaf (l : List _) : ((l.map rowP).all fun row => row.all AV.leaf) = true := fam_rowP.allLeaf l
@[go_sem,simp] theorem rowP_pure (l : List _) : ((l.map rowP).all fun row => row.all AV.pureB) = true := fam_rowP.allPure l
@[go_sem,simp] theorem rowP_noRef (id : Nat) (l : List _) : ((l.map rowP).all fun row => row.all fun x => !(refs x).contains id) = true := fam_rowP.noRef id l
@[go_sem,simp] theorem rowP_refsB (e s : Nat) (l : List _) : refsB (.cells e s (l.map rowP)) = [] := fam_rowP.refsB e s l
@[go_sem,simp] theorem rowP_frzL (id s : Nat) (rows : List (List AV)) (l : List _) : (l.map rowP).map (frzL id s rows) = l.map rowP := Fam.frzL (fun _ _ _ _ => rfl) id s rows l
theorem row5 (nd : Node) : rowsOf 5 [[AV.int .i64 nd.fid,.bool nd.dir,.sl (nd.data.map ZY),.sl (nd.entries.map ZE),.int .i64 nd.version]] := by
 intro row h
 rw [List.mem_singleton] at h
 subst h
 rfl
theorem list_raw (m : List (Int × Node)) (hr : RiseM m) (hkf : ∀ p,p ∈ m → p.2.fid = p.1) (hlen : m.length ≤ 50000000) : FnOK Tryz.prog 37 [.rm (mN m)] [] (fun r _ => r = .sl (m.map rowP)) := by
 refine ZF tK (Tryz.func37) rfl (fun C => ?_)
 simp only [Tryz.ntmps37,Tryz.results37,go_sem]
 refine wG tK ?_
 refine cw_range tK rfl rfl rfl (by simp only [go_sem]; try exact rfl) (by simp only [go_sem]; try exact rfl) (by simp only [go_sem]; try exact rfl) ?_
 refine wG tK ?_
 refine Yl (Ze 99 60 5 (by simp only [go_sem]; try exact rfl)) ?_
 simp only [go_sem]
 refine ZL (fun _ : List Int => True) (fun seen => leftM m seen) (fun seen => [(3,.osl 99 5 0 (seenM m seen).length),(5,.any),(6,.any),(9,.any),(10,.any),(11,.any),(12,.any),(13,.any),(14,.any),(15,.any),(16,.any),(17,.any),(18,.any),(19,.any),(20,.any),(21,.any),(22,.any),(23,.any),(24,.any),(25,.any),(26,.any),(27,.any),(28,.any),(29,.any),(30,.any),(31,.any),(32,.any),(33,.any),(34,.any),(35,.any),(36,.any),(37,.any),(38,.any),(39,.any),(40,.any)]) (fun seen => [(99,.cells 60 5 ((seenM m seen).map rowP)),(8,.iter (mN m) seen)]) [] trivial ?_ fun seen _ => ?_
 ·simp only [go_sem]
  exact ZU (by simp [go_sem,seenM_nil]) (by simp [go_sem,seenM_nil,mN_nil]) (by simp [go_sem])
 simp only [go_sem]
 refine wR ?_
 refine cw_next rfl rfl (by simp only [go_sem]; try exact rfl) (by simp only [go_sem]; try exact rfl) (fun hall => ?_) (fun n v hnv hns => ?_)
 ·have hsa : seenM m seen = m := seenM_all fun p hp => hall (p.1,.agg (ZN p.2)) (mN_has hp)
  rw [hsa]
  simp only [go_sem]
  refine wG tK ?_
  refine Vf rfl ?_
  refine wG tK ?_
  refine ZZ 99 rfl (rowP_pure _) ?_
  simp only [go_sem]
  refine wT ?_
  simp
 ·obtain ⟨nd,rfl,hmem⟩ := mN_mem hnv
  have hpt := seenM_put hr hmem (seen := seen)
  have hlt := leftM_lt hmem hns
  have hfid : nd.fid = n := hkf _ hmem
  have hsub : ∀ p,p ∈ seenM m seen → p.2.fid = p.1 ∧ p.1 ≠ n := fun p hp => by
   have h1 := List.mem_filter.1 hp
   refine ⟨hkf p h1.1,fun e => hns ?_⟩
   have := h1.2
   rw [e] at this
   simpa using this
  have hsl : (seenM m seen).length ≤ m.length := List.length_filter_le _ _
  have hsr : RiseM (seenM m seen) := hr.filter _
  simp only [go_sem]
  refine wG tK ?_
  refine Vt rfl ?_
  refine wR ?_
  refine cw_entry rfl rfl (by simp only [go_sem]; try exact rfl) (by simp only [go_sem]; try exact rfl) (hnv) ?_
  simp only [go_sem]
  refine wGq tK ?_ ?_ (by simp only [go_sem,ZN]; try exact rfl)
  ·simp [ZN,AV.deepB,AV.pureB]
  clear hlt hnv
  have hlt := leftM_lt hmem hns
  generalize hS : seenM m seen = S at *
  refine ZL (fun k : Nat => k ≤ S.length ∧ ∀ j,j < k → (S.getD j default).1 < n) (fun k => S.length - k) (fun k => [(6,.int .i64 k),(13,.any),(14,.any),(15,.any),(16,.any),(17,.any),(18,.any),(19,.any),(20,.any),(21,.any),(22,.any),(23,.any),(24,.any),(25,.any),(26,.any),(27,.any),(28,.any)]) (fun _ => []) 0 ⟨by omega,by omega⟩ ?_ fun k hk => ?_
  ·simp only [go_sem]
   exact ZU (by simp [go_sem]) (by simp [go_sem]) (by simp [go_sem])
  obtain ⟨hk,hk2⟩ := hk
  simp only [go_sem]
  refine wG tK ?_
  refine ZW ZM ?_
  refine ZS rfl ?_
  by_cases hkl : k < S.length
  ·have hg : (S.map rowP).getD k [] = rowP (S.getD k default) := Fam.getD hkl
   have hw : IntKind.i64.wrap ((k : Int) + 1) = ((k + 1 : Nat) : Int) := by rw [Eng.wrap_small (by omega) (by omega)]; rfl
   have hmk := hsub _ (YG hkl)
   have hat : (∀ h : k < S.length,n < (S.getD k default).1) → Zp S n nd = S.take k ++ (n,nd) :: S.drop k := mput_at S k hk hk2
   have hk3 : (S.getD k default).1 < n → ∀ j,j < k + 1 → (S.getD j default).1 < n := fun h0 j hj => by
    rcases Nat.lt_succ_iff_lt_or_eq.1 hj with h1 | rfl
    ·exact hk2 j h1
    ·exact h0
   generalize S.getD k default = q at hg hmk hat hk3
   refine sNq tK 14 ?_ ?_ (h := by simp only [go_sem,hg,rowP,ZN]; try exact rfl)
   ·simp [hg,rowP,ZN,hkl]
   refine sE ?_
   refine wKd ?_
   try simp only [go_sem,gA,gB,gC]
   refine wD (fun h => ?_) (fun h => ?_)
   ·have hqn : q.1 < n := by
     rw [← hmk.1,← hfid]; simpa [hkl] using h
    refine wG tK ?_ (by simp only [go_sem,hw]; try exact rfl) (by simp [go_sem,hw])
    refine ZB ⟨k + 1,⟨by omega,hk3 hqn⟩,by omega,ZU ?_ ?_ ?_⟩
    ·simp [go_sem]
    ·simp [go_sem]
    ·simp [go_sem]
   ·have hqn : ¬ q.1 < n := by
     rw [← hmk.1,← hfid]; simpa [hkl] using h
    have hput := hat fun _ => by have := hmk.2; omega
    have hA1 : List.take k (S.map rowP) = (S.take k).map rowP := by rw [List.map_take]
    have hB1 : List.take (S.length - k) (List.drop k (S.map rowP)) = (S.drop k).map rowP := by rw [← List.map_drop,List.take_of_length_le (by simp)]
    have hlA : (S.take k).length = k := by rw [List.length_take]; omega
    have hlB : (S.drop k).length = S.length - k := List.length_drop
    generalize S.take k = A at hA1 hlA hput
    generalize S.drop k = B at hB1 hlB hput
    subst hlA
    have htk : List.take (A.length + 1) (A.map rowP ++ [[AV.int .i64 nd.fid,.bool nd.dir,.sl (nd.data.map ZY),.sl (nd.entries.map ZE),.int .i64 nd.version]]) = A.map rowP ++ [[AV.int .i64 nd.fid,.bool nd.dir,.sl (nd.data.map ZY),.sl (nd.entries.map ZE),.int .i64 nd.version]] := List.take_of_length_le (by simp)
    refine wG tK ?_
    refine ZW ZM ?_
    refine draw_earlyM 1 [0,2,3,4,5,6,7,8,9,10,11,12] [0,0,1,2,3,4,5,6,7,8,9,10,11] rfl rfl rfl (fun _ _ _ h => h) (by kernel_rfl) (by kernel_rfl) (by simp [Ym,remOp,renE]; exact rfl) (by simp only [go_sem]; try exact rfl) ?_
    simp only [go_sem,gA,gB,gC]
    refine draw_earlyM 1 [0,2,3,4,5,6,7,8,9,10,11] [0,0,1,2,3,4,5,6,7,8,9,10] rfl rfl rfl (fun _ _ _ h => h) (by kernel_rfl) (by kernel_rfl) (by simp [Ym,remOp,renE]; exact rfl) (by simp only [go_sem]; try exact rfl) ?_
    simp only [go_sem,gA,gB,gC]
    refine draw_earlyV 1 [0,2,3,4,5,6,7,8,9,10] [0,0,1,2,3,4,5,6,7,8,9] rfl rfl (fun _ _ _ h => h) (by kernel_rfl) (by kernel_rfl) (by simp [Ym,remOp,renE]; exact rfl) (slice_any tK rfl rfl rfl (by decide) (by simp only [go_sem]; try exact rfl) (.inl ⟨rfl,rfl⟩) (.inr ⟨_,rfl,_,(by simp only [go_sem]; try exact rfl)⟩) (by simp [hk]) (by simp [hk])) ?_
    simp only [go_sem,gA,gB,gC]
    refine draw_earlyM 5 [0,1,2,3,4,6,7,8,9] [0,1,2,3,4,0,5,6,7,8] rfl rfl rfl (fun _ _ _ h => h) (by kernel_rfl) (by kernel_rfl) (by simp [Ym,remOp,renE]; exact rfl) (by simp only [go_sem]; try exact rfl) ?_
    simp only [go_sem,gA,gB,gC]
    refine draw_earlyM 5 [0,1,2,3,4,6,7,8] [0,1,2,3,4,0,5,6,7] rfl rfl rfl (fun _ _ _ h => h) (by kernel_rfl) (by kernel_rfl) (by simp [Ym,remOp,renE]; exact rfl) (by simp only [go_sem]; try exact rfl) ?_
    simp only [go_sem,gA,gB,gC]
    refine draw_earlyV 5 [0,1,2,3,4,6,7] [0,1,2,3,4,0,5,6] rfl rfl (fun _ _ _ h => h) (by kernel_rfl) (by kernel_rfl) (by simp [Ym,remOp,renE]; exact rfl) (slice_any tK rfl rfl rfl (by decide) (by simp only [go_sem]; try exact rfl) (.inr ⟨_,rfl,_,(by simp only [go_sem]; try exact rfl)⟩) (.inl ⟨rfl,rfl⟩) (by simp [hk]) (by simp [hk])) ?_
    simp only [go_sem,gA,gB,gC]
    refine drawD (n := 7) (by kernel_rfl) rfl ?_
    refine drawD_two (i := 0) (j := 2) (by kernel_rfl) rfl rfl rfl rfl (YT tK rfl (by simp only [go_sem]; try exact rfl) (by simp [go_sem])) (YT tK rfl (by simp only [go_sem]; try exact rfl) (by simp [go_sem])) ?_ ?_
    ·refine drawD_two (i := 1) (j := 2) (by kernel_rfl) rfl rfl rfl rfl (YT tK rfl (by simp only [go_sem,hA1,hB1,htk,gD,gE,gF,gG,gA,gB,gC]; try exact rfl) ?_) (YT tK rfl (by simp only [go_sem,hA1,hB1,htk,gD,gE,gF,gG,gA,gB,gC]; try exact rfl) ?_) ?_ ?_
     ·skip
      try simp only [go_sem,hA1,hB1,htk,gD,gE,gF,gG,gA,gB,gC]
      simp
      omega
     ·skip
      first | trivial | simp [go_sem,hA1,hB1,htk,gD,gE,gF,gG,gA,gB,gC]
     ·try simp only [go_sem,hA1,hB1,htk,gD,gE,gF,gG,gA,gB,gC]
      refine YD (i := 2) (by kernel_rfl) rfl rfl (YT tK rfl (by simp only [go_sem]; try exact rfl) (by simp [go_sem])) ?_
      try simp only [go_sem,hA1,hB1,htk,gD,gE,gF,gG,gA,gB,gC]
      refine YD (i := 3) (by kernel_rfl) rfl rfl (YT tK rfl (by simp only [go_sem]; try exact rfl) (by simp [go_sem])) ?_
      try simp only [go_sem,hA1,hB1,htk,gD,gE,gF,gG,gA,gB,gC]
      refine YD (i := 4) (by kernel_rfl) rfl rfl (YT tK rfl (by simp only [go_sem,hA1,hB1,htk,gD,gE,gF,gG,gA,gB,gC]; try exact rfl) ?_) ?_
      ·simp [go_sem,row5,hA1,hB1,htk,gD,gE,gF,gG,gA,gB,gC]
       omega
      try simp only [go_sem,hA1,hB1,htk,gD,gE,gF,gG,gA,gB,gC]
      refine YD (i := 5) (by kernel_rfl) rfl rfl (YT tK rfl (by simp only [go_sem,hA1,hB1,htk,gD,gE,gF,gG,gA,gB,gC,hlB]; try exact rfl) ?_) ?_
      ·simp [go_sem,hA1,hB1,htk,gD,gE,gF,gG,gA,gB,gC,hlB]
       omega
      try simp only [go_sem,hA1,hB1,htk,gD,gE,gF,gG,gA,gB,gC]
      refine YD (i := 6) (by kernel_rfl) rfl rfl (YT tK rfl (by simp only [go_sem]; try exact rfl) (by simp [go_sem])) ?_
      refine drawD_end (by kernel_rfl) ?_
      simp only [go_sem,gA,gB,gC]
      refine Yl (le_drop 99) ?_
      refine Yl (le_mv 40 99) ?_
      refine wG tK ?_
      refine ZB ⟨n :: seen,hlt,ZU ?_ ?_ ?_⟩
      ·simp [go_sem,← hpt,hput,hlB]
       omega
      ·simp [go_sem,← hpt,hput,rowP,ZN,htk,hB1]
      ·simp [go_sem]
     ·try simp only [go_sem,hA1,hB1,htk,gD,gE,gF,gG,gA,gB,gC]
      refine drawD_two (i := 1) (j := 3) (by kernel_rfl) rfl rfl rfl rfl (YT tK rfl (by simp only [go_sem,hA1,hB1,htk,gD,gE,gF,gG,gA,gB,gC]; try exact rfl) ?_) (YT tK rfl (by simp only [go_sem,hA1,hB1,htk,gD,gE,gF,gG,gA,gB,gC]; try exact rfl) ?_) ?_ ?_
      ·skip
       try simp only [go_sem,hA1,hB1,htk,gD,gE,gF,gG,gA,gB,gC]
       simp
       omega
      ·skip
       first | trivial | simp [go_sem,hA1,hB1,htk,gD,gE,gF,gG,gA,gB,gC]
      ·try simp only [go_sem,hA1,hB1,htk,gD,gE,gF,gG,gA,gB,gC]
       refine YD (i := 3) (by kernel_rfl) rfl rfl (YT tK rfl (by simp only [go_sem]; try exact rfl) (by simp [go_sem])) ?_
       try simp only [go_sem,hA1,hB1,htk,gD,gE,gF,gG,gA,gB,gC]
       refine YD (i := 4) (by kernel_rfl) rfl rfl (YT tK rfl (by simp only [go_sem,hA1,hB1,htk,gD,gE,gF,gG,gA,gB,gC]; try exact rfl) ?_) ?_
       ·simp [go_sem,row5,hA1,hB1,htk,gD,gE,gF,gG,gA,gB,gC]
        omega
       try simp only [go_sem,hA1,hB1,htk,gD,gE,gF,gG,gA,gB,gC]
       refine YD (i := 5) (by kernel_rfl) rfl rfl (YT tK rfl (by simp only [go_sem,hA1,hB1,htk,gD,gE,gF,gG,gA,gB,gC,hlB]; try exact rfl) ?_) ?_
       ·simp [go_sem,hA1,hB1,htk,gD,gE,gF,gG,gA,gB,gC,hlB]
        omega
       try simp only [go_sem,hA1,hB1,htk,gD,gE,gF,gG,gA,gB,gC]
       refine YD (i := 6) (by kernel_rfl) rfl rfl (YT tK rfl (by simp only [go_sem]; try exact rfl) (by simp [go_sem])) ?_
       refine drawD_end (by kernel_rfl) ?_
       simp only [go_sem,gA,gB,gC]
       refine Yl (le_drop 99) ?_
       refine Yl (le_mv 40 99) ?_
       refine wG tK ?_
       refine ZB ⟨n :: seen,hlt,ZU ?_ ?_ ?_⟩
       ·simp [go_sem,← hpt,hput,hlB]
        omega
       ·simp [go_sem,← hpt,hput,rowP,ZN,htk,hB1]
       ·simp [go_sem]
      ·try simp only [go_sem,hA1,hB1,htk,gD,gE,gF,gG,gA,gB,gC]
       refine YD (i := 1) (by kernel_rfl) rfl rfl (YT tK rfl (by simp only [go_sem,hA1,hB1,htk,gD,gE,gF,gG,gA,gB,gC]; try exact rfl) ?_) ?_
       ·skip
        try simp only [go_sem,hA1,hB1,htk,gD,gE,gF,gG,gA,gB,gC]
        simp
        omega
       try simp only [go_sem,hA1,hB1,htk,gD,gE,gF,gG,gA,gB,gC]
       refine YD (i := 4) (by kernel_rfl) rfl rfl (YT tK rfl (by simp only [go_sem,hA1,hB1,htk,gD,gE,gF,gG,gA,gB,gC]; try exact rfl) ?_) ?_
       ·simp [go_sem,row5,hA1,hB1,htk,gD,gE,gF,gG,gA,gB,gC]
        omega
       try simp only [go_sem,hA1,hB1,htk,gD,gE,gF,gG,gA,gB,gC]
       refine YD (i := 5) (by kernel_rfl) rfl rfl (YT tK rfl (by simp only [go_sem,hA1,hB1,htk,gD,gE,gF,gG,gA,gB,gC,hlB]; try exact rfl) ?_) ?_
       ·simp [go_sem,hA1,hB1,htk,gD,gE,gF,gG,gA,gB,gC,hlB]
        omega
       try simp only [go_sem,hA1,hB1,htk,gD,gE,gF,gG,gA,gB,gC]
       refine YD (i := 6) (by kernel_rfl) rfl rfl (YT tK rfl (by simp only [go_sem]; try exact rfl) (by simp [go_sem])) ?_
       refine drawD_end (by kernel_rfl) ?_
       simp only [go_sem,gA,gB,gC]
       refine Yl (le_drop 99) ?_
       refine Yl (le_mv 40 99) ?_
       refine wG tK ?_
       refine ZB ⟨n :: seen,hlt,ZU ?_ ?_ ?_⟩
       ·simp [go_sem,← hpt,hput,hlB]
        omega
       ·simp [go_sem,← hpt,hput,rowP,ZN,htk,hB1]
       ·simp [go_sem]
    ·try simp only [go_sem,hA1,hB1,htk,gD,gE,gF,gG,gA,gB,gC]
     refine drawD_two (i := 0) (j := 3) (by kernel_rfl) rfl rfl rfl rfl (YT tK rfl (by simp only [go_sem,hA1,hB1,htk,gD,gE,gF,gG,gA,gB,gC]; try exact rfl) ?_) (YT tK rfl (by simp only [go_sem,hA1,hB1,htk,gD,gE,gF,gG,gA,gB,gC]; try exact rfl) ?_) ?_ ?_
     ·skip
      first | trivial | simp [go_sem,hA1,hB1,htk,gD,gE,gF,gG,gA,gB,gC]
     ·skip
      first | trivial | simp [go_sem,hA1,hB1,htk,gD,gE,gF,gG,gA,gB,gC]
     ·try simp only [go_sem,hA1,hB1,htk,gD,gE,gF,gG,gA,gB,gC]
      refine drawD_two (i := 1) (j := 3) (by kernel_rfl) rfl rfl rfl rfl (YT tK rfl (by simp only [go_sem,hA1,hB1,htk,gD,gE,gF,gG,gA,gB,gC]; try exact rfl) ?_) (YT tK rfl (by simp only [go_sem,hA1,hB1,htk,gD,gE,gF,gG,gA,gB,gC]; try exact rfl) ?_) ?_ ?_
      ·skip
       try simp only [go_sem,hA1,hB1,htk,gD,gE,gF,gG,gA,gB,gC]
       simp
       omega
      ·skip
       first | trivial | simp [go_sem,hA1,hB1,htk,gD,gE,gF,gG,gA,gB,gC]
      ·try simp only [go_sem,hA1,hB1,htk,gD,gE,gF,gG,gA,gB,gC]
       refine YD (i := 3) (by kernel_rfl) rfl rfl (YT tK rfl (by simp only [go_sem]; try exact rfl) (by simp [go_sem])) ?_
       try simp only [go_sem,hA1,hB1,htk,gD,gE,gF,gG,gA,gB,gC]
       refine YD (i := 4) (by kernel_rfl) rfl rfl (YT tK rfl (by simp only [go_sem,hA1,hB1,htk,gD,gE,gF,gG,gA,gB,gC]; try exact rfl) ?_) ?_
       ·simp [go_sem,row5,hA1,hB1,htk,gD,gE,gF,gG,gA,gB,gC]
        omega
       try simp only [go_sem,hA1,hB1,htk,gD,gE,gF,gG,gA,gB,gC]
       refine YD (i := 5) (by kernel_rfl) rfl rfl (YT tK rfl (by simp only [go_sem,hA1,hB1,htk,gD,gE,gF,gG,gA,gB,gC,hlB]; try exact rfl) ?_) ?_
       ·simp [go_sem,hA1,hB1,htk,gD,gE,gF,gG,gA,gB,gC,hlB]
        omega
       try simp only [go_sem,hA1,hB1,htk,gD,gE,gF,gG,gA,gB,gC]
       refine YD (i := 6) (by kernel_rfl) rfl rfl (YT tK rfl (by simp only [go_sem]; try exact rfl) (by simp [go_sem])) ?_
       refine drawD_end (by kernel_rfl) ?_
       simp only [go_sem,gA,gB,gC]
       refine Yl (le_drop 99) ?_
       refine Yl (le_mv 40 99) ?_
       refine wG tK ?_
       refine ZB ⟨n :: seen,hlt,ZU ?_ ?_ ?_⟩
       ·simp [go_sem,← hpt,hput,hlB]
        omega
       ·simp [go_sem,← hpt,hput,rowP,ZN,htk,hB1]
       ·simp [go_sem]
      ·try simp only [go_sem,hA1,hB1,htk,gD,gE,gF,gG,gA,gB,gC]
       refine YD (i := 1) (by kernel_rfl) rfl rfl (YT tK rfl (by simp only [go_sem,hA1,hB1,htk,gD,gE,gF,gG,gA,gB,gC]; try exact rfl) ?_) ?_
       ·skip
        try simp only [go_sem,hA1,hB1,htk,gD,gE,gF,gG,gA,gB,gC]
        simp
        omega
       try simp only [go_sem,hA1,hB1,htk,gD,gE,gF,gG,gA,gB,gC]
       refine YD (i := 4) (by kernel_rfl) rfl rfl (YT tK rfl (by simp only [go_sem,hA1,hB1,htk,gD,gE,gF,gG,gA,gB,gC]; try exact rfl) ?_) ?_
       ·simp [go_sem,row5,hA1,hB1,htk,gD,gE,gF,gG,gA,gB,gC]
        omega
       try simp only [go_sem,hA1,hB1,htk,gD,gE,gF,gG,gA,gB,gC]
       refine YD (i := 5) (by kernel_rfl) rfl rfl (YT tK rfl (by simp only [go_sem,hA1,hB1,htk,gD,gE,gF,gG,gA,gB,gC,hlB]; try exact rfl) ?_) ?_
       ·simp [go_sem,hA1,hB1,htk,gD,gE,gF,gG,gA,gB,gC,hlB]
        omega
       try simp only [go_sem,hA1,hB1,htk,gD,gE,gF,gG,gA,gB,gC]
       refine YD (i := 6) (by kernel_rfl) rfl rfl (YT tK rfl (by simp only [go_sem]; try exact rfl) (by simp [go_sem])) ?_
       refine drawD_end (by kernel_rfl) ?_
       simp only [go_sem,gA,gB,gC]
       refine Yl (le_drop 99) ?_
       refine Yl (le_mv 40 99) ?_
       refine wG tK ?_
       refine ZB ⟨n :: seen,hlt,ZU ?_ ?_ ?_⟩
       ·simp [go_sem,← hpt,hput,hlB]
        omega
       ·simp [go_sem,← hpt,hput,rowP,ZN,htk,hB1]
       ·simp [go_sem]
     ·try simp only [go_sem,hA1,hB1,htk,gD,gE,gF,gG,gA,gB,gC]
      refine YD (i := 0) (by kernel_rfl) rfl rfl (YT tK rfl (by simp only [go_sem]; try exact rfl) (by simp [go_sem])) ?_
      try simp only [go_sem,hA1,hB1,htk,gD,gE,gF,gG,gA,gB,gC]
      refine YD (i := 1) (by kernel_rfl) rfl rfl (YT tK rfl (by simp only [go_sem,hA1,hB1,htk,gD,gE,gF,gG,gA,gB,gC]; try exact rfl) ?_) ?_
      ·skip
       try simp only [go_sem,hA1,hB1,htk,gD,gE,gF,gG,gA,gB,gC]
       simp
       omega
      try simp only [go_sem,hA1,hB1,htk,gD,gE,gF,gG,gA,gB,gC]
      refine YD (i := 4) (by kernel_rfl) rfl rfl (YT tK rfl (by simp only [go_sem,hA1,hB1,htk,gD,gE,gF,gG,gA,gB,gC]; try exact rfl) ?_) ?_
      ·simp [go_sem,row5,hA1,hB1,htk,gD,gE,gF,gG,gA,gB,gC]
       omega
      try simp only [go_sem,hA1,hB1,htk,gD,gE,gF,gG,gA,gB,gC]
      refine YD (i := 5) (by kernel_rfl) rfl rfl (YT tK rfl (by simp only [go_sem,hA1,hB1,htk,gD,gE,gF,gG,gA,gB,gC,hlB]; try exact rfl) ?_) ?_
      ·simp [go_sem,hA1,hB1,htk,gD,gE,gF,gG,gA,gB,gC,hlB]
       omega
      try simp only [go_sem,hA1,hB1,htk,gD,gE,gF,gG,gA,gB,gC]
      refine YD (i := 6) (by kernel_rfl) rfl rfl (YT tK rfl (by simp only [go_sem]; try exact rfl) (by simp [go_sem])) ?_
      refine drawD_end (by kernel_rfl) ?_
      simp only [go_sem,gA,gB,gC]
      refine Yl (le_drop 99) ?_
      refine Yl (le_mv 40 99) ?_
      refine wG tK ?_
      refine ZB ⟨n :: seen,hlt,ZU ?_ ?_ ?_⟩
      ·simp [go_sem,← hpt,hput,hlB]
       omega
      ·simp [go_sem,← hpt,hput,rowP,ZN,htk,hB1]
      ·simp [go_sem]
  ·have hkl2 : k = S.length := by omega
   have hput : Zp S n nd = S.take k ++ (n,nd) :: S.drop k := mput_at S k hk hk2 fun h => absurd h hkl
   have hdf : decide ((k : Int) < (S.length : Int)) = false := decide_eq_false (by omega)
   refine sN tK 5 ?_
   rw [hdf]
   iterate 7 refine sS ?_
   refine sSB ?_
   refine sN tK 1 ?_
   refine sE ?_
   refine wKd ?_
   try simp only [go_sem,gA,gB,gC]
   refine wD (fun h => ?_) (fun h => ?_)
   ·exfalso; simp at h
   have hA1 : List.take k (S.map rowP) = (S.take k).map rowP := by rw [List.map_take]
   have hB1 : List.take (S.length - k) (List.drop k (S.map rowP)) = (S.drop k).map rowP := by rw [← List.map_drop,List.take_of_length_le (by simp)]
   have hlA : (S.take k).length = k := by rw [List.length_take]; omega
   have hlB : (S.drop k).length = S.length - k := List.length_drop
   generalize S.take k = A at hA1 hlA hput
   generalize S.drop k = B at hB1 hlB hput
   subst hlA
   have htk : List.take (A.length + 1) (A.map rowP ++ [[AV.int .i64 nd.fid,.bool nd.dir,.sl (nd.data.map ZY),.sl (nd.entries.map ZE),.int .i64 nd.version]]) = A.map rowP ++ [[AV.int .i64 nd.fid,.bool nd.dir,.sl (nd.data.map ZY),.sl (nd.entries.map ZE),.int .i64 nd.version]] := List.take_of_length_le (by simp)
   refine wG tK ?_
   refine ZW ZM ?_
   refine draw_earlyM 1 [0,2,3,4,5,6,7,8,9,10,11,12] [0,0,1,2,3,4,5,6,7,8,9,10,11] rfl rfl rfl (fun _ _ _ h => h) (by kernel_rfl) (by kernel_rfl) (by simp [Ym,remOp,renE]; exact rfl) (by simp only [go_sem]; try exact rfl) ?_
   simp only [go_sem,gA,gB,gC]
   refine draw_earlyM 1 [0,2,3,4,5,6,7,8,9,10,11] [0,0,1,2,3,4,5,6,7,8,9,10] rfl rfl rfl (fun _ _ _ h => h) (by kernel_rfl) (by kernel_rfl) (by simp [Ym,remOp,renE]; exact rfl) (by simp only [go_sem]; try exact rfl) ?_
   simp only [go_sem,gA,gB,gC]
   refine draw_earlyV 1 [0,2,3,4,5,6,7,8,9,10] [0,0,1,2,3,4,5,6,7,8,9] rfl rfl (fun _ _ _ h => h) (by kernel_rfl) (by kernel_rfl) (by simp [Ym,remOp,renE]; exact rfl) (slice_any tK rfl rfl rfl (by decide) (by simp only [go_sem]; try exact rfl) (.inl ⟨rfl,rfl⟩) (.inr ⟨_,rfl,_,(by simp only [go_sem]; try exact rfl)⟩) (by simp [hk]) (by simp [hk])) ?_
   simp only [go_sem,gA,gB,gC]
   refine draw_earlyM 5 [0,1,2,3,4,6,7,8,9] [0,1,2,3,4,0,5,6,7,8] rfl rfl rfl (fun _ _ _ h => h) (by kernel_rfl) (by kernel_rfl) (by simp [Ym,remOp,renE]; exact rfl) (by simp only [go_sem]; try exact rfl) ?_
   simp only [go_sem,gA,gB,gC]
   refine draw_earlyM 5 [0,1,2,3,4,6,7,8] [0,1,2,3,4,0,5,6,7] rfl rfl rfl (fun _ _ _ h => h) (by kernel_rfl) (by kernel_rfl) (by simp [Ym,remOp,renE]; exact rfl) (by simp only [go_sem]; try exact rfl) ?_
   simp only [go_sem,gA,gB,gC]
   refine draw_earlyV 5 [0,1,2,3,4,6,7] [0,1,2,3,4,0,5,6] rfl rfl (fun _ _ _ h => h) (by kernel_rfl) (by kernel_rfl) (by simp [Ym,remOp,renE]; exact rfl) (slice_any tK rfl rfl rfl (by decide) (by simp only [go_sem]; try exact rfl) (.inr ⟨_,rfl,_,(by simp only [go_sem]; try exact rfl)⟩) (.inl ⟨rfl,rfl⟩) (by simp [hk]) (by simp [hk])) ?_
   simp only [go_sem,gA,gB,gC]
   refine drawD (n := 7) (by kernel_rfl) rfl ?_
   refine drawD_two (i := 0) (j := 2) (by kernel_rfl) rfl rfl rfl rfl (YT tK rfl (by simp only [go_sem]; try exact rfl) (by simp [go_sem])) (YT tK rfl (by simp only [go_sem]; try exact rfl) (by simp [go_sem])) ?_ ?_
   ·refine drawD_two (i := 1) (j := 2) (by kernel_rfl) rfl rfl rfl rfl (YT tK rfl (by simp only [go_sem,hA1,hB1,htk,gD,gE,gF,gG,gA,gB,gC]; try exact rfl) ?_) (YT tK rfl (by simp only [go_sem,hA1,hB1,htk,gD,gE,gF,gG,gA,gB,gC]; try exact rfl) ?_) ?_ ?_
    ·skip
     try simp only [go_sem,hA1,hB1,htk,gD,gE,gF,gG,gA,gB,gC]
     simp
     omega
    ·skip
     first | trivial | simp [go_sem,hA1,hB1,htk,gD,gE,gF,gG,gA,gB,gC]
    ·try simp only [go_sem,hA1,hB1,htk,gD,gE,gF,gG,gA,gB,gC]
     refine YD (i := 2) (by kernel_rfl) rfl rfl (YT tK rfl (by simp only [go_sem]; try exact rfl) (by simp [go_sem])) ?_
     try simp only [go_sem,hA1,hB1,htk,gD,gE,gF,gG,gA,gB,gC]
     refine YD (i := 3) (by kernel_rfl) rfl rfl (YT tK rfl (by simp only [go_sem]; try exact rfl) (by simp [go_sem])) ?_
     try simp only [go_sem,hA1,hB1,htk,gD,gE,gF,gG,gA,gB,gC]
     refine YD (i := 4) (by kernel_rfl) rfl rfl (YT tK rfl (by simp only [go_sem,hA1,hB1,htk,gD,gE,gF,gG,gA,gB,gC]; try exact rfl) ?_) ?_
     ·simp [go_sem,row5,hA1,hB1,htk,gD,gE,gF,gG,gA,gB,gC]
      omega
     try simp only [go_sem,hA1,hB1,htk,gD,gE,gF,gG,gA,gB,gC]
     refine YD (i := 5) (by kernel_rfl) rfl rfl (YT tK rfl (by simp only [go_sem,hA1,hB1,htk,gD,gE,gF,gG,gA,gB,gC,hlB]; try exact rfl) ?_) ?_
     ·simp [go_sem,hA1,hB1,htk,gD,gE,gF,gG,gA,gB,gC,hlB]
      omega
     try simp only [go_sem,hA1,hB1,htk,gD,gE,gF,gG,gA,gB,gC]
     refine YD (i := 6) (by kernel_rfl) rfl rfl (YT tK rfl (by simp only [go_sem]; try exact rfl) (by simp [go_sem])) ?_
     refine drawD_end (by kernel_rfl) ?_
     simp only [go_sem,gA,gB,gC]
     refine Yl (le_drop 99) ?_
     refine Yl (le_mv 40 99) ?_
     refine wG tK ?_
     refine ZB ⟨n :: seen,hlt,ZU ?_ ?_ ?_⟩
     ·simp [go_sem,← hpt,hput,hlB]
      omega
     ·simp [go_sem,← hpt,hput,rowP,ZN,htk,hB1]
     ·simp [go_sem]
    ·try simp only [go_sem,hA1,hB1,htk,gD,gE,gF,gG,gA,gB,gC]
     refine drawD_two (i := 1) (j := 3) (by kernel_rfl) rfl rfl rfl rfl (YT tK rfl (by simp only [go_sem,hA1,hB1,htk,gD,gE,gF,gG,gA,gB,gC]; try exact rfl) ?_) (YT tK rfl (by simp only [go_sem,hA1,hB1,htk,gD,gE,gF,gG,gA,gB,gC]; try exact rfl) ?_) ?_ ?_
     ·skip
      try simp only [go_sem,hA1,hB1,htk,gD,gE,gF,gG,gA,gB,gC]
      simp
      omega
     ·skip
      first | trivial | simp [go_sem,hA1,hB1,htk,gD,gE,gF,gG,gA,gB,gC]
     ·try simp only [go_sem,hA1,hB1,htk,gD,gE,gF,gG,gA,gB,gC]
      refine YD (i := 3) (by kernel_rfl) rfl rfl (YT tK rfl (by simp only [go_sem]; try exact rfl) (by simp [go_sem])) ?_
      try simp only [go_sem,hA1,hB1,htk,gD,gE,gF,gG,gA,gB,gC]
      refine YD (i := 4) (by kernel_rfl) rfl rfl (YT tK rfl (by simp only [go_sem,hA1,hB1,htk,gD,gE,gF,gG,gA,gB,gC]; try exact rfl) ?_) ?_
      ·simp [go_sem,row5,hA1,hB1,htk,gD,gE,gF,gG,gA,gB,gC]
       omega
      try simp only [go_sem,hA1,hB1,htk,gD,gE,gF,gG,gA,gB,gC]
      refine YD (i := 5) (by kernel_rfl) rfl rfl (YT tK rfl (by simp only [go_sem,hA1,hB1,htk,gD,gE,gF,gG,gA,gB,gC,hlB]; try exact rfl) ?_) ?_
      ·simp [go_sem,hA1,hB1,htk,gD,gE,gF,gG,gA,gB,gC,hlB]
       omega
      try simp only [go_sem,hA1,hB1,htk,gD,gE,gF,gG,gA,gB,gC]
      refine YD (i := 6) (by kernel_rfl) rfl rfl (YT tK rfl (by simp only [go_sem]; try exact rfl) (by simp [go_sem])) ?_
      refine drawD_end (by kernel_rfl) ?_
      simp only [go_sem,gA,gB,gC]
      refine Yl (le_drop 99) ?_
      refine Yl (le_mv 40 99) ?_
      refine wG tK ?_
      refine ZB ⟨n :: seen,hlt,ZU ?_ ?_ ?_⟩
      ·simp [go_sem,← hpt,hput,hlB]
       omega
      ·simp [go_sem,← hpt,hput,rowP,ZN,htk,hB1]
      ·simp [go_sem]
     ·try simp only [go_sem,hA1,hB1,htk,gD,gE,gF,gG,gA,gB,gC]
      refine YD (i := 1) (by kernel_rfl) rfl rfl (YT tK rfl (by simp only [go_sem,hA1,hB1,htk,gD,gE,gF,gG,gA,gB,gC]; try exact rfl) ?_) ?_
      ·skip
       try simp only [go_sem,hA1,hB1,htk,gD,gE,gF,gG,gA,gB,gC]
       simp
       omega
      try simp only [go_sem,hA1,hB1,htk,gD,gE,gF,gG,gA,gB,gC]
      refine YD (i := 4) (by kernel_rfl) rfl rfl (YT tK rfl (by simp only [go_sem,hA1,hB1,htk,gD,gE,gF,gG,gA,gB,gC]; try exact rfl) ?_) ?_
      ·simp [go_sem,row5,hA1,hB1,htk,gD,gE,gF,gG,gA,gB,gC]
       omega
      try simp only [go_sem,hA1,hB1,htk,gD,gE,gF,gG,gA,gB,gC]
      refine YD (i := 5) (by kernel_rfl) rfl rfl (YT tK rfl (by simp only [go_sem,hA1,hB1,htk,gD,gE,gF,gG,gA,gB,gC,hlB]; try exact rfl) ?_) ?_
      ·simp [go_sem,hA1,hB1,htk,gD,gE,gF,gG,gA,gB,gC,hlB]
       omega
      try simp only [go_sem,hA1,hB1,htk,gD,gE,gF,gG,gA,gB,gC]
      refine YD (i := 6) (by kernel_rfl) rfl rfl (YT tK rfl (by simp only [go_sem]; try exact rfl) (by simp [go_sem])) ?_
      refine drawD_end (by kernel_rfl) ?_
      simp only [go_sem,gA,gB,gC]
      refine Yl (le_drop 99) ?_
      refine Yl (le_mv 40 99) ?_
      refine wG tK ?_
      refine ZB ⟨n :: seen,hlt,ZU ?_ ?_ ?_⟩
      ·simp [go_sem,← hpt,hput,hlB]
       omega
      ·simp [go_sem,← hpt,hput,rowP,ZN,htk,hB1]
      ·simp [go_sem]
   ·try simp only [go_sem,hA1,hB1,htk,gD,gE,gF,gG,gA,gB,gC]
    refine drawD_two (i := 0) (j := 3) (by kernel_rfl) rfl rfl rfl rfl (YT tK rfl (by simp only [go_sem,hA1,hB1,htk,gD,gE,gF,gG,gA,gB,gC]; try exact rfl) ?_) (YT tK rfl (by simp only [go_sem,hA1,hB1,htk,gD,gE,gF,gG,gA,gB,gC]; try exact rfl) ?_) ?_ ?_
    ·skip
     first | trivial | simp [go_sem,hA1,hB1,htk,gD,gE,gF,gG,gA,gB,gC]
    ·skip
     first | trivial | simp [go_sem,hA1,hB1,htk,gD,gE,gF,gG,gA,gB,gC]
    ·try simp only [go_sem,hA1,hB1,htk,gD,gE,gF,gG,gA,gB,gC]
     refine drawD_two (i := 1) (j := 3) (by kernel_rfl) rfl rfl rfl rfl (YT tK rfl (by simp only [go_sem,hA1,hB1,htk,gD,gE,gF,gG,gA,gB,gC]; try exact rfl) ?_) (YT tK rfl (by simp only [go_sem,hA1,hB1,htk,gD,gE,gF,gG,gA,gB,gC]; try exact rfl) ?_) ?_ ?_
     ·skip
      try simp only [go_sem,hA1,hB1,htk,gD,gE,gF,gG,gA,gB,gC]
      simp
      omega
     ·skip
      first | trivial | simp [go_sem,hA1,hB1,htk,gD,gE,gF,gG,gA,gB,gC]
     ·try simp only [go_sem,hA1,hB1,htk,gD,gE,gF,gG,gA,gB,gC]
      refine YD (i := 3) (by kernel_rfl) rfl rfl (YT tK rfl (by simp only [go_sem]; try exact rfl) (by simp [go_sem])) ?_
      try simp only [go_sem,hA1,hB1,htk,gD,gE,gF,gG,gA,gB,gC]
      refine YD (i := 4) (by kernel_rfl) rfl rfl (YT tK rfl (by simp only [go_sem,hA1,hB1,htk,gD,gE,gF,gG,gA,gB,gC]; try exact rfl) ?_) ?_
      ·simp [go_sem,row5,hA1,hB1,htk,gD,gE,gF,gG,gA,gB,gC]
       omega
      try simp only [go_sem,hA1,hB1,htk,gD,gE,gF,gG,gA,gB,gC]
      refine YD (i := 5) (by kernel_rfl) rfl rfl (YT tK rfl (by simp only [go_sem,hA1,hB1,htk,gD,gE,gF,gG,gA,gB,gC,hlB]; try exact rfl) ?_) ?_
      ·simp [go_sem,hA1,hB1,htk,gD,gE,gF,gG,gA,gB,gC,hlB]
       omega
      try simp only [go_sem,hA1,hB1,htk,gD,gE,gF,gG,gA,gB,gC]
      refine YD (i := 6) (by kernel_rfl) rfl rfl (YT tK rfl (by simp only [go_sem]; try exact rfl) (by simp [go_sem])) ?_
      refine drawD_end (by kernel_rfl) ?_
      simp only [go_sem,gA,gB,gC]
      refine Yl (le_drop 99) ?_
      refine Yl (le_mv 40 99) ?_
      refine wG tK ?_
      refine ZB ⟨n :: seen,hlt,ZU ?_ ?_ ?_⟩
      ·simp [go_sem,← hpt,hput,hlB]
       omega
      ·simp [go_sem,← hpt,hput,rowP,ZN,htk,hB1]
      ·simp [go_sem]
     ·try simp only [go_sem,hA1,hB1,htk,gD,gE,gF,gG,gA,gB,gC]
      refine YD (i := 1) (by kernel_rfl) rfl rfl (YT tK rfl (by simp only [go_sem,hA1,hB1,htk,gD,gE,gF,gG,gA,gB,gC]; try exact rfl) ?_) ?_
      ·skip
       try simp only [go_sem,hA1,hB1,htk,gD,gE,gF,gG,gA,gB,gC]
       simp
       omega
      try simp only [go_sem,hA1,hB1,htk,gD,gE,gF,gG,gA,gB,gC]
      refine YD (i := 4) (by kernel_rfl) rfl rfl (YT tK rfl (by simp only [go_sem,hA1,hB1,htk,gD,gE,gF,gG,gA,gB,gC]; try exact rfl) ?_) ?_
      ·simp [go_sem,row5,hA1,hB1,htk,gD,gE,gF,gG,gA,gB,gC]
       omega
      try simp only [go_sem,hA1,hB1,htk,gD,gE,gF,gG,gA,gB,gC]
      refine YD (i := 5) (by kernel_rfl) rfl rfl (YT tK rfl (by simp only [go_sem,hA1,hB1,htk,gD,gE,gF,gG,gA,gB,gC,hlB]; try exact rfl) ?_) ?_
      ·simp [go_sem,hA1,hB1,htk,gD,gE,gF,gG,gA,gB,gC,hlB]
       omega
      try simp only [go_sem,hA1,hB1,htk,gD,gE,gF,gG,gA,gB,gC]
      refine YD (i := 6) (by kernel_rfl) rfl rfl (YT tK rfl (by simp only [go_sem]; try exact rfl) (by simp [go_sem])) ?_
      refine drawD_end (by kernel_rfl) ?_
      simp only [go_sem,gA,gB,gC]
      refine Yl (le_drop 99) ?_
      refine Yl (le_mv 40 99) ?_
      refine wG tK ?_
      refine ZB ⟨n :: seen,hlt,ZU ?_ ?_ ?_⟩
      ·simp [go_sem,← hpt,hput,hlB]
       omega
      ·simp [go_sem,← hpt,hput,rowP,ZN,htk,hB1]
      ·simp [go_sem]
    ·try simp only [go_sem,hA1,hB1,htk,gD,gE,gF,gG,gA,gB,gC]
     refine YD (i := 0) (by kernel_rfl) rfl rfl (YT tK rfl (by simp only [go_sem]; try exact rfl) (by simp [go_sem])) ?_
     try simp only [go_sem,hA1,hB1,htk,gD,gE,gF,gG,gA,gB,gC]
     refine YD (i := 1) (by kernel_rfl) rfl rfl (YT tK rfl (by simp only [go_sem,hA1,hB1,htk,gD,gE,gF,gG,gA,gB,gC]; try exact rfl) ?_) ?_
     ·skip
      try simp only [go_sem,hA1,hB1,htk,gD,gE,gF,gG,gA,gB,gC]
      simp
      omega
     try simp only [go_sem,hA1,hB1,htk,gD,gE,gF,gG,gA,gB,gC]
     refine YD (i := 4) (by kernel_rfl) rfl rfl (YT tK rfl (by simp only [go_sem,hA1,hB1,htk,gD,gE,gF,gG,gA,gB,gC]; try exact rfl) ?_) ?_
     ·simp [go_sem,row5,hA1,hB1,htk,gD,gE,gF,gG,gA,gB,gC]
      omega
     try simp only [go_sem,hA1,hB1,htk,gD,gE,gF,gG,gA,gB,gC]
     refine YD (i := 5) (by kernel_rfl) rfl rfl (YT tK rfl (by simp only [go_sem,hA1,hB1,htk,gD,gE,gF,gG,gA,gB,gC,hlB]; try exact rfl) ?_) ?_
     ·simp [go_sem,hA1,hB1,htk,gD,gE,gF,gG,gA,gB,gC,hlB]
      omega
     try simp only [go_sem,hA1,hB1,htk,gD,gE,gF,gG,gA,gB,gC]
     refine YD (i := 6) (by kernel_rfl) rfl rfl (YT tK rfl (by simp only [go_sem]; try exact rfl) (by simp [go_sem])) ?_
     refine drawD_end (by kernel_rfl) ?_
     simp only [go_sem,gA,gB,gC]
     refine Yl (le_drop 99) ?_
     refine Yl (le_mv 40 99) ?_
     refine wG tK ?_
     refine ZB ⟨n :: seen,hlt,ZU ?_ ?_ ?_⟩
     ·simp [go_sem,← hpt,hput,hlB]
      omega
     ·simp [go_sem,← hpt,hput,rowP,ZN,htk,hB1]
     ·simp [go_sem]
theorem list_ok (l : List Node) (hu : Up l) (hlen : l.length ≤ 50000000) : FnOK Tryz.prog 37 [.rm (mN (mapD l))] [] (fun r _ => r = .sl (l.map ZN)) := by
 have h := list_raw (mapD l) (mapD_rise l) (fun p hp => by
  rw [mapD_eq hu] at hp
  obtain ⟨n,_,rfl⟩ := List.mem_map.1 hp
  rfl) (by rw [mapD_len hu]; exact hlen)
 have e : (mapD l).map rowP = l.map ZN := by
  rw [mapD_eq hu,List.map_map]; rfl
 rwa [e] at h
theorem rkeep_no {l : List Kept} {room : Int} {k : Kept} (hl : l.length ≤ 90000000) (h : keepK l room k = none) : FnOK Tryz.prog 108 [.sl (l.map ZK),.int .i64 room,.agg (ZK k)] [] (fun r _ => r = .tup [.sl (([] : List Kept).map ZK),.int .i64 5]) := by
 have := rkeep_ok l room k hl
 unfold keepR at this
 rw [h] at this
 exact this
theorem rkeep_yes {l L : List Kept} {room : Int} {k : Kept} (hl : l.length ≤ 90000000) (h : keepK l room k = some L) : FnOK Tryz.prog 108 [.sl (l.map ZK),.int .i64 room,.agg (ZK k)] [] (fun r _ => r = .tup [.sl (L.map ZK),.int .i64 0]) := by
 have := rkeep_ok l room k hl
 unfold keepR at this
 rw [h] at this
 exact this
theorem same_self (a : List Node) (ha : Small a) : FnOK Tryz.prog 19 [.sl (a.map ZN),.sl (a.map ZN),.bool true] [] (fun r _ => r = .bool true) := by
 have := same_ok a a true ha ha
 rwa [sameT_refl] at this
end La
namespace Go.Eng
section
variable {P : Program} {C : Ctx} {σ : St}
def nil0 : AV → AV
 | .nils => .sl [] | .any => .any | .int k n => .int k n | .bool b => .bool b | .str s => .str s | .nilp => .nilp | .nili => .nili | .ifc => .ifc | .nilm => .nilm | .sl r => .sl r | .rp c o => .rp c o | .rm m => .rm m | .fn f c => .fn f c
 | .agg c => .agg (c.map fun | .nils => .sl [] | x => x) | .tup v => .tup v | .ptr a b c d => .ptr a b c d | .osl a b c d => .osl a b c d | .mp i => .mp i | .exs a b c d e => .exs a b c d e | .cnd c v => .cnd c v
theorem rd_nil {μ : Nat → Option Nat} {S : Nat → Prop} {w : World} {v : Value} (h : Rd μ S w v .nils) : Rd μ S w v (.sl []) := h.wk (.inr (.inr ⟨rfl,.inl rfl⟩))
theorem Rd.nil0 {μ : Nat → Option Nat} {S : Nat → Prop} {w : World} {v : Value} {x : AV} (h : Rd μ S w v x) : Rd μ S w v (Eng.nil0 x) := by
 cases x with
 | nils => exact rd_nil h
 | agg c =>
  have key : ∀ {cs : Array Value} {f : AV → AV},(∀ j x,c[j]? = some x → Rd μ S w (cs.getD j undef) (f x)) → ∀ j x,(c.map f)[j]? = some x → Rd μ S w (cs.getD j undef) x := fun {cs f} h j x hx => by
   rw [List.getElem?_map] at hx
   cases e : c[j]? with
   | none => rw [e] at hx; cases hx
   | some y => rw [e] at hx; injection hx with hx; subst hx; exact h j y e
  have one : ∀ {v : Value} (x : AV),Rd μ S w v x → Rd μ S w v (match x with | .nils => .sl [] | x => x) := fun x hx => by
   split
   ·exact rd_nil hx
   ·exact hx
  cases h with
  | pure h =>
   cases h with
   | agg cs _ hl hr => exact .agg cs _ (by rw [List.length_map]; exact hl) (key fun j x hx => one x (.pure (hr j x hx)))
  | agg cs _ hl hr => exact .agg cs _ (by rw [List.length_map]; exact hl) (key fun j x hx => one x (hr j x hx))
 | _ => exact h
theorem Zn (id : Nat) {e s : Nat} {rows rows' : List (List AV)} (hb : Yk σ.hp id = some (.cells e s rows) := by simp only [go_sem]; exact rfl) (hr : rows.map (fun row => row.map nil0) = rows' := by simp only [go_sem,nil0]; exact rfl) : Le C σ ⟨σ.tm,Zh σ.hp id (.cells e s rows')⟩ := by
 subst hr
 rintro a w ⟨μ,S,hi⟩
 refine ⟨μ,S,hi.size,hi.defers,hi.tm,fun i b hb' => ?_,fun i q hq => ?_,hi.inj,hi.frm,hi.sb⟩
 ·simp only [Yi] at hb'
  split at hb'
  ·rename_i h1
   injection hb' with hb'
   subst h1 hb'
   rcases hi.hp id _ hb with ⟨rfl,k2⟩ | ⟨g,c,k1,k2,k3,k4,k5⟩
   ·exact .inl ⟨by simp,k2⟩
   ·refine .inr ⟨g,c,k1,k2,by rw [List.length_map]; exact k3,fun row hrow => ?_,fun i row hi' q x hx => ?_⟩
    ·obtain ⟨r0,h0,rfl⟩ := List.mem_map.1 hrow
     rw [List.length_map]; exact k4 r0 h0
    ·rw [List.getElem?_map] at hi'
     cases e0 : rows[i]? with
     | none => rw [e0] at hi'; cases hi'
     | some r0 =>
      rw [e0] at hi'
      simp only [Option.map_some,Option.some.injEq] at hi'
      subst hi'
      rw [List.getElem?_map] at hx
      cases e1 : r0[q]? with
      | none => rw [e1] at hx; cases hx
      | some y =>
       rw [e1] at hx
       simp only [Option.map_some,Option.some.injEq] at hx
       subst hx
       exact (k5 i r0 e0 q y e1).nil0
  ·exact hi.hp i b hb'
 ·obtain ⟨⟨b,h1⟩,h2⟩ := hi.dom i q hq
  refine ⟨?_,h2⟩
  simp only [Yi]
  split
  ·exact ⟨_,rfl⟩
  ·exact ⟨b,h1⟩
theorem le_nilT (t : Nat) {x y : AV} (hx : σ.tm.getD t .any = x) (hy : nil0 x = y) : Le C σ ⟨σ.tm.set t y,σ.hp⟩ := by
 subst hx hy
 rintro a w ⟨μ,S,hi⟩
 refine ⟨μ,S,by rw [List.length_set]; exact hi.size,hi.defers,fun j z hz => ?_,hi.hp,hi.dom,hi.inj,hi.frm,hi.sb⟩
 rw [List.getElem?_set] at hz
 split at hz
 ·rename_i e
  subst e
  split at hz
  ·rename_i hlt
   injection hz with hz
   subst hz
   rw [List.getD_eq_getElem?_getD,List.getElem?_eq_getElem hlt]
   exact (hi.tm t _ (List.getElem?_eq_getElem hlt)).nil0
  ·cases hz
 ·exact hi.tm j z hz
end
end Go.Eng
