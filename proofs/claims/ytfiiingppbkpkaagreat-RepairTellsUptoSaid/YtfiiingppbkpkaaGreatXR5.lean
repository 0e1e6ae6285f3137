/- Texts of this claim, part 5: EngT, EngU, EngV, EngW, EngZ, EngS, EngAA, EngAB. No condition. -/
import Derived.Test.YtfiiingppbkpkaaGreatXR4
import Derived.WalkSpells
import Derived.Lib.Overlaps
set_option maxRecDepth 10000
set_option maxHeartbeats 4000000
set_option linter.unusedSimpArgs false
set_option linter.unusedVariables false
namespace Go.Eng
section
variable {P : Program} {T : Tab} {C : Ctx} {σ σ' : St} {Ret : St → Prop} {k : List It}
theorem cw_nileq (hT : TabOK P T) {all : Array Oper} {o : Oper} {l : List Oper} {t : TypeId} {x y : Operand} {ty e : TypeId} {rows : List (List AV)} (ho : o.op = .binOp .eql t x y ty) (hg : o.guard = none) (ht : T.und t = .sl e)
  (hx : evS σ x = (True, .sl rows)) (hy : evS σ y = (True, .nils)) (h : ∀ b, (b = true → rows = []) → Cw P C Ret (.ops all l :: k) (σ.put o.dst (.bool b))) : Cw P C Ret (.ops all (o :: l) :: k) σ := by
 intro a w ⟨μ, S, hi⟩
 have hv := hi.evS x (by rw [hx]; trivial)
 have hu := hi.evS y (by rw [hy]; trivial)
 rw [hx] at hv; rw [hy] at hu
 obtain ⟨A, cap, size, g, off, vals, e1, hc, hs', hA, hcell, hr⟩ := hv.inv_sl.inv_sl
 have e2 := hu.inv_nils
 have hty : P.underlying t = some (.slice e) := by have := hT.und t; rw [ht] at this; exact this
 show wpList P all _ (o :: l) a w
 unfold wpList
 rw [Zw hi (show Yo all σ o.guard = some true from by rw [hg]; rfl)]
 refine .inl ?_
 unfold Oper.wp
 have hrun : (execOp a.eval o).run P w = .ok (.value (.bool A.isNone)) w := by
  simp only [execOp, ho, e1, e2, eqGuard_at_slice, pure_bind, Sem.run_bind, Lib.run_eql_slice_nil w t e A rows.length cap 0 0 hty, Result.andThen_ok]
  rfl
 rw [hrun]
 refine h A.isNone (fun hb => ?_) _ _ ⟨μ, S, hi.put o.dst (.pure (.bool _))⟩
 rcases Nat.eq_zero_or_pos rows.length with h0 | h0
 ·exact List.eq_nil_of_length_eq_zero h0
 ·rw [(hA h0).1] at hb; cases hb
def wk (x y : AV) : Prop := y = .any ∨ x = y ∨ (x = .nils ∧ (y = .sl [] ∨ ∃ id s off, y = .osl id s off 0))
theorem Rd.wk {μ : Nat → Option Nat} {S : Nat → Prop} {w : World} {v : Value} {x y : AV} (h : Rd μ S w v x) (hw : wk x y) : Rd μ S w v y := by
 rcases hw with rfl | rfl | ⟨rfl, rfl | ⟨id, s, off, rfl⟩⟩
 ·exact .any v
 ·exact h
 ·obtain rfl := h.inv_nils
  exact .pure (.sl none 0 0 [] 0 0 0 (fun _ _ => undef) rfl (Nat.le_refl _) (fun row h => by cases h) (fun h => by omega) (fun i j h => by omega) (fun i row h => by simp at h))
 ·obtain rfl := h.inv_nils
  exact .osl id s off 0 0 none (Nat.le_refl _) (.inl ⟨rfl, rfl⟩)
theorem FnOK.wk {f : FuncId} {args : List AV} {H : List (Nat × Blk)} {post : AV → List (Nat × Blk) → Prop} (h : FnOK P f args H fun r H' => ∃ r', wk r r' ∧ post r' H') : FnOK P f args H post :=
 fun R0 μ w0 vs hl ha hH hR => (h R0 μ w0 vs hl ha hH hR).mono fun _ _ ⟨v, _, H', μ', S', h1, ⟨r', h2, h3⟩, h4, h5⟩ => ⟨v, r', H', μ', S', h1, h3, h4.wk h2, h5⟩
theorem ZF (hT : TabOK P T) {f : FuncId} {fn : Func} {c : Code} {args : List AV} {H : List (Nat × Blk)} {post : AV → List (Nat × Blk) → Prop}
  (hf : P.funcs[f]? = some fn) (hb : fn.body = some c)
  (h : ∀ C : Ctx, Cw P C (fun s => ∃ p r, resAV T s fn.results.toList = some (p, r) ∧ p ∧ ∃ r', Eng.wk r r' ∧ post r' s.hp) [.code c] ⟨args ++ List.replicate (fn.ntmps - args.length) .any, H⟩) : FnOK P f args H post :=
 .wk (fn_of_cw hT hf hb h)
def leWk : List AV → List AV → Prop
 | [], [] => True
 | x :: l, y :: m => wk x y ∧ leWk l m
 | _, _ => False
theorem leWk_get : ∀ {l m : List AV}, leWk l m → l.length = m.length ∧ ∀ (t : Nat) y, m[t]? = some y → ∃ x, l[t]? = some x ∧ wk x y
 | [], [], _ => ⟨rfl, fun t y h => by simp at h⟩
 | x :: l, y :: m, h => by
  obtain ⟨h1, h2⟩ := leWk_get h.2
  refine ⟨by simp [h1], fun t z hz => ?_⟩
  cases t with
  | zero =>
   simp only [List.getElem?_cons_zero, Option.some.injEq] at hz
   subst hz
   exact ⟨x, rfl, h.1⟩
  | succ t => simpa using h2 t z (by simpa using hz)
 | [], _ :: _, h => h.elim
 | _ :: _, [], h => h.elim
def emptyB : Blk → Prop
 | .cells _ _ rows => rows = []
 | .map _ => False
 | .iter .. => False
 | .cap .. => False
 | .pin .. => False
def subH (H : List (Nat × Blk)) : List (Nat × Blk) → Prop
 | [] => True
 | (i, b) :: r => (Yk H i = some b ∨ (Yk H i = none ∧ emptyB b)) ∧ subH H r
theorem subH_get {H : List (Nat × Blk)} : ∀ {K : List (Nat × Blk)} {i : Nat} {b : Blk}, subH H K → Yk K i = some b → Yk H i = some b ∨ (Yk H i = none ∧ emptyB b)
 | (j, c) :: r, i, b, h, hb => by
  simp only [Yk] at hb
  split at hb
  ·rename_i e; subst e; injection hb with hb; subst hb; exact h.1
  ·exact subH_get h.2 hb
theorem ZU {l m : List AV} {H K : List (Nat × Blk)} (h : leWk l m) (hK : subH H K) (hc : closed K (refsL m) = true) : Le C ⟨l, H⟩ ⟨m, K⟩ := by
 intro a w ⟨μ, S, hi⟩
 obtain ⟨h1, h2⟩ := leWk_get h
 simp only [closed, Bool.and_eq_true] at hc
 have hr : ∀ i, i ∈ refsL m → (Yk K i).isSome = true := fun i hi => List.all_eq_true.1 hc.1 i hi
 have hcl : ∀ i b, Yk K i = some b → ∀ j, j ∈ refsB b → (Yk K j).isSome = true := fun i b hb j hj => List.all_eq_true.1 (List.all_eq_true.1 hc.2 _ (hget_mem hb)) j hj
 let μ2 : Nat → Option Nat := fun i => if (Yk K i).isSome = true then μ i else none
 have m2 : ∀ {i g}, μ2 i = some g → μ i = some g ∧ (Yk K i).isSome = true := fun {i g} hg => by
  simp only [μ2] at hg; split at hg
  ·exact ⟨hg, by assumption⟩
  ·cases hg
 refine ⟨μ2, S, by rw [hi.size]; exact h1, hi.defers, fun t y hy => ?_, fun i b hb => ?_, fun i g hg => ?_, fun i j g hg hg' => hi.inj i j g (m2 hg).1 (m2 hg').1, hi.frm, hi.sb⟩
 ·obtain ⟨x, hx, hw⟩ := h2 t y hy
  refine ((hi.tm t x hx).wk hw).less fun i hi' g hg => ?_
  simp only [μ2]; rw [if_pos (hr i (Zr hy hi'))]; exact hg
 ·rcases subH_get hK hb with h | ⟨h, he⟩
  ·refine (hi.hp i b h).less (by simp only [μ2]; rw [hb]; rfl) fun j hj g hg => ?_
   simp only [μ2]; rw [if_pos (hcl i b hb j hj)]; exact hg
  ·cases b with
   | cells e s rows =>
    refine .inl ⟨he, ?_⟩
    simp only [μ2]; rw [hb]
    cases e : μ i with
    | none => rfl
    | some g =>
     obtain ⟨⟨c, h'⟩, _⟩ := hi.dom i g e
     simp only at h'
     rw [h] at h'; cases h'
   | map kvs => exact he.elim
   | iter kvs seen => exact he.elim
   | cap id' s N => exact he.elim
   | pin id' g' t n => exact he.elim
 ·obtain ⟨k1, k2⟩ := m2 hg
  obtain ⟨_, k3⟩ := hi.dom i g k1
  exact ⟨Option.isSome_iff_exists.1 k2, k3⟩
mutual
def frz (id s : Nat) (rows : List (List AV)) : AV → AV
 | .osl i s' off len => if i = id then (if s' = s ∧ off + len ≤ rows.length then .sl ((rows.drop off).take len) else .any) else .osl i s' off len
 | .ptr i s' row off => if i = id then (if s' = s ∧ row < rows.length then .rp (rows.getD row []) off else .any) else .ptr i s' row off
 | .mp i => if i = id then .any else .mp i
 | .exs i s' o n c => if i = id then .any else .exs i s' o n c
 | .agg cells => .agg (frzL id s rows cells)
 | .tup vs => .tup (frzL id s rows vs)
 | .fn f caps => .fn f (frzL id s rows caps)
 | .cnd c v => .cnd c (frz id s rows v)
 | x => x
def frzL (id s : Nat) (rows : List (List AV)) : List AV → List AV
 | [] => []
 | x :: r => frz id s rows x :: frzL id s rows r
end
theorem frzL_map (id s : Nat) (rows : List (List AV)) : ∀ l, frzL id s rows l = l.map (frz id s rows)
 | [] => rfl
 | x :: r => by simp [frzL, frzL_map id s rows r]
def frzH (id s : Nat) (rows : List (List AV)) : List (Nat × Blk) → List (Nat × Blk)
 | [] => []
 | (i, .cells e z R) :: r => if i = id then frzH id s rows r else (i, .cells e z (R.map (frzL id s rows))) :: frzH id s rows r
 | (i, .map kvs) :: r => if i = id then frzH id s rows r else (i, .map kvs) :: frzH id s rows r
 | (i, .iter kvs seen) :: r => if i = id then frzH id s rows r else (i, .iter kvs seen) :: frzH id s rows r
 | (i, .cap j z N) :: r => if i = id then frzH id s rows r else (i, if j = id then .cells 0 0 [] else .cap j z N) :: frzH id s rows r
 | (i, .pin j g z N) :: r => if i = id then frzH id s rows r else (i, if j = id then .cells 0 0 [] else .pin j g z N) :: frzH id s rows r
def frzB (id s : Nat) (rows : List (List AV)) : Blk → Blk
 | .cells e z R => .cells e z (R.map (frzL id s rows))
 | .map kvs => .map kvs
 | .iter kvs seen => .iter kvs seen
 | .cap j z N => if j = id then .cells 0 0 [] else .cap j z N
 | .pin j g z N => if j = id then .cells 0 0 [] else .pin j g z N
theorem hget_frzH (id s : Nat) (rows : List (List AV)) (i : Nat) : ∀ H, Yk (frzH id s rows H) i = if i = id then none else (Yk H i).map (frzB id s rows)
 | [] => by simp [frzH, Yk]
 | (j, .cells e z R) :: r => by
  have ih := hget_frzH id s rows i r
  unfold frzH
  by_cases h : j = id
  ·subst h
   rw [if_pos rfl, ih]
   by_cases h2 : i = j
   ·rw [if_pos h2, if_pos h2]
   ·rw [if_neg h2, if_neg h2]; simp only [Yk]; rw [if_neg (fun h => h2 h.symm)]
  ·rw [if_neg h]
   simp only [Yk]
   by_cases h2 : j = i
   ·subst h2; rw [if_pos rfl, if_neg h, if_pos rfl]; rfl
   ·rw [if_neg h2, if_neg h2]; exact ih
 | (j, .map kvs) :: r => by
  have ih := hget_frzH id s rows i r
  unfold frzH
  by_cases h : j = id
  ·subst h
   rw [if_pos rfl, ih]
   by_cases h2 : i = j
   ·rw [if_pos h2, if_pos h2]
   ·rw [if_neg h2, if_neg h2]; simp only [Yk]; rw [if_neg (fun h => h2 h.symm)]
  ·rw [if_neg h]
   simp only [Yk]
   by_cases h2 : j = i
   ·subst h2; rw [if_pos rfl, if_neg h, if_pos rfl]; rfl
   ·rw [if_neg h2, if_neg h2]; exact ih
 | (j, .iter kvs seen) :: r => by
  have ih := hget_frzH id s rows i r
  unfold frzH
  by_cases h : j = id
  ·subst h
   rw [if_pos rfl, ih]
   by_cases h2 : i = j
   ·rw [if_pos h2, if_pos h2]
   ·rw [if_neg h2, if_neg h2]; simp only [Yk]; rw [if_neg (fun h => h2 h.symm)]
  ·rw [if_neg h]
   simp only [Yk]
   by_cases h2 : j = i
   ·subst h2; rw [if_pos rfl, if_neg h, if_pos rfl]; rfl
   ·rw [if_neg h2, if_neg h2]; exact ih
 | (j, .cap k z N) :: r => by
  have ih := hget_frzH id s rows i r
  unfold frzH
  by_cases h : j = id
  ·subst h
   rw [if_pos rfl, ih]
   by_cases h2 : i = j
   ·rw [if_pos h2, if_pos h2]
   ·rw [if_neg h2, if_neg h2]; simp only [Yk]; rw [if_neg (fun h => h2 h.symm)]
  ·rw [if_neg h]
   simp only [Yk]
   by_cases h2 : j = i
   ·subst h2; rw [if_pos rfl, if_neg h, if_pos rfl]; rfl
   ·rw [if_neg h2, if_neg h2]; exact ih
 | (j, .pin k q z N) :: r => by
  have ih := hget_frzH id s rows i r
  unfold frzH
  by_cases h : j = id
  ·subst h
   rw [if_pos rfl, ih]
   by_cases h2 : i = j
   ·rw [if_pos h2, if_pos h2]
   ·rw [if_neg h2, if_neg h2]; simp only [Yk]; rw [if_neg (fun h => h2 h.symm)]
  ·rw [if_neg h]
   simp only [Yk]
   by_cases h2 : j = i
   ·subst h2; rw [if_pos rfl, if_neg h, if_pos rfl]; rfl
   ·rw [if_neg h2, if_neg h2]; exact ih
theorem RdP.frz_eq {S : Nat → Prop} {w : World} {v : Value} {x : AV} (h : RdP S w v x) (id s : Nat) (rows : List (List AV)) : frz id s rows x = x := by
 have key : ∀ (l : List AV), (∀ (j : Nat) x, l[j]? = some x → frz id s rows x = x) → frzL id s rows l = l := by
  intro l
  induction l with
  | nil => intro _; rfl
  | cons y r ih =>
   intro h
   simp only [frzL]
   rw [h 0 y rfl, ih (fun j x hj => h (j + 1) x (by simpa using hj))]
 induction h with
 | fn f vals caps hl hr ih => simp only [frz]; rw [key caps ih]
 | agg cs cells hl hr ih => simp only [frz]; rw [key cells ih]
 | _ => rfl
theorem frz_list {id s : Nat} {rows : List (List AV)} {R' : Value → AV → Prop} {vals : Nat → Value} {cells : List AV} (h : ∀ j x, cells[j]? = some x → R' (vals j) (frz id s rows x)) :
  ∀ j x, (frzL id s rows cells)[j]? = some x → R' (vals j) x := by
 intro j x hx
 rw [frzL_map, List.getElem?_map] at hx
 cases e : cells[j]? with
 | none => rw [e] at hx; cases hx
 | some y =>
  rw [e] at hx; simp only [Option.map_some, Option.some.injEq] at hx; subst hx
  exact h j y e
theorem inv_freeze {l : List AV} {H : List (Nat × Blk)} {id e s : Nat} {rows : List (List AV)} (hb : Yk H id = some (.cells e s rows)) (hp : (rows.all fun row => row.all AV.pureB) = true) {μ : Nat → Option Nat} {S : Nat → Prop} {a : Act} {w : World} (hi : Inv C μ S ⟨l, H⟩ a w) :
  Inv C (upd μ id none) (fun b => S b ∨ μ id = some b) ⟨l.map (frz id s rows), frzH id s rows H⟩ a w := by
 have hB := hi.hp id _ hb
 have hpure : ∀ (i : Nat) row, rows[i]? = some row → ∀ (j : Nat) x, row[j]? = some x → x.pureB = true := fun i row hi j x hj => List.all_eq_true.1 (List.all_eq_true.1 hp row (List.mem_of_getElem? hi)) x (List.mem_of_getElem? hj)
 let S2 : Nat → Prop := fun b => S b ∨ μ id = some b
 let μ2 : Nat → Option Nat := upd μ id none
 have hS : ∀ b, S b → S2 b := fun b h => .inl h
 have rd : ∀ {v : Value} {x : AV}, Rd μ S w v x → Rd μ2 S2 w v (frz id s rows x) := by
  intro v x h
  induction h with
  | any v => exact .any v
  | pure h => rw [h.frz_eq]; exact .pure (h.mono (SameOn.refl _ _) hS)
  | agg cs cells hl hr ih => simp only [frz]; exact .agg cs _ (by rw [frzL_map, List.length_map]; exact hl) (frz_list (R' := fun v x => Rd μ2 S2 w v x) (vals := fun j => cs.getD j undef) ih)
  | tup cs cells hl hr ih => simp only [frz]; exact .tup cs _ (by rw [frzL_map, List.length_map]; exact hl) (frz_list (R' := fun v x => Rd μ2 S2 w v x) (vals := fun j => cs.getD j undef) ih)
  | fn f vals cells hl hr ih => simp only [frz]; exact .fn f vals _ (by rw [frzL_map, List.length_map]; exact hl) (frz_list (R' := fun v x => Rd μ2 S2 w v x) (vals := fun j => vals.getD j undef) ih)
  | ptr i size row o g hg =>
   simp only [frz]
   split
   ·rename_i he
    subst he
    split
    ·rename_i hc
     obtain ⟨rfl, hrow⟩ := hc
     rcases hB with ⟨rfl, _⟩ | ⟨g', c, k1, k2, k3, k4, k5⟩
     ·simp at hrow
     ·rw [hg] at k1; injection k1 with k1; subst k1
      have hr := row_get hrow
      have hlen := k4 _ (List.mem_of_getElem? hr)
      have hlt := row_lt (size := size) hr
      refine .pure (.rp g (row * size) o _ (fun j => c.getD (row * size + j) undef) (.inr hg) (fun j hj => ?_) (fun j x hx => ?_))
      ·rw [cell_of k2, Array.getD_eq_getD_getElem?, Array.getElem?_eq_getElem (by omega)]; rfl
      ·exact ((k5 _ _ hr j x hx).toP (hpure _ _ hr _ _ hx)).mono (SameOn.refl _ _) hS
    ·exact .any _
   ·rename_i he
    exact .ptr i size row o g (by simp only [μ2, upd]; rw [if_neg he]; exact hg)
  | osl i size o len cap A hc h =>
   simp only [frz]
   split
   ·rename_i he
    subst he
    split
    ·rename_i hcond
     obtain ⟨rfl, hle⟩ := hcond
     have hl : ((rows.drop o).take len).length = len := by simp; omega
     rcases h with ⟨rfl, h2⟩ | ⟨g, e', n, h1, rfl, h3, h4⟩
     ·exact .pure (.sl A 0 cap _ size 0 0 (fun _ _ => undef) hl hc (fun row h => by simp at h) (fun h => by omega) (fun i j h => by omega) (fun i row h => by simp at h))
     ·rcases hB with ⟨_, k2⟩ | ⟨g', c, k1, k2, k3, k4, k5⟩
      ·rw [k2] at h1; cases h1
      ·rw [k1] at h1; injection h1 with h1; subst h1
       refine .pure (.sl _ len cap _ size g' (o * size) (fun i j => c.getD ((o + i) * size + j) undef) hl hc (fun row h => k4 row (List.mem_of_mem_drop (List.mem_of_mem_take h))) (fun _ => ⟨rfl, .inr k1⟩) (fun i' j hi' hj => ?_) (fun i' row h j x hx => ?_))
       ·have hlt : (o + i') * size + size ≤ rows.length * size := by
         have := Nat.mul_le_mul_right size (show o + i' + 1 ≤ rows.length by omega)
         rwa [Nat.succ_mul] at this
        rw [show o * size + (i' * size + j) = (o + i') * size + j from by rw [Nat.add_mul]; omega, cell_of k2, Array.getD_eq_getD_getElem?, Array.getElem?_eq_getElem (by omega)]
        rfl
       ·rw [List.getElem?_take] at h
        split at h
        ·rw [List.getElem?_drop] at h
         exact ((k5 _ row h j x hx).toP (hpure _ _ h _ _ hx)).mono (SameOn.refl _ _) hS
        ·cases h
    ·exact .any _
   ·rename_i he
    refine .osl i size o len cap A hc ?_
    rcases h with h | ⟨g, e', n, h1, h2, h3, h4⟩
    ·exact .inl h
    ·exact .inr ⟨g, e', n, by simp only [μ2, upd]; rw [if_neg he]; exact h1, h2, h3, h4⟩
  | mp i g hg =>
   simp only [frz]
   split
   ·exact .any _
   ·rename_i he
    exact .mp i g (by simp only [μ2, upd]; rw [if_neg he]; exact hg)
  | exs i size o len cap g e n hc hg hr hn =>
   simp only [frz]
   split
   ·exact .any _
   ·rename_i he
    exact .exs i size o len cap g e n hc (by simp only [μ2, upd]; rw [if_neg he]; exact hg) hr hn
  | cndT v x h ih => exact .cndT v _ ih
  | cndF x => exact .cndF _
 have m2 : ∀ {i g}, μ2 i = some g → i ≠ id ∧ μ i = some g := fun {i g} hg => by
  simp only [μ2, upd] at hg
  split at hg
  ·cases hg
  ·exact ⟨by assumption, hg⟩
 refine ⟨by simp [hi.size], hi.defers, fun t x hx => ?_, fun i b hb' => ?_, fun i g hg => ?_, fun i j g h1 h2 => hi.inj i j g (m2 h1).2 (m2 h2).2, hi.frm, fun b hb' => ?_⟩
 ·simp only [List.getElem?_map] at hx
  cases e : l[t]? with
  | none => rw [e] at hx; cases hx
  | some y =>
   rw [e] at hx
   simp only [Option.map_some, Option.some.injEq] at hx
   subst hx
   exact rd (hi.tm t y e)
 ·simp only at hb'
  rw [hget_frzH] at hb'
  split at hb'
  ·cases hb'
  ·rename_i he
   cases e1 : Yk H i with
   | none => rw [e1] at hb'; cases hb'
   | some b0 =>
    rw [e1] at hb'
    simp only [Option.map_some, Option.some.injEq] at hb'
    subst hb'
    have hμ : μ2 i = μ i := by simp only [μ2, upd]; rw [if_neg he]
    have := hi.hp i b0 e1
    cases b0 with
    | cells e' z R =>
     rcases this with ⟨rfl, h2⟩ | ⟨g, c, h1, h2, h3, h4, h5⟩
     ·exact .inl ⟨rfl, hμ.trans h2⟩
     ·refine .inr ⟨g, c, hμ.trans h1, h2, by simpa using h3, fun row hrow => ?_, fun i' row hi' j x hx => ?_⟩
      ·obtain ⟨r, hr, rfl⟩ := List.mem_map.1 hrow
       rw [frzL_map, List.length_map]; exact h4 r hr
      ·rw [List.getElem?_map] at hi'
       cases e2 : R[i']? with
       | none => rw [e2] at hi'; cases hi'
       | some r =>
        rw [e2] at hi'; simp only [Option.map_some, Option.some.injEq] at hi'; subst hi'
        exact frz_list (R' := fun v x => Rd μ2 S2 w v x) (vals := fun j => c.getD (i' * z + j) undef) (fun j x hx => rd (h5 i' r e2 j x hx)) j x hx
    | map kvs =>
     obtain ⟨g, es, clk, vals, h1, h2, h3, h4⟩ := this
     exact ⟨g, es, clk, vals, hμ.trans h1, h2, h3, fun p hp' => (h4 p hp').mono (SameOn.refl _ _) hS⟩
    | iter kvs seen =>
     obtain ⟨g, es, clk, vals, had, h1, h2, h4⟩ := this
     obtain ⟨m, k1, k2, k3⟩ := h2.lies
     exact ⟨g, es, clk, vals, had, hμ.trans h1, ⟨⟨m, k1, hS _ k2, k3⟩, h2.map, h2.last, h2.had⟩, fun p hp' => (h4 p hp').mono (SameOn.refl _ _) hS⟩
    | cap k z N =>
     obtain ⟨h1, g, e, h2, h3⟩ := this
     simp only [frzB]
     split
     ·exact .inl ⟨rfl, hμ.trans h1⟩
     ·rename_i hk
      refine ⟨hμ.trans h1, g, e, ?_, h3⟩
      simp only [upd]
      rw [if_neg hk]; exact h2
    | pin k g z N =>
     obtain ⟨h1, h2, h3⟩ := this
     simp only [frzB]
     split
     ·exact .inl ⟨rfl, hμ.trans h1⟩
     ·rename_i hk
      refine ⟨hμ.trans h1, ?_, h3⟩
      simp only [upd]
      rw [if_neg hk]; exact h2
 ·obtain ⟨k1, k2⟩ := m2 hg
  obtain ⟨⟨b, h1⟩, h2, h3, h4⟩ := hi.dom i g k2
  refine ⟨⟨frzB id s rows b, ?_⟩, h2, ?_, h4⟩
  ·simp only at h1 ⊢
   rw [hget_frzH, if_neg k1, h1]; rfl
  ·rintro (h | h)
   ·exact h3 h
   ·exact k1 (hi.inj _ _ _ k2 h)
 ·rcases hb' with h | h
  ·exact hi.sb b h
  ·obtain ⟨_, h2, _, h4⟩ := hi.dom id b h
   exact ⟨h4, .inr h2⟩
theorem le_freeze {l : List AV} {H : List (Nat × Blk)} {id e s : Nat} {rows : List (List AV)} (hb : Yk H id = some (.cells e s rows)) (hp : (rows.all fun row => row.all AV.pureB) = true) :
  Le C ⟨l, H⟩ ⟨l.map (frz id s rows), frzH id s rows H⟩ := fun _ _ ⟨_, _, hi⟩ => ⟨_, _, inv_freeze hb hp hi⟩
theorem ZZ {l : List AV} {H : List (Nat × Blk)} (id : Nat) {e s : Nat} {rows : List (List AV)} (hb : Yk H id = some (.cells e s rows)) (hp : (rows.all fun row => row.all AV.pureB) = true)
  (h : Cw P C Ret k ⟨l.map (frz id s rows), frzH id s rows H⟩) : Cw P C Ret k ⟨l, H⟩ := Yl (le_freeze hb hp) h
end
end Go.Eng
namespace Go.Eng
section
variable {P : Program} {T : Tab} {C : Ctx} {σ σ' s : St} {Ret : St → Prop}
theorem callArgs_agree {c : Operand} {args : List Operand} (h : ∀ x, x ∈ locsO σ c ++ locsL σ args → AgreeAt σ s x) : Yc s c args = Yc σ c args := by
 unfold Yc
 rw [evS_agree (fun x hx => h x (List.mem_append_left _ hx)), evSL_agree (fun x hx => h x (List.mem_append_right _ hx))]
def spCall (ops : Array Oper) (σ : St) (o : Oper) (c : Operand) (args : List Operand) (r : AV) : Sp := ⟨o.dst, r, [], locsG ops o.guard ++ (locsO σ c ++ locsL σ args)⟩
theorem spCall_app (ops : Array Oper) (σ : St) (o : Oper) (c : Operand) (args : List Operand) (r : AV) : (spCall ops σ o c args r).app σ = σ.put o.dst r := by simp [Sp.app, spCall]
theorem rob_trip {ops : Array Oper} {o : Oper} {x : AV} {rd : List Loc} {b : Bool} (hg : Yo ops σ o.guard = some b) (hg0 : b = true ∨ ∃ y, x = .cnd false y)
  (h : b = true → ∀ s, (∀ l, l ∈ rd → AgreeAt σ s l) → Trip P C o s (s.put o.dst x)) : Rob P C ops o ⟨o.dst, x, [], locsG ops o.guard ++ rd⟩ σ := by
 intro s ha _ a w K Q hr hK
 have hg' : Yo ops s o.guard = some b := by rw [guard_agree (fun x hx => ha x (List.mem_append_left _ hx))]; exact hg
 obtain ⟨μ, S, hi⟩ := hr
 rw [Zw hi hg']
 cases b with
 | true => exact .inl (h rfl s (fun l hl => ha l (List.mem_append_right _ hl)) a w K Q ⟨μ, S, hi⟩ hK)
 | false =>
  rcases hg0 with h | ⟨y, rfl⟩
  ·cases h
  ·exact hK _ _ ⟨μ, S, hi.put o.dst (.cndF y)⟩
theorem rob_call {ops : Array Oper} {o : Oper} {c : Operand} {args : Array Operand} {ats : Array TypeId} (ho : o.op = .call { callee := .value c, args, argTypes := ats }) (hg : o.guard = none) {p : Prop} {f : FuncId} {xs : List AV}
  (h : Yc σ c args.toList = some (p, f, xs)) (hp : p) (hc : Callable P f) (hx : refsL xs = []) {r : AV} (hr : refs r = []) (hf : FnOK P f xs [] fun r' _ => r' = r) : Rob P C ops o (spCall ops σ o c args.toList r) σ :=
 rob_trip (b := true) (by rw [hg]; rfl) (.inl rfl) fun _ _ ha => trip_call ho (by rw [callArgs_agree ha]; exact h) hp hc hx hr hf
def FreshAll : List Sp → St → Prop
 | [], _ => True
 | p :: ps, σ => (∀ b, b ∈ p.new → Loc.blk b.1 ∉ p.rd → Yk σ.hp b.1 = none) ∧ FreshAll ps (p.app σ)
theorem FreshAll.get : ∀ {ps : List Sp} {σ : St}, FreshAll ps σ → ∀ (i : Nat) p, ps[i]? = some p → ∀ b, b ∈ p.new → Loc.blk b.1 ∉ p.rd → Yk (upto ps i σ).hp b.1 = none
 | [], _, _, i, p, h, _, _, _ => by simp at h
 | q :: ps, σ, hf, 0, p, h, b, hb, hn => by
  simp only [List.getElem?_cons_zero, Option.some.injEq] at h
  subst h
  exact hf.1 b hb hn
 | q :: ps, σ, hf, i + 1, p, h, b, hb, hn => hf.2.get i p (by simpa using h) b hb hn
theorem FreshAll.append : ∀ {ps qs : List Sp} {σ : St}, FreshAll ps σ → FreshAll qs (appAll ps σ) → FreshAll (ps ++ qs) σ
 | [], _, _, _, h => h
 | _ :: _, _, _, h, h2 => ⟨h.1, h.2.append h2⟩
theorem FreshAll.of_nil : ∀ {ps : List Sp} {σ : St}, (∀ p, p ∈ ps → p.new = []) → FreshAll ps σ
 | [], _, _ => trivial
 | p :: ps, _, h => ⟨fun b hb _ => (by rw [h p (by simp)] at hb; cases hb), FreshAll.of_nil fun q hq => h q (by simp [hq])⟩
def SegFrom (P : Program) (C : Ctx) (ops : Array Oper) (Q : Exit → Act → World → Prop) (k n : Nat) (acc : Skel) (l : List Oper) (σ : St) : Prop :=
 ∃ l1 l2 ps, l = l1 ++ l2 ∧ l1.length = ps.length ∧ RobChain P C ops l1 ps σ ∧ FreshAll ps σ ∧ (segOK ops k (acc ++ skel ps) && dstOK n (acc ++ skel ps)) = true ∧ DrawOK P C ops Q (k + acc.length + ps.length) (appAll ps σ)
theorem chain_append {ops : Array Oper} : ∀ {l1 l2 : List Oper} {p1 p2 : List Sp} {σ : St}, l1.length = p1.length → RobChain P C ops l1 p1 σ → RobChain P C ops l2 p2 (appAll p1 σ) → RobChain P C ops (l1 ++ l2) (p1 ++ p2) σ
 | [], _, [], _, _, _, _, h => h
 | _ :: l1, _, _ :: p1, _, _, hl, h, h2 => ⟨h.1, chain_append (by simpa using hl) h.2 h2⟩
 | [], _, _ :: _, _, _, hl, _, _ => by simp at hl
 | _ :: _, _, [], _, _, hl, _, _ => by simp at hl
theorem appAll_append : ∀ (p1 p2 : List Sp) (σ : St), appAll (p1 ++ p2) σ = appAll p2 (appAll p1 σ)
 | [], _, _ => rfl
 | _ :: p1, p2, _ => appAll_append p1 p2 _
theorem seg_add {ops : Array Oper} {Q : Exit → Act → World → Prop} {k n : Nat} {acc : Skel} {l1 l : List Oper} {ps : List Sp} (hl : l1.length = ps.length) (hc : RobChain P C ops l1 ps σ) (hn : FreshAll ps σ)
  (h : SegFrom P C ops Q k n (acc ++ skel ps) l (appAll ps σ)) : SegFrom P C ops Q k n acc (l1 ++ l) σ := by
 obtain ⟨m1, m2, qs, rfl, h2, h3, h4, h5, h6⟩ := h
 have e : acc ++ skel ps ++ skel qs = acc ++ skel (ps ++ qs) := by simp [skel]
 refine ⟨l1 ++ m1, m2, ps ++ qs, by simp, by simp [hl, h2], chain_append hl hc h3, hn.append h4, by rw [← e]; exact h5, ?_⟩
 rw [appAll_append]
 have e2 : k + (acc ++ skel ps).length + qs.length = k + acc.length + (ps ++ qs).length := by simp [skel]; omega
 rw [← e2]; exact h6
theorem seg_run (hT : TabOK P T) {ops : Array Oper} {Q : Exit → Act → World → Prop} {k n : Nat} {acc : Skel} {l l' : List Oper} {p : Prop} {ps : List Sp} (h : runD T ops l σ = some (p, ps, l', σ')) (hp : p) {sk : Skel} (hs : skel ps = sk)
  (hk : SegFrom P C ops Q k n (acc ++ sk) l' σ') : SegFrom P C ops Q k n acc l σ := by
 subst hs
 obtain ⟨h1, h2, h3⟩ := runD_len h
 obtain ⟨l1, k1, k2⟩ := runD_sound (P := P) (C := C) hT ops l σ h hp (l2 := []) (ps2 := []) trivial (by simp)
 simp only [List.append_nil] at k2
 subst k1
 refine seg_add (by simpa using h1) k2 (.of_nil fun p hp => ?_) (by rw [h2]; exact hk)
 obtain ⟨i, hi⟩ := List.getElem?_of_mem hp
 exact h3 i p hi
theorem seg_robN {ops : Array Oper} {Q : Exit → Act → World → Prop} {k n : Nat} {acc : Skel} {o : Oper} {l : List Oper} {q : Sp} (hq : Rob P C ops o q σ) (hn : ∀ b, b ∈ q.new → Loc.blk b.1 ∉ q.rd → Yk σ.hp b.1 = none) {sk : List Loc × List Loc} (hs : (q.wr, q.rd) = sk) (ha : q.app σ = σ')
  (hk : SegFrom P C ops Q k n (acc ++ [sk]) l σ') : SegFrom P C ops Q k n acc (o :: l) σ := by
 subst hs ha
 exact seg_add (l1 := [o]) (ps := [q]) rfl ⟨hq, trivial⟩ ⟨hn, trivial⟩ hk
theorem seg_rob {ops : Array Oper} {Q : Exit → Act → World → Prop} {k n : Nat} {acc : Skel} {o : Oper} {l : List Oper} {q : Sp} (hq : Rob P C ops o q σ) (hn : q.new = []) {sk : List Loc × List Loc} (hs : (q.wr, q.rd) = sk) (ha : q.app σ = σ')
  (hk : SegFrom P C ops Q k n (acc ++ [sk]) l σ') : SegFrom P C ops Q k n acc (o :: l) σ := by
 subst hs ha
 exact seg_add (l1 := [o]) (ps := [q]) rfl ⟨hq, trivial⟩ (.of_nil fun p hp => by rw [List.mem_singleton.1 hp]; exact hn) hk
theorem seg_call {ops : Array Oper} {Q : Exit → Act → World → Prop} {k n : Nat} {acc : Skel} {o : Oper} {l : List Oper} {c : Operand} {args : Array Operand} {ats : Array TypeId} (ho : o.op = .call { callee := .value c, args, argTypes := ats }) (hg : o.guard = none) {p : Prop} {f : FuncId} {xs : List AV}
  (h : Yc σ c args.toList = some (p, f, xs)) (hp : p) (hc : Callable P f) (hx : refsL xs = []) {r : AV} (hf : FnOK P f xs [] fun r' _ => r' = r) (hr : refs r = []) {sk : List Loc × List Loc} (hs : ((spCall ops σ o c args.toList r).wr, (spCall ops σ o c args.toList r).rd) = sk)
  (ha : σ.put o.dst r = σ') (hk : SegFrom P C ops Q k n (acc ++ [sk]) l σ') : SegFrom P C ops Q k n acc (o :: l) σ :=
 seg_rob (rob_call ho hg h hp hc hx hr hf) rfl hs (by rw [spCall_app]; exact ha) hk
theorem seg_end {ops : Array Oper} {Q : Exit → Act → World → Prop} {k n : Nat} {acc : Skel} {l : List Oper} (hc : (segOK ops k acc && dstOK n acc) = true) {j : Nat} (hj : k + acc.length = j) (h : DrawOK P C ops Q j σ) : SegFrom P C ops Q k n acc l σ := by
 subst hj
 exact ⟨[], l, [], rfl, rfl, trivial, trivial, by simpa [skel] using hc, h⟩
theorem ZS {ops : Array Oper} {Q : Exit → Act → World → Prop} {k : Nat} {l : List Oper} (hl : ops.toList.drop k = l) (h : SegFrom P C ops Q k σ.tm.length [] l σ) : DrawOK P C ops Q k σ := by
 subst hl
 obtain ⟨l1, l2, ps, h1, h2, h3, h4, h5, h6⟩ := h
 rw [Bool.and_eq_true] at h5
 simp only [List.nil_append] at h5
 refine draw_seg (l := l1) (ps := ps) h5.1 h2 (fun i hi => ?_) (fun i q t hq hd => ?_) (fun i q hq b hb hn => h4.get i q hq b hb hn) h3 (by simpa using h6)
 ·rw [← Array.getElem?_toList, ← List.getElem?_drop, h1, List.getElem?_append_left (by omega)]
 ·have := List.all_eq_true.1 h5.2 (q.wr, q.rd) (List.mem_map.2 ⟨q, List.mem_of_getElem? hq, rfl⟩)
  have := List.all_eq_true.1 this (.tm t) (wr_tm hd)
  simpa using this
theorem draw_step (hT : TabOK P T) {ops : Array Oper} {Q : Exit → Act → World → Prop} {k : Nat} {o : Oper} (ho : ops[k]? = some o) (hc : Region.ready .any ops (Yt ops.size k) = [k]) (hg : o.guard = none) {p : Prop} (h : stepOp T σ o.dst o.op = some (p, σ')) (hp : p)
  {j : Nat} (hj : k + 1 = j) (hk : DrawOK P C ops Q j σ') : DrawOK P C ops Q k σ := by
 subst hj
 refine draw_one ho hc (fun a w K Q' hr hK => ?_) hk
 obtain ⟨μ, S, hi⟩ := hr
 rw [Zw hi (show Yo ops σ o.guard = some true from by rw [hg]; rfl)]
 exact .inl (step_sound hT o h hp a w K Q' ⟨μ, S, hi⟩ hK)
theorem draw_trip {ops : Array Oper} {Q : Exit → Act → World → Prop} {k : Nat} {o : Oper} (ho : ops[k]? = some o) (hc : Region.ready .any ops (Yt ops.size k) = [k]) (hg : o.guard = none) (h : Trip P C o σ σ')
  {j : Nat} (hj : k + 1 = j) (hk : DrawOK P C ops Q j σ') : DrawOK P C ops Q k σ := by
 subst hj
 refine draw_one ho hc (fun a w K Q' hr hK => ?_) hk
 obtain ⟨μ, S, hi⟩ := hr
 rw [Zw hi (show Yo ops σ o.guard = some true from by rw [hg]; rfl)]
 exact .inl (h a w K Q' ⟨μ, S, hi⟩ hK)
theorem cw_call {k : List It} {all : Array Oper} {o : Oper} {l : List Oper} {c : Operand} {args : Array Operand} {ats : Array TypeId} (ho : o.op = .call { callee := .value c, args, argTypes := ats }) (hg : o.guard = none) {p : Prop} {f : FuncId} {xs : List AV}
  (h : Yc σ c args.toList = some (p, f, xs)) (hp : p) (hc : Callable P f) (hx : refsL xs = []) {r : AV} (hf : FnOK P f xs [] fun r' _ => r' = r) (hr : refs r = []) (ha : σ.put o.dst r = σ') (hk : Cw P C Ret (.ops all l :: k) σ') : Cw P C Ret (.ops all (o :: l) :: k) σ := by
 subst ha
 exact cw_step (by rw [hg]; rfl) (trip_call ho h hp hc hx hr hf) hk
theorem cw_callG {k : List It} {all : Array Oper} {o : Oper} {l : List Oper} {c : Operand} {args : Array Operand} {ats : Array TypeId} (ids : List Nat) (off : Nat) (ho : o.op = .call { callee := .value c, args, argTypes := ats }) (hg : o.guard = none) {p : Prop} {f : FuncId} {xs : List AV}
  (h : Yc σ c args.toList = some (p, f, xs)) (hp : p) (hc : Callable P f) {H K : List (Nat × Blk)} {r : AV} (hH : sub ids σ.hp = H)
  (hf : FnOK P f xs H fun r' H' => r' = r ∧ ∀ id b, Yk K id = some b → Yk H' id = some b)
  (hck : (refsL xs).all ids.contains = true) (hc1 : (H.all fun p => (refsB p.2).all ids.contains) = true) (hc2 : ((del ids σ.hp).all fun p => (refsB p.2).all fun i => !ids.contains i) = true)
  (hc3 : closed K (refs r) = true) (hc4 : (K.all fun p => (Yk σ.hp (p.1 + off)).isNone) = true) (hτ : (⟨σ.tm.map (killL ids), renH off K ++ del ids σ.hp⟩ : St).put o.dst (ren off r) = σ')
  (hk : Cw P C Ret (.ops all l :: k) σ') : Cw P C Ret (.ops all (o :: l) :: k) σ :=
 cw_step (by rw [hg]; rfl) (trip_callG ho h hp hc ids off hH hck hc1 hc2 hc3 hc4 hf hτ) hk
theorem cw_runN (hT : TabOK P T) (n : Nat) {k : List It} {all : Array Oper} {l l1 l2 : List Oper} {p : Prop} (h1 : l.take n = l1) (h2 : l.drop n = l2) (h : runL T all l1 σ = some (p, [], σ')) (hp : p) (hk : Cw P C Ret (.ops all l2 :: k) σ') : Cw P C Ret (.ops all l :: k) σ := by
 subst h1 h2
 intro a w hr
 have := runL_then (P := P) (C := C) hT all (l.drop n) (l.take n) σ (Q := aft (RetOf C Ret) (sem P C (RetOf C Ret) k)) h hp (fun a w hr => hk a w hr)
 rw [List.take_append_drop] at this
 exact this a w hr
theorem seg_runN (hT : TabOK P T) (m : Nat) {ops : Array Oper} {Q : Exit → Act → World → Prop} {k n : Nat} {acc : Skel} {l l1 l2 : List Oper} {p : Prop} {ps : List Sp} (h1 : l.take m = l1) (h2 : l.drop m = l2) (h : runD T ops l1 σ = some (p, ps, [], σ')) (hp : p) {sk : Skel} (hs : skel ps = sk)
  (hk : SegFrom P C ops Q k n (acc ++ sk) l2 σ') : SegFrom P C ops Q k n acc l σ := by
 subst hs h1 h2
 obtain ⟨g1, g2, g3⟩ := runD_len h
 obtain ⟨q1, k1, k2⟩ := runD_sound (P := P) (C := C) hT ops (l.take m) σ h hp (l2 := []) (ps2 := []) trivial (by simp)
 simp only [List.append_nil] at k1 k2
 subst k1
 have := seg_add (l1 := l.take m) (l := l.drop m) (by simpa using g1) k2 (.of_nil fun p hp => by
  obtain ⟨i, hi⟩ := List.getElem?_of_mem hp
  exact g3 i p hi) (by rw [g2]; exact hk)
 rwa [List.take_append_drop] at this
end
end Go.Eng
namespace Go.Eng
section
variable {P : Program}
theorem osl_pure {μ : Nat → Option Nat} {S : Nat → Prop} {w : World} {v : Value} {id s off len e : Nat} {rows : List (List AV)} (hv : Rd μ S w v (.osl id s off len)) (hB : BlkOK μ S w id (.cells e s rows))
  (hp : (rows.all fun row => row.all AV.pureB) = true) (hle : off + len ≤ rows.length) : RdP (fun b => S b ∨ μ id = some b) w v (.sl ((rows.drop off).take len)) := by
 have hpure : ∀ (i : Nat) row, rows[i]? = some row → ∀ (j : Nat) x, row[j]? = some x → x.pureB = true := fun i row hi j x hj => List.all_eq_true.1 (List.all_eq_true.1 hp row (List.mem_of_getElem? hi)) x (List.mem_of_getElem? hj)
 obtain ⟨A, cap, rfl, hc, h⟩ := hv.inv_osl
 have hl : ((rows.drop off).take len).length = len := by simp; omega
 rcases h with ⟨rfl, h2⟩ | ⟨g, e', n, h1, rfl, h3, h4⟩
 ·exact .sl A 0 cap _ s 0 0 (fun _ _ => undef) hl hc (fun row h => by simp at h) (fun h => by omega) (fun i j h => by omega) (fun i row h => by simp at h)
 ·rcases hB with ⟨_, k2⟩ | ⟨g', c, k1, k2, k3, k4, k5⟩
  ·rw [k2] at h1; cases h1
  ·rw [k1] at h1; injection h1 with h1; subst h1
   refine .sl _ len cap _ s g' (off * s) (fun i j => c.getD ((off + i) * s + j) undef) hl hc (fun row h => k4 row (List.mem_of_mem_drop (List.mem_of_mem_take h))) (fun _ => ⟨rfl, .inr k1⟩) (fun i' j hi' hj => ?_) (fun i' row h j x hx => ?_)
   ·have hlt : (off + i') * s + s ≤ rows.length * s := by
     have := Nat.mul_le_mul_right s (show off + i' + 1 ≤ rows.length by omega)
     rwa [Nat.succ_mul] at this
    rw [show off * s + (i' * s + j) = (off + i') * s + j from by rw [Nat.add_mul]; omega, cell_of k2, Array.getD_eq_getD_getElem?, Array.getElem?_eq_getElem (by omega)]
    rfl
   ·rw [List.getElem?_take] at h
    split at h
    ·rw [List.getElem?_drop] at h
     exact ((k5 _ row h j x hx).toP (hpure _ _ h _ _ hx)).mono (SameOn.refl _ _) (fun _ h => .inl h)
    ·cases h
theorem FnOK.read {f : FuncId} {args : List AV} {H : List (Nat × Blk)} {id s e : Nat} {rows : List (List AV)} (h : FnOK P f args H fun r H' => r = .osl id s 0 rows.length ∧ ∀ i b, Yk [(id, .cells e s rows)] i = some b → Yk H' i = some b)
  (hp : (rows.all fun row => row.all AV.pureB) = true) : FnOK P f args H fun r _ => r = .sl rows := by
 intro R0 μ w0 vs hl ha hH hR
 refine (h R0 μ w0 vs hl ha hH hR).mono ?_
 rintro e' w' ⟨v, r, H', μ', S', rfl, ⟨rfl, hb⟩, h4, h5, h6, h7, h8⟩
 have hb := hb id (.cells e s rows) (by simp only [Yk, if_true])
 have hrd := osl_pure h4 (h5.blk id _ hb) hp (by omega)
 simp only [List.drop_zero, List.take_length] at hrd
 refine ⟨v, _, [], fun _ => none, _, rfl, rfl, .pure hrd, ⟨fun i b h => by simp [Yk] at h, fun i g h => (by cases h), fun i j g h => (by cases h), h5.glob.nil⟩, h6, fun i g h => (by cases h), fun b hb' => ?_⟩
 rcases hb' with h | h
 ·exact h8 b h
 ·refine ⟨(h5.dom id b h).2.2, ?_⟩
  rcases h7 id b h with h | h
  ·exact .inr (.inl h)
  ·exact .inr (.inr h)
end
end Go.Eng
namespace Go.Eng
section
variable {P : Program} {T : Tab} {C : Ctx} {σ σ' s : St} {Ret : St → Prop}
theorem le_cnd (d : Option Tmp) (r : AV) : Le C (s.put d r) (s.put d (.cnd true r)) := by
 intro a w ⟨μ, S, hi⟩
 cases d with
 | none => exact ⟨μ, S, hi⟩
 | some t =>
  refine ⟨μ, S, { hi with size := by have := hi.size; simp only [St.put, List.length_set] at this ⊢; exact this, tm := fun i x hx => ?_ }⟩
  by_cases e : t = i
  ·subst e
   simp only [St.put, List.getElem?_set, if_true] at hx
   split at hx
   ·rename_i hl
    injection hx with hx
    subst hx
    exact .cndT _ _ (hi.tm t r (by simp only [St.put, List.getElem?_set, if_true]; rw [if_pos hl]))
   ·cases hx
  ·refine hi.tm i x ?_
   simp only [St.put, List.getElem?_set, if_neg e] at hx ⊢
   exact hx
theorem Trip.cnd {o : Oper} {r : AV} (h : Trip P C o s (s.put o.dst r)) : Trip P C o s (s.put o.dst (.cnd true r)) :=
 fun a w K Q hr hK => h a w K Q hr fun a' w' h' => hK a' w' (le_cnd o.dst r a' w' h')
theorem rob_callC {ops : Array Oper} {o : Oper} {c : Operand} {args : Array Operand} {ats : Array TypeId} (ho : o.op = .call { callee := .value c, args, argTypes := ats }) {b : Bool} (hg : Yo ops σ o.guard = some b) {p : Prop} {f : FuncId} {xs : List AV}
  (h : Yc σ c args.toList = some (p, f, xs)) (hp : b = true → p) (hc : Callable P f) (hx : refsL xs = []) {r : AV} (hr : refs r = []) (hf : b = true → FnOK P f xs [] fun r' _ => r' = r) : Rob P C ops o (spCall ops σ o c args.toList (.cnd b r)) σ := by
 refine rob_trip (b := b) hg ?_ fun hb s ha => ?_
 ·cases b with
  | true => exact .inl rfl
  | false => exact .inr ⟨r, rfl⟩
 ·subst hb
  exact (trip_call ho (by rw [callArgs_agree ha]; exact h) (hp rfl) hc hx hr (hf rfl)).cnd
theorem seg_callC {ops : Array Oper} {Q : Exit → Act → World → Prop} {k n : Nat} {acc : Skel} {o : Oper} {l : List Oper} {c : Operand} {args : Array Operand} {ats : Array TypeId} (ho : o.op = .call { callee := .value c, args, argTypes := ats }) {b : Bool} (hg : Yo ops σ o.guard = some b) {p : Prop} {f : FuncId} {xs : List AV}
  (h : Yc σ c args.toList = some (p, f, xs)) (hp : b = true → p) (hc : Callable P f) (hx : refsL xs = []) {r : AV} (hf : b = true → FnOK P f xs [] fun r' _ => r' = r) (hr : refs r = []) {sk : List Loc × List Loc} (hs : ((spCall ops σ o c args.toList (.cnd b r)).wr, (spCall ops σ o c args.toList (.cnd b r)).rd) = sk)
  (ha : σ.put o.dst (.cnd b r) = σ') (hk : SegFrom P C ops Q k n (acc ++ [sk]) l σ') : SegFrom P C ops Q k n acc (o :: l) σ :=
 seg_rob (rob_callC ho hg h hp hc hx hr hf) rfl hs (by rw [spCall_app]; exact ha) hk
theorem cw_callC {k : List It} {all : Array Oper} {o : Oper} {l : List Oper} {c : Operand} {args : Array Operand} {ats : Array TypeId} (ho : o.op = .call { callee := .value c, args, argTypes := ats }) {b : Bool} (hg : Yo all σ o.guard = some b) {p : Prop} {f : FuncId} {xs : List AV}
  (h : Yc σ c args.toList = some (p, f, xs)) (hp : b = true → p) (hc : Callable P f) (hx : refsL xs = []) {r : AV} (hf : b = true → FnOK P f xs [] fun r' _ => r' = r) (hr : refs r = []) (ha : σ.put o.dst (.cnd b r) = σ') (hk : Cw P C Ret (.ops all l :: k) σ') : Cw P C Ret (.ops all (o :: l) :: k) σ := by
 subst ha
 intro a w hrel
 show wpList P all _ (o :: l) a w
 unfold wpList
 obtain ⟨μ, S, hi⟩ := hrel
 rw [Zw hi hg]
 cases b with
 | false => exact hk _ _ ⟨μ, S, hi.put o.dst (.cndF r)⟩
 | true => exact .inl ((trip_call ho h (hp rfl) hc hx hr (hf rfl)).cnd a w _ _ ⟨μ, S, hi⟩ fun a' w' h' => hk a' w' h')
end
end Go.Eng
namespace Go.Eng
section
variable {P : Program} {T : Tab} {C : Ctx} {σ σ' s : St} {Ret : St → Prop}
mutual
theorem view_agree {h h' : List (Nat × Blk)} : ∀ (x : AV), (∀ id, id ∈ refs x → Yk h' id = Yk h id) → view h' x = view h x
 | .osl id s off len, he => by simp only [view]; rw [he id (by simp [refs])]
 | .ptr id s row off, he => by simp only [view]; rw [he id (by simp [refs])]
 | .mp id, he => by simp only [view]; rw [he id (by simp [refs])]
 | .fn f caps, he => by simp only [view]; rw [viewL_agree caps (fun id hid => he id (by simpa [refs] using hid))]
 | .agg cells, he => by simp only [view]; rw [viewL_agree cells (fun id hid => he id (by simpa [refs] using hid))]
 | .any, _ => rfl
 | .tup _, _ => rfl
 | .cnd .., _ => rfl
 | .int .., _ => rfl
 | .bool _, _ => rfl
 | .str _, _ => rfl
 | .exs .., _ => rfl
 | .nilp, _ => rfl
 | .nili, _ => rfl
 | .ifc, _ => rfl
 | .nils, _ => rfl
 | .nilm, _ => rfl
 | .sl _, _ => rfl
 | .rp .., _ => rfl
 | .rm _, _ => rfl
theorem viewL_agree {h h' : List (Nat × Blk)} : ∀ (l : List AV), (∀ id, id ∈ refsL l → Yk h' id = Yk h id) → viewL h' l = viewL h l
 | [], _ => rfl
 | x :: r, he => by
  simp only [viewL]
  rw [view_agree x (fun id hid => he id (by simp [refsL, hid])), viewL_agree r (fun id hid => he id (by simp [refsL, hid]))]
end
theorem cw_view {k : List It} {all : Array Oper} {o : Oper} {l : List Oper} {c : Operand} {args : Array Operand} {ats : Array TypeId} (ho : o.op = .call { callee := .value c, args, argTypes := ats }) (hg : o.guard = none) {p q : Prop} {f : FuncId} {xs ys : List AV}
  (h : Yc σ c args.toList = some (p, f, xs)) (hp : p) (hv : viewL σ.hp xs = some (q, ys)) (hq : q) (hc : Callable P f) {r : AV} (hf : FnOK P f ys [] fun r' _ => r' = r) (hr : r.scalar = true) (ha : σ.put o.dst r = σ') (hk : Cw P C Ret (.ops all l :: k) σ') : Cw P C Ret (.ops all (o :: l) :: k) σ := by
 subst ha
 exact cw_step (by rw [hg]; rfl) (trip_view ho h hp hv hq hc hr hf) hk
theorem seg_skip (x : AV) {ops : Array Oper} {Q : Exit → Act → World → Prop} {k n : Nat} {acc : Skel} {o : Oper} {l : List Oper} (hg : Yo ops σ o.guard = some false) {sk : List Loc × List Loc}
  (hs : ((⟨o.dst, .cnd false x, [], locsG ops o.guard ++ []⟩ : Sp).wr, locsG ops o.guard) = sk) (ha : σ.put o.dst (.cnd false x) = σ') (hk : SegFrom P C ops Q k n (acc ++ [sk]) l σ') : SegFrom P C ops Q k n acc (o :: l) σ :=
 seg_rob (rob_trip (rd := []) hg (.inr ⟨x, rfl⟩) (fun h => nomatch h)) rfl (by rw [← hs, List.append_nil]) (by rw [← ha]; simp [Sp.app]) hk
def newOp (T : Tab) (σ : St) (d : Nat) (op : Op) : Option (Prop × Blk × AV) :=
 match op with
 | .buildSlice t n parts =>
  match buildSliceOp T σ t n parts.toList with
  | some (p, e, rows) => some (p, .cells e (T.siz e) rows, .osl d (T.siz e) 0 n)
  | none => none
 | .alloc t => some (T.siz t ≠ 0 ∧ (T.zer t).length = T.siz t, .cells t (T.siz t) [T.zer t], .ptr d (T.siz t) 0 0)
 | .box t x =>
  match cellsAt T t (evS σ x).2 with
  | some xs => some ((evS σ x).1 ∧ xs.length = T.siz t ∧ xs.all AV.leaf = true, .cells t (T.siz t) [xs], .ptr d (T.siz t) 0 0)
  | none => none
 | .makeMap _ none => some (True, .map [], .mp d)
 | _ => none
theorem partsE_agree {e n : Nat} : ∀ {parts : List (Nat × Operand)}, (∀ q, q ∈ parts → evS s q.2 = evS σ q.2) → partsE T s e n parts = partsE T σ e n parts
 | [], _ => rfl
 | (j, o) :: r, h => by
  simp only [partsE]
  rw [h (j, o) (by simp), partsE_agree (fun q hq => h q (by simp [hq]))]
theorem newOp_agree {d : Nat} {op : Op} (h : ∀ x, x ∈ locsL σ op.operands.toList → AgreeAt σ s x) : newOp T s d op = newOp T σ d op := by
 have he : ∀ o, o ∈ op.operands.toList → evS s o = evS σ o := fun o ho => evS_agree fun x hx => h x (locsL_mem ho x hx)
 unfold newOp
 split
 ·rename_i t n parts
  have : buildSliceOp T s t n parts.toList = buildSliceOp T σ t n parts.toList := by
   unfold buildSliceOp
   split
   ·rw [partsE_agree (fun q hq => he q.2 (by
     simp only [Op.operands, List.toList_toArray]
     exact List.mem_map.2 ⟨q, hq, rfl⟩))]
   ·rfl
  rw [this]
 ·rfl
 ·rw [he _ (by simp [Op.operands])]
 ·rfl
 ·rfl
theorem room_none {d : Nat} (h : Yk s.hp d = none) : s.room d = (True, s) := by unfold St.room; rw [h]
theorem newOp_sound (hT : TabOK P T) {o : Oper} {d : Nat} (hd : o.dst = some d) {p : Prop} {b : Blk} {x : AV} (h : newOp T s d o.op = some (p, b, x)) (hp : p) (hf : Yk s.hp d = none) :
  Trip P C o s (St.put ⟨s.tm, (d, b) :: s.hp⟩ (some d) x) := by
 have hr := room_none hf
 unfold newOp at h
 split at h
 ·rename_i t n parts ho
  split at h
  ·rename_i q e rows hb
   simp only [gL, gM] at h
   obtain ⟨rfl, rfl, rfl⟩ := h
   refine step_sound hT o (p := q ∧ True) ?_ ⟨hp, trivial⟩
   rw [hd, ho]
   simp only [stepOp, hr, hb]
  ·cases h
 ·rename_i t ho
  simp only [gL, gM] at h
  obtain ⟨rfl, rfl, rfl⟩ := h
  refine step_sound hT o (p := T.siz t ≠ 0 ∧ (T.zer t).length = T.siz t ∧ True) ?_ ⟨hp.1, hp.2, trivial⟩
  rw [hd, ho]
  simp only [stepOp, hr]
 ·rename_i t y ho
  split at h
  ·rename_i xs hx
   simp only [gL, gM] at h
   obtain ⟨rfl, rfl, rfl⟩ := h
   refine step_sound hT o (p := (evS s y).1 ∧ xs.length = T.siz t ∧ xs.all AV.leaf = true ∧ True) ?_ ⟨hp.1, hp.2.1, hp.2.2, trivial⟩
   rw [hd, ho]
   simp only [stepOp, hr, hx]
  ·cases h
 ·rename_i t ho
  simp only [gL, gM] at h
  obtain ⟨rfl, rfl, rfl⟩ := h
  refine step_sound hT o (p := True) ?_ trivial
  rw [hd, ho]
  simp only [stepOp, hr]
 ·cases h
theorem seg_new (hT : TabOK P T) {ops : Array Oper} {Q : Exit → Act → World → Prop} {k n : Nat} {acc : Skel} {o : Oper} {l : List Oper} {d : Nat} (hd : o.dst = some d) (hg : Yo ops σ o.guard = some true) {p : Prop} {b : Blk} {x : AV} (h : newOp T σ d o.op = some (p, b, x)) (hp : p) (hf : Yk σ.hp d = none)
  {sk : List Loc × List Loc} (hs : ([Loc.tm d, Loc.blk d], locsG ops o.guard ++ locsL σ o.op.operands.toList) = sk) (ha : St.put ⟨σ.tm, (d, b) :: σ.hp⟩ (some d) x = σ') (hk : SegFrom P C ops Q k n (acc ++ [sk]) l σ') : SegFrom P C ops Q k n acc (o :: l) σ := by
 refine seg_robN (q := ⟨some d, x, [(d, b)], locsG ops o.guard ++ locsL σ o.op.operands.toList⟩) ?_ (fun c hc _ => by rw [List.mem_singleton.1 hc]; exact hf) (by rw [← hs]; rfl) (by rw [← ha]; rfl) hk
 intro s hagree hfree a w K Q' hr hK
 have hg' : Yo ops s o.guard = some true := by rw [guard_agree (fun x hx => hagree x (List.mem_append_left _ hx))]; exact hg
 obtain ⟨μ, S, hi⟩ := hr
 rw [Zw hi hg']
 refine .inl ?_
 have hn : newOp T s d o.op = some (p, b, x) := by rw [newOp_agree (fun x hx => hagree x (List.mem_append_right _ hx))]; exact h
 have hfd : Yk s.hp d = none := by
  by_cases h : Loc.blk d ∈ locsG ops o.guard ++ locsL σ o.op.operands.toList
  ·exact (hagree _ h).trans hf
  ·exact hfree (d, b) (by simp) h
 exact newOp_sound hT hd hn hp hfd a w K Q' ⟨μ, S, hi⟩ hK
attribute [go_sem] newOp
end
end Go.Eng
namespace Go.Eng
attribute [go_sem] go runL mkc stepOp pureOp evS ev evSL strip ofValue Yo isCall St.put St.room Yk Zh hdel loadOp Eng.loadCells KD.isA storeOp cellsAt putAt
 pickAV binAV KD.isBool intBin addStr unAV fieldAddrAV fieldAV indexAddrAV indexAV natOf sliceAV lenAV buildAV partsS partsE fillAV buildSliceOp setRows appendOp srcRows
 kill refs refsL BlkFree HpFree srcId rowsLeaf AV.leaf resAV resL resOne one Yc view viewL AV.pureB AV.scalar scalarL exitTo St.drop
 clearOp copyOp delOp putOp mapOf zeroAV KD.isI64 lookAV AV.deepB runD spPure locsO locsL locsG Op.operands Call.operands appAll Sp.app Sp.wr skel leAny setAll hsetAll ren renL renB renH Eng.sub Eng.del killL closed wk leWk emptyB subH frz frzL frzH spCall convAV
attribute [go_sem] List.getD_cons_zero List.getD_cons_succ List.set_cons_zero List.set_cons_succ List.getD_nil List.map_cons List.map_nil List.length_cons List.length_nil Option.map_some Option.map_none
 List.replicate_succ List.replicate_zero List.cons_append List.nil_append List.all_cons List.all_nil List.drop_succ_cons List.drop_zero List.take_succ_cons List.take_zero
 true_and and_true if_true if_false Option.bind_some Bool.false_eq_true Bool.and_true Bool.true_and Bool.and_self ne_eq Nat.reduceEqDiff List.toList_toArray Option.bind_some Option.toList Option.bind_none List.append_nil List.length_map List.append_toArray List.length_append List.take_length Nat.le_refl List.any_nil List.any_cons List.all_append Option.isSome_some Option.isSome_none Option.isNone_none Option.isNone_some List.all_nil List.contains_nil List.contains_cons Bool.or_false Nat.zero_add Nat.add_zero Int.toNat_natCast
attribute [go_sem] Nat.reduceLT Nat.reduceBEq Nat.reduceLeDiff Nat.reduceAdd Nat.reduceMul Nat.reduceSub Nat.reduceEqDiff Int.reduceNeg Int.reduceToNat Int.reduceAdd Int.reduceSub
end Go.Eng
namespace Go.Eng
section
variable {P : Program} {T : Tab} {C : Ctx} {σ σ' : St} {Ret : St → Prop} {k : List It}
def goR : Nat → List It → Option (List It)
 | 0, k => some k
 | n + 1, k =>
  match k with
  | .code (.seq x y) :: k => goR n (.code x :: .code y :: k)
  | .code (.block id c) :: k => goR n (.code c :: .blk id :: k)
  | .code .skip :: k => goR n k
  | .blk _ :: k => goR n k
  | .code (.exit id) :: k =>
   match exitTo id k with
   | some k' => goR n k'
   | none => none
  | .code (.region _ ops false) :: k => goR n (.ops ops ops.toList :: k)
  | .ops _ [] :: k => goR n k
  | k => some k
theorem cw_goR : ∀ (n : Nat) {k k' : List It}, goR n k = some k' → Cw P C Ret k' σ → Cw P C Ret k σ
 | 0, k, k', h, hk => by
  simp only [goR, Option.some.injEq] at h
  subst h; exact hk
 | n + 1, k, k', h, hk => by
  unfold goR at h
  split at h
  ·exact cw_seq (cw_goR n h hk)
  ·exact cw_block (cw_goR n h hk)
  ·exact cw_skip (cw_goR n h hk)
  ·exact cw_blk (cw_goR n h hk)
  ·split at h
   ·rename_i k1 he
    exact cw_exit he (cw_goR n h hk)
   ·cases h
  ·exact cw_region (cw_goR n h hk)
  ·exact cw_ops_nil (cw_goR n h hk)
  ·simp only [Option.some.injEq] at h
   subst h; exact hk
theorem set_getD {l : List AV} {t : Nat} {x : AV} (h : l.getD t .any = x) (hx : x ≠ .any) : l.set t x = l := by
 apply List.ext_getElem?
 intro i
 rw [List.getElem?_set]
 split
 ·rename_i e
  subst e
  rw [List.getD_eq_getElem?_getD] at h
  cases e : l[t]? with
  | none => rw [e] at h; exact absurd h.symm hx
  | some y =>
   rw [e] at h
   simp only [Option.getD_some] at h
   subst h
   rw [if_pos (List.getElem?_eq_some_iff.1 e).1]
 ·rfl
theorem Yn (t : Nat) {b : Bool} (h : σ.tm.getD t .any = .bool b) (hk : ∀ c, b = c → Cw P C Ret k ⟨σ.tm.set t (.bool c), σ.hp⟩) : Cw P C Ret k σ := by
 have := hk b rfl
 rwa [set_getD h (fun h => nomatch h)] at this
theorem seg_name (t : Nat) {b : Bool} {ops : Array Oper} {Q : Exit → Act → World → Prop} {k n : Nat} {acc : Skel} {l : List Oper} (h : σ.tm.getD t .any = .bool b) (hk : ∀ c, b = c → SegFrom P C ops Q k n acc l ⟨σ.tm.set t (.bool c), σ.hp⟩) : SegFrom P C ops Q k n acc l σ := by
 have := hk b rfl
 rwa [set_getD h (fun h => nomatch h)] at this
theorem cw_condT {c : Operand} {x y : Code} {b : Bool} {p : Prop} (hc : evS σ c = (p, .bool b)) (hp : p) (hb : b = true) (ht : Cw P C Ret (.code x :: k) σ) : Cw P C Ret (.code (.cond c x y) :: k) σ :=
 cw_cond hc hp (fun _ => ht) (fun h => by rw [hb] at h; cases h)
theorem cw_condF {c : Operand} {x y : Code} {b : Bool} {p : Prop} (hc : evS σ c = (p, .bool b)) (hp : p) (hb : b = false) (hf : Cw P C Ret (.code y :: k) σ) : Cw P C Ret (.code (.cond c x y) :: k) σ :=
 cw_cond hc hp (fun h => by rw [hb] at h; cases h) (fun _ => hf)
mutual
def nrm : AV → AV
 | .nils => .sl []
 | .sl rows => .sl (nrmR rows)
 | .rp cells off => .rp (nrmL cells) off
 | .agg cells => .agg (nrmL cells)
 | .tup vs => .tup (nrmL vs)
 | .fn f caps => .fn f (nrmL caps)
 | x => x
def nrmL : List AV → List AV
 | [] => []
 | x :: r => nrm x :: nrmL r
def nrmR : List (List AV) → List (List AV)
 | [] => []
 | x :: r => nrmL x :: nrmR r
end
theorem nrmL_map : ∀ l, nrmL l = l.map nrm
 | [] => rfl
 | x :: r => by simp [nrmL, nrmL_map r]
theorem nrmR_map : ∀ l, nrmR l = l.map nrmL
 | [] => rfl
 | x :: r => by simp [nrmR, nrmR_map r]
theorem RdP.nrm {S : Nat → Prop} {w : World} {v : Value} {x : AV} (h : RdP S w v x) : RdP S w v (Eng.nrm x) := by
 have key : ∀ {l : List AV} {f : Nat → Value}, (∀ j x, l[j]? = some x → RdP S w (f j) (Eng.nrm x)) → ∀ j x, (nrmL l)[j]? = some x → RdP S w (f j) x := fun {l f} h j x hx => by
  rw [nrmL_map, List.getElem?_map] at hx
  cases e : l[j]? with
  | none => rw [e] at hx; cases hx
  | some y => rw [e] at hx; simp only [Option.map_some, Option.some.injEq] at hx; subst hx; exact h j y e
 induction h with
 | int k n => exact .int k n
 | bool b => exact .bool b
 | str s l h => exact .str s l h
 | nilp => exact .nilp
 | nili => exact .nili
 | ifc t p => exact .ifc t p
 | nils => exact .sl none 0 0 [] 0 0 0 (fun _ _ => undef) rfl (Nat.le_refl _) (fun row h => by simp at h) (fun h => by omega) (fun i j h => by omega) (fun i row h => by simp at h)
 | nilm => exact .nilm
 | sl A len cap rows size g off vals hl hc hsz hA hcell hr ih =>
  refine .sl A len cap (nrmR rows) size g off vals (by rw [nrmR_map, List.length_map]; exact hl) hc (fun row hrow => ?_) hA hcell (fun i row hi j x hx => ?_)
  ·rw [nrmR_map] at hrow
   obtain ⟨r, hr', rfl⟩ := List.mem_map.1 hrow
   rw [nrmL_map, List.length_map]; exact hsz r hr'
  ·rw [nrmR_map, List.getElem?_map] at hi
   cases e : rows[i]? with
   | none => rw [e] at hi; cases hi
   | some r =>
    rw [e] at hi; simp only [Option.map_some, Option.some.injEq] at hi; subst hi
    exact key (f := vals i) (ih i r e) j x hx
 | rp g o off cells vals hS hcell hr ih =>
  refine .rp g o off (nrmL cells) vals hS (fun j hj => hcell j (by rw [nrmL_map, List.length_map] at hj; exact hj)) (key ih)
 | rm g es clk kvs vals hS hg hm hr ih => exact .rm g es clk kvs vals hS hg hm hr
 | fn f vals caps hl hr ih => exact .fn f vals _ (by rw [nrmL_map, List.length_map]; exact hl) (key ih)
 | agg cs cells hl hr ih => exact .agg cs _ (by rw [nrmL_map, List.length_map]; exact hl) (key ih)
theorem Rd.nrm {μ : Nat → Option Nat} {S : Nat → Prop} {w : World} {v : Value} {x : AV} (h : Rd μ S w v x) : Rd μ S w v (Eng.nrm x) := by
 have key : ∀ {l : List AV} {f : Nat → Value}, (∀ j x, l[j]? = some x → Rd μ S w (f j) (Eng.nrm x)) → ∀ j x, (nrmL l)[j]? = some x → Rd μ S w (f j) x := fun {l f} h j x hx => by
  rw [nrmL_map, List.getElem?_map] at hx
  cases e : l[j]? with
  | none => rw [e] at hx; cases hx
  | some y => rw [e] at hx; simp only [Option.map_some, Option.some.injEq] at hx; subst hx; exact h j y e
 induction h with
 | any v => exact .any v
 | pure h => exact .pure h.nrm
 | agg cs cells hl hr ih => exact .agg cs _ (by rw [nrmL_map, List.length_map]; exact hl) (key ih)
 | tup vs xs hl hr ih => exact .tup vs _ (by rw [nrmL_map, List.length_map]; exact hl) (key ih)
 | fn f vals caps hl hr ih => exact .fn f vals _ (by rw [nrmL_map, List.length_map]; exact hl) (key ih)
 | ptr id size row off g hg => exact .ptr id size row off g hg
 | osl id size off len cap A hc h => exact .osl id size off len cap A hc h
 | mp id g hg => exact .mp id g hg
 | exs id size off len cap g e n hc hg hr hn => exact .exs id size off len cap g e n hc hg hr hn
 | cndT v x h ih => exact .cndT v x h
 | cndF x => exact .cndF x
theorem FnOK.nrm {f : FuncId} {args args' : List AV} {H : List (Nat × Blk)} {post : AV → List (Nat × Blk) → Prop} (hn : nrmL args = args') (h : FnOK P f args' H post) : FnOK P f args H post := by
 intro R0 μ w0 vs hl hr hH hR
 subst hn
 refine h R0 μ w0 vs (by rw [nrmL_map, List.length_map]; exact hl) (fun j x hx => ?_) hH hR
 rw [nrmL_map, List.getElem?_map] at hx
 cases e : args[j]? with
 | none => rw [e] at hx; cases hx
 | some y => rw [e] at hx; simp only [Option.map_some, Option.some.injEq] at hx; subst hx; exact (hr j y e).nrm
attribute [go_sem] goR
end
end Go.Eng
namespace Go.Eng
section
variable {P : Program} {T : Tab} {C : Ctx} {σ σ' : St} {Ret : St → Prop} {k : List It} {μ : Nat → Option Nat} {S : Nat → Prop} {a : Act} {w : World}
theorem cw_pass (x : AV) {all : Array Oper} {o : Oper} {l : List Oper} (hg : Yo all σ o.guard = some false) (h : Cw P C Ret (.ops all l :: k) (σ.put o.dst (.cnd false x))) : Cw P C Ret (.ops all (o :: l) :: k) σ := by
 intro a w hr
 show wpList P all _ (o :: l) a w
 unfold wpList
 obtain ⟨μ, S, hi⟩ := hr
 rw [Zw hi hg]
 exact h _ _ ⟨μ, S, hi.put o.dst (.cndF _)⟩
theorem Inv.widen (hi : Inv C μ S σ a w) {id s e n g d N : Nat} {rows : List (List AV)} (hb : Yk σ.hp id = some (.cells e s rows)) (hg : μ id = some g) (hr : Yr w g = some (n, N * s)) (hs : s ≠ 0) (hf : Yk σ.hp d = none) :
  rows.length ≤ N ∧ Inv C μ S ⟨σ.tm, (d, .cap id s N) :: Zh σ.hp id (.cells e s (rows ++ List.replicate (N - rows.length) (List.replicate s .any)))⟩ a w := by
 rcases hi.hp id _ hb with ⟨_, k2⟩ | ⟨g', c, k1, k2, k3, k4, k5⟩
 ·rw [k2] at hg; cases hg
 ·rw [k1] at hg; injection hg with hg; subst hg
  have hcs : c.size = N * s := by
   have := hr
   rw [Yr, k2] at this
   simp only [gL, gM] at this
   exact this.2
  have hle : rows.length ≤ N := Nat.le_of_mul_le_mul_right (by rw [← hcs]; exact k3) (Nat.pos_of_ne_zero hs)
  have hid : d ≠ id := by rintro rfl; rw [hb] at hf; cases hf
  refine ⟨hle, hi.size, hi.defers, hi.tm, fun i b hb' => ?_, fun i q hq => ?_, hi.inj, hi.frm, hi.sb⟩
  ·simp only [Yk] at hb'
   split at hb'
   ·rename_i hd
    injection hb' with hb'
    subst hd hb'
    exact ⟨hi.fresh hf, g', n, k1, hr⟩
   ·rw [Yi] at hb'
    split at hb'
    ·rename_i hi2
     injection hb' with hb'
     subst hi2 hb'
     refine .inr ⟨g', c, k1, k2, by rw [List.length_append, List.length_replicate, hcs]; exact Nat.le_of_eq (by congr 1; omega), fun row hrow => ?_, fun i row hrow j x hx => ?_⟩
     ·rcases List.mem_append.1 hrow with h | h
      ·exact k4 row h
      ·rw [(List.mem_replicate.1 h).2]; simp
     ·by_cases hil : i < rows.length
      ·rw [List.getElem?_append_left hil] at hrow
       exact k5 i row hrow j x hx
      ·rw [List.getElem?_append_right (by omega), List.getElem?_replicate] at hrow
       split at hrow
       ·injection hrow with hrow
        subst hrow
        rw [List.getElem?_replicate] at hx
        split at hx
        ·injection hx with hx; subst hx; exact .any _
        ·cases hx
       ·cases hrow
    ·exact hi.hp i b hb'
  ·obtain ⟨⟨b, h1⟩, h2⟩ := hi.dom i q hq
   refine ⟨?_, h2⟩
   simp only [Yk]
   split
   ·exact ⟨_, rfl⟩
   ·rw [Yi]
    split
    ·exact ⟨_, rfl⟩
    ·exact ⟨b, h1⟩
theorem cw_cap (hT : TabOK P T) {all : Array Oper} {o : Oper} {l : List Oper} {x : Operand} {t e : TypeId} {d : Nat} (ho : o.op = .call { callee := .builtin .cap, args := #[x], argTypes := #[t] }) (hd : o.dst = some d) (hg : o.guard = none) (ht : T.und t = .sl e)
  {id s off len e' : Nat} {rows : List (List AV)} (hx : evS σ x = (True, .osl id s off len)) (hb : Yk σ.hp id = some (.cells e' s rows)) (h0 : 0 < len) (hs : s ≠ 0) (hf : Yk σ.hp d = none)
  (h : ∀ c : Nat, len ≤ c → rows.length ≤ off + c → Cw P C Ret (.ops all l :: k) (St.put ⟨σ.tm, (d, .cap id s (off + c)) :: Zh σ.hp id (.cells e' s (rows ++ List.replicate (off + c - rows.length) (List.replicate s .any)))⟩ (some d) (.int .i64 c))) :
  Cw P C Ret (.ops all (o :: l) :: k) σ := by
 intro a w ⟨μ, S, hi⟩
 have hv := hi.evS x (by rw [hx]; trivial)
 rw [hx] at hv
 obtain ⟨A, cap, hv', hc, hor⟩ := hv.inv_osl
 have hty : P.underlying t = some (.slice e) := by have := hT.und t; rw [ht] at this; exact this
 rcases hor with ⟨h1, _⟩ | ⟨g, n, m, h1, _, h3, h4⟩
 ·omega
 ·obtain ⟨hle, hi'⟩ := hi.widen (d := d) (N := off + cap) hb h1 (by rw [h3, h4]) hs hf
  show wpList P all _ (o :: l) a w
  unfold wpList
  rw [Zw hi (show Yo all σ o.guard = some true from by rw [hg]; rfl)]
  refine .inl ?_
  unfold Oper.wp
  have hrun : (execOp a.eval o).run P w = .ok (.value (.int .i64 cap)) w := by
   have hv2 : a.eval x = .slice A len cap := hv'
   simp [execOp, ho, hv2, resolve, invoke, builtin, Builtin.cap_, run_underlying hty, goInt]
  rw [hrun, Oper.upon_value, hd]
  exact h cap hc hle _ _ ⟨μ, S, hi'.put (some d) (.pure (.int _ _))⟩
theorem trip_reslice (hT : TabOK P T) {o : Oper} {x hi : Operand} {t e : TypeId} (ho : o.op = .slice t x none (some hi) none) (ht : T.und t = .sl e) {id s off len h j N : Nat} (hx : evS σ x = (True, .osl id s off len)) (hh : evS σ hi = (True, .int .i64 (h : Nat)))
  (hcap : Yk σ.hp j = some (.cap id s N)) (hN : off + h ≤ N) (h0 : 0 < len) (hs : T.siz e = s) (hs0 : s ≠ 0) : Trip P C o σ (σ.put o.dst (.osl id s off h)) := by
 refine trip_value fun μ S a w hi' => ?_
 have hv := hi'.evS x (by rw [hx]; trivial)
 have hu := hi'.evS hi (by rw [hh]; trivial)
 rw [hx] at hv; rw [hh] at hu
 obtain ⟨A, cap, hv', hc, hor⟩ := hv.inv_osl
 have hu' := hu.inv_int
 have hty : P.underlying t = some (.slice e) := by have := hT.und t; rw [ht] at this; exact this
 rcases hor with ⟨h1, _⟩ | ⟨g, n, m, h1, hA, h3, h4⟩
 ·omega
 ·obtain ⟨_, g', e', k1, k2⟩ := hi'.hp j _ hcap
  rw [k1] at h1; injection h1 with h1; subst h1
  rw [h3] at k2
  simp only [gL, gM] at k2
  have hNc : off + cap = N := Nat.eq_of_mul_eq_mul_right (Nat.pos_of_ne_zero hs0) (h4.trans k2.2)
  subst hA
  have hrun : (Instr.sliceAt t (.slice (some ⟨g', off * s, none⟩) len cap) none (some (.int .i64 (h : Nat))) none).run P w = .ok (.slice (some ⟨g', off * s, none⟩) h cap) w := by
   have hb := run_bounds (P := P) (w := w) true len cap 0 h none (some (.int .i64 (h : Nat))) (show BoundIs none 0 0 from rfl) (show BoundIs (some (.int .i64 (h : Nat))) len h from ⟨.i64, rfl⟩) (Nat.zero_le _) (by omega)
   by_cases hc0 : cap = 0
   ·subst hc0
    simp [Instr.sliceAt, Instr.slice, run_underlying hty, hb, sizeOf_of hT (t := e) (by rw [hs]; exact hs0)]
   ·simp [Instr.sliceAt, Instr.slice, run_underlying hty, hb, sizeOf_of hT (t := e) (by rw [hs]; exact hs0), hc0, Addr.add]
  refine ⟨.slice (some ⟨g', off * s, none⟩) h cap, ?_, .osl id s off h cap _ (by omega) (.inr ⟨g', n, m, k1, rfl, h3, h4⟩)⟩
  have e1 : a.eval x = .slice (some ⟨g', off * s, none⟩) len cap := hv'
  have e2 : a.eval hi = .int .i64 (h : Nat) := hu'
  simp only [execOp, ho, e1, Option.map_none, Option.map_some, e2, Sem.run_bind, hrun]
  rfl
theorem run_append_zeros (hT : TabOK P T) {t u e ty : TypeId} (ht : P.underlying t = some (.slice e)) (hu : P.underlying u = some (.int .i64)) (hs : T.siz e ≠ 0) (hb : T.byt e ≠ 0) {A : Option Addr} {len cap : Nat} {R : List (List AV)} {olds : List Value}
  (ho : Src μ S w (T.siz e) (.slice A len cap) R olds) (hlen : R.length = len) (n : Nat) (hn : n ≠ 0) (hg : ¬ len + n ≤ cap) (hsz : (2 * (len + n) + 768) * T.byt e ≤ 281474976710656) :
  ∃ (nc : Nat) (z zs : Array Value), len + n ≤ nc ∧ z.size = (nc - (len + n)) * T.siz e ∧ (∀ (μ : Nat → Option Nat) (S : Nat → Prop) (w : World), RdR μ S w (T.siz e) zs (List.replicate n (T.zer e))) ∧
   (Builtin.append_ #[t, u] ty #[.slice A len cap, .int .i64 (n : Nat)]).run P w = .ok (.slice (some ⟨w.heap.size, 0, none⟩) (len + n) nc) (w.drew.alloc (.cells (olds.toArray ++ zs ++ z) e)) := by
 obtain ⟨i, hi, hi1, hi2, z, hz, _, hzs, _⟩ := hT.siz e hs
 obtain ⟨z0, r1, r2, r3⟩ := zeros_rdr hT (e := e) n hs
 have hzz : z0 = z := by
  have := r1 w
  simp [zeroValue, typeInfo, hi, hz] at this
  exact this.symm
 subst hzz
 have hnx := nextcap_le (len + n) cap (by omega)
 have hfit : Builtin.nextslicecap (len + n) cap * i.bytes ≤ 281474976710656 := by
  rw [hi2]
  exact Nat.le_trans (Nat.mul_le_mul_right _ hnx) hsz
 have hw1 : Src μ S w.drew (T.siz e) (.slice A len cap) R olds := ⟨ho.form, ho.len, ho.rlen, fun i row hi j x hx => (ho.rd i row hi j x hx).mono (fun _ _ => rfl) (fun _ h => h) (fun _ _ h => h) (fun _ _ _ => rfl)⟩
 have g1 := run_first (P := P) hw1
 rw [hlen] at g1
 have hb' : i.bytes ≠ 0 := by rw [hi2]; exact hb
 have hnb : n * i.bytes ≤ 281474976710656 := by
  rw [hi2]
  exact Nat.le_trans (Nat.mul_le_mul_right _ (by omega)) hsz
 have hbl : n ≤ 281474976710656 := Nat.le_trans (Nat.le_mul_of_pos_right n (Nat.pos_of_ne_zero hb')) hnb
 have hneed : len + n ≤ 281474976710656 := by
  have h1 : (len + n) * T.byt e ≤ 281474976710656 := Nat.le_trans (Nat.mul_le_mul_right _ (by omega)) hsz
  exact Nat.le_trans (Nat.le_mul_of_pos_right _ (Nat.pos_of_ne_zero hb)) h1
 have hwrap : IntKind.i64.wrap (n : Int) = n := wrap_small (by omega) (by omega)
 have hnn : ¬ ((n : Int) < 0) := by omega
 have hm1 : ¬ 281474976710656 < (n : Int) * (i.bytes : Int) := by
  have h0 : ((n * i.bytes : Nat) : Int) ≤ ((281474976710656 : Nat) : Int) := Int.ofNat_le.2 hnb
  rw [Int.natCast_mul] at h0
  omega
 have hm2 : ¬ 9223372036854775807 < (len : Int) + (n : Int) := by omega
 have hns : n * T.siz e ≠ 0 := Nat.mul_ne_zero hn hs
 refine ⟨grownCap w (len + n) cap e, Builtin.zeroCells z0.cells (grownCap w (len + n) cap e - (len + n)), Builtin.zeroCells z0.cells n, grownCap_ge w _ _ _, by simp [Builtin.zeroCells, hzs], fun μ S w => ?_, ?_⟩
 ·have := r3 μ S w
  simp only [r2] at this
  rw [Builtin.zeroCells, r2]; exact this
 ·simp [Builtin.append_, run_underlying ht, run_underlying hu, sizeOf, typeInfo, hi, hi1, hwrap, hnn, hm1, hm2, hg, hb', hns, show ¬ 281474976710656 < Builtin.nextslicecap (len + n) cap * i.bytes by omega, g1, Question.forced, zeroValue, hz, run_newRow, grownCap, asInt, asIntOf]
theorem trip_growZ (hT : TabOK P T) {o : Oper} {x y : Operand} {t u e : TypeId} (ho : o.op = .call { callee := .builtin .append, args := #[x, y], argTypes := #[t, u] }) (ht : T.und t = .sl e) (hu : P.underlying u = some (.int .i64))
  {id s len n j N d e' : Nat} {R : List (List AV)} (hx : evS σ x = (True, .osl id s 0 len)) (hy : evS σ y = (True, .int .i64 (n : Nat))) (hcap : Yk σ.hp j = some (.cap id s N)) (hN : N < len + n) (hn : n ≠ 0)
  (hb0 : Yk σ.hp id = some (.cells e' s R)) (hR : len ≤ R.length) (hs : T.siz e = s) (hs0 : s ≠ 0) (hb : T.byt e ≠ 0) (hsz : (2 * (len + n) + 768) * T.byt e ≤ 281474976710656) (hd : Yk σ.hp d = none) :
  Trip P C o σ (St.put ⟨σ.tm, (d, .cells e s (R.take len ++ List.replicate n (T.zer e))) :: σ.hp⟩ o.dst (.osl d s 0 (len + n))) := by
 subst hs
 intro a w K Q ⟨μ, S, hi⟩ hK
 have hv := hi.evS x (by rw [hx]; trivial)
 have hvy := hi.evS y (by rw [hy]; trivial)
 rw [hx] at hv; rw [hy] at hvy
 have hvy' := hvy.inv_int
 have hRl : rowsOf (T.siz e) (R.take len) := by
  rcases hi.hp id _ hb0 with ⟨rfl, _⟩ | ⟨g, c, _, _, _, k4, _⟩
  ·intro row hrow; simp at hrow
  ·exact fun row hrow => k4 row (List.mem_of_mem_take hrow)
 have hRt : (R.take len).length = len := by simp; omega
 obtain ⟨olds, hol⟩ := src_of hi (x := .osl id (T.siz e) 0 len) (rows := R.take len) (size := T.siz e) (by simp [srcRows, hb0]) hv hRl (fun _ _ _ _ h => by injection h with _ _ _ h; rw [hRt, h])
 obtain ⟨A, cap, hv', hc, hor⟩ := hv.inv_osl
 have hty : P.underlying t = some (.slice e) := by have := hT.und t; rw [ht] at this; exact this
 have hcN : cap ≤ N := by
  rcases hor with ⟨h1, h2⟩ | ⟨g, n', m, h1, _, h3, h4⟩
  ·omega
  ·obtain ⟨_, g', e2, k1, k2⟩ := hi.hp j _ hcap
   rw [k1] at h1; injection h1 with h1; subst h1
   rw [h3] at k2
   simp only [gL, gM] at k2
   have := Nat.eq_of_mul_eq_mul_right (Nat.pos_of_ne_zero hs0) (h4.trans k2.2)
   omega
 rw [hv'] at hol
 obtain ⟨nc, z, zs, h1, h2, h3, h4⟩ := run_append_zeros (ty := o.type) hT hty hu hs0 hb hol hRt n hn (by omega) hsz
 have hfr : (execOp a.eval o).run P w = .ok (.value (.slice (some ⟨w.heap.size, 0, none⟩) (len + n) nc)) (w.drew.alloc (.cells (olds.toArray ++ zs ++ z) e)) := by
  have e1 : a.eval x = .slice A len cap := hv'
  have e2 : a.eval y = .int .i64 (n : Nat) := hvy'
  simp [execOp, ho, e1, e2, resolve, invoke, builtin, h4, -Array.append_assoc]
 have hi1 := hi.drew
 have hnod : μ d = none := hi.fresh hd
 have hm : ∀ {v x}, Rd μ S w v x → Rd (upd μ d (some w.heap.size)) S (World.alloc w.drew (.cells (olds.toArray ++ zs ++ z) e)) v x := fun h =>
  (h.mono (w' := w.drew) (fun _ _ => rfl) (fun _ h => h) (fun _ _ h => h) (fun _ _ _ => rfl)).mono (fun b hb => alloc_get _ _ b (hi1.sb b hb).1) (fun _ h => h) (fun i' g hg => by
   unfold upd; rw [if_neg (by rintro rfl; rw [hnod] at hg; cases hg)]; exact hg) (fun i' g hg => rowSize_same (alloc_get _ _ g (hi1.dom i' g hg).2.2.2))
 have hzl : rowsOf (T.siz e) (List.replicate n (T.zer e)) := fun row hrow => (h3 μ S w).len row hrow
 have hzr := h3 (upd μ d (some w.heap.size)) S (World.alloc w.drew (.cells (olds.toArray ++ zs ++ z) e))
 have hzn : zs.size = n * T.siz e := by have := hzr.size; rwa [List.length_replicate] at this
 have Yk : ∀ k, k < olds.length + zs.toList.length → (olds.toArray ++ zs ++ z).getD k undef = (olds ++ zs.toList).getD k undef := fun k hk => by
  rw [Array.getD_eq_getD_getElem?, List.getD_eq_getElem?_getD, Array.getElem?_append_left (by simpa using hk)]
  rw [← Array.getElem?_toList]
  simp
 have key := joined_rd (μ := upd μ d (some w.heap.size)) (S := S) (w := World.alloc w.drew (.cells (olds.toArray ++ zs ++ z) e)) (R := R.take len) (rows := List.replicate n (T.zer e)) (cs := olds.toArray ++ zs ++ z) (s := T.siz e) (olds := olds) (vs := zs.toList)
  hol.len hRl hzl (fun i row hi' j x hx => hm (hol.rd i row hi' j x hx)) (fun i row hi' j x hx => by
   have := hzr.rd i row hi' j x hx
   rwa [Array.getD_eq_getD_getElem?, ← Array.getElem?_toList, ← List.getD_eq_getElem?_getD] at this) (by simpa using hzr.size) Yk
 have hsize : (olds.toArray ++ zs ++ z).size = nc * T.siz e := by
  simp only [Array.size_append, List.size_toArray, hol.len, hRt, hzn, h2, ← Nat.add_mul]
  congr 1; omega
 unfold Oper.wp
 rw [hfr]
 show K (a.put o.dst _) _
 refine hK _ _ ⟨_, S, Inv.put (hi1.new d hd _ (.cells e (T.siz e) (R.take len ++ List.replicate n (T.zer e))) (.inr ⟨w.heap.size, _, by simp [upd], alloc_drew_new w _, ?_, fun row hrow => ?_, key⟩)) o.dst (.osl d _ 0 _ nc _ h1 (.inr ⟨w.heap.size, e, nc * T.siz e, by simp [upd], by simp, ?_, by simp⟩))⟩
 ·rw [List.length_append, hRt, List.length_replicate, hsize]
  exact Nat.mul_le_mul_right _ h1
 ·rcases List.mem_append.1 hrow with h | h
  ·exact hRl row h
  ·exact hzl row h
 ·unfold Yr
  rw [alloc_drew_new]
  show some (e, _) = some (e, _)
  rw [hsize]
theorem trip_apart (hT : TabOK P T) {o : Oper} {c x y : Operand} {ats : Array TypeId} (ho : o.op = .call { callee := .value c, args := #[x, y], argTypes := ats }) {f : FuncId} {fn : Func} {tS tR e : TypeId} (hc : evS σ c = (True, .fn f []))
  (hf : P.funcs[f]? = some fn) (hname : (fn.name == "runtime.NumGoroutine") = false) (hbody : fn.body.isNone = true) (hnx : Extern.findNext fn = none) (hfind : Extern.find fn = some (Extern.SlicesOverlaps.overlaps #[tS, tS] #[tR])) (ht : T.und tS = .sl e) (hs : T.siz e ≠ 0)
  {i1 i2 s1 s2 o1 o2 l1 l2 e1 e2 z1 z2 : Nat} {R1 R2 : List (List AV)} (hx : evS σ x = (True, .osl i1 s1 o1 l1)) (hy : evS σ y = (True, .osl i2 s2 o2 l2)) (hne : i1 ≠ i2) (hl1 : 0 < l1) (hl2 : 0 < l2) (hz2 : s2 ≠ 0)
  (hb1 : Yk σ.hp i1 = some (.cells e1 z1 R1)) (_hb2 : Yk σ.hp i2 = some (.cells e2 z2 R2)) : Trip P C o σ (σ.put o.dst (.bool false)) := by
 refine trip_value fun μ S a w hi => ?_
 have hv := hi.evS x (by rw [hx]; trivial)
 have hu := hi.evS y (by rw [hy]; trivial)
 have hg := hi.evS c (by rw [hc]; trivial)
 rw [hx] at hv; rw [hy] at hu; rw [hc] at hg
 obtain ⟨A, ca, ha, hca, hor⟩ := hv.inv_osl
 obtain ⟨B, cb, hb, hcb, hor2⟩ := hu.inv_osl
 obtain ⟨vals, he, hl, _⟩ := hg.inv_fn
 have hv0 : vals = #[] := Array.eq_empty_of_size_eq_zero (by simpa using hl)
 subst hv0
 have hty : P.underlying tS = some (.slice e) := by have := hT.und tS; rw [ht] at this; exact this
 rcases hor with ⟨h, _⟩ | ⟨g1, n1, m1, k1, rfl, k3, k4⟩
 ·omega
 rcases hor2 with ⟨h, _⟩ | ⟨g2, n2, m2, q1, rfl, q3, q4⟩
 ·omega
 have hgne : g1 ≠ g2 := fun h => hne (hi.inj i1 i2 g1 k1 (h ▸ q1))
 have hfro : ∀ off, w.frozen? { block := g1, off } = false := fun off => by
  rcases hi.hp i1 _ hb1 with ⟨_, h⟩ | ⟨g', c', h1, h2, _⟩
  ·rw [k1] at h; cases h
  ·rw [k1] at h1; injection h1 with h1; subst h1
   simp [World.frozen?, h2]
 have hsh : ∀ {g n m}, Yr w g = some (n, m) → w.shape? g = some (n, m) := fun {g n m} h => by
  unfold Yr at h
  unfold World.shape?
  split at h
  ·rename_i h'
   rw [h']; exact h
  ·cases h
 have hm2 : m2 ≠ 0 := by
  rw [← q4]
  exact Nat.mul_ne_zero (by omega) hz2
 have hrun := Lib.run_overlaps_apart (P := P) w tS tR e hty (T.siz e) (fun w => sizeOf_of hT hs) ⟨g1, o1 * s1, none⟩ ⟨g2, o2 * s2, none⟩ l1 ca l2 cb hgne n1 n2 m1 m2 (hsh k3) (hsh q3) hm2 (hfro _) (hfro _)
 have hcall := run_callFunc_extern hf hname hbody hnx hfind #[a.eval x, a.eval y] w
 rw [ha, hb, hrun] at hcall
 refine ⟨.bool false, ?_, .pure (.bool _)⟩
 simp [execOp, ho, resolve, he, Deferred.ofValue, invoke, ha, hb, hcall]
theorem le_shrink (n : Nat) {id e s : Nat} {rows : List (List AV)} (hb : Yk σ.hp id = some (.cells e s rows)) : Le C σ ⟨σ.tm, Zh σ.hp id (.cells e s (rows.take n))⟩ := by
 rintro a w ⟨μ, S, hi⟩
 refine ⟨μ, S, hi.size, hi.defers, hi.tm, fun i b hb' => ?_, fun i q hq => ?_, hi.inj, hi.frm, hi.sb⟩
 ·simp only [Yi] at hb'
  split at hb'
  ·rename_i h1
   injection hb' with hb'
   subst h1 hb'
   rcases hi.hp id _ hb with ⟨rfl, k2⟩ | ⟨g, c, k1, k2, k3, k4, k5⟩
   ·exact .inl ⟨by simp, k2⟩
   ·refine .inr ⟨g, c, k1, k2, Nat.le_trans (Nat.mul_le_mul_right _ (by rw [List.length_take]; omega)) k3, fun row hr => k4 row (List.mem_of_mem_take hr), fun i row hr j x hx => ?_⟩
    rw [List.getElem?_take] at hr
    split at hr
    ·exact k5 i row hr j x hx
    ·cases hr
  ·exact hi.hp i b hb'
 ·obtain ⟨⟨b, h1⟩, h2⟩ := hi.dom i q hq
  refine ⟨?_, h2⟩
  simp only [Yi]
  split
  ·exact ⟨_, rfl⟩
  ·exact ⟨b, h1⟩
def nil1 : AV → AV
 | .nils => .sl []
 | x => x
theorem Rd.nil1 {v : Value} {x : AV} (h : Rd μ S w v x) : Rd μ S w v (nil1 x) := by
 cases x <;> try exact h
 exact h.nrm
theorem FnOK.renum {f : FuncId} {args : List AV} {H : List (Nat × Blk)} {s e n : Nat} {rows rows' : List (List AV)} (k : Nat) (h : FnOK P f args H fun r H' => ∃ j, r = .osl j s 0 n ∧ Yk H' j = some (.cells e s rows))
  (hr : rows.map (fun row => row.map nil1) = rows') (hp : ∀ row, row ∈ rows → ∀ x, x ∈ row → refs x = []) : FnOK P f args H fun r H' => r = .osl k s 0 n ∧ ∀ i b, Yk [(k, .cells e s rows')] i = some b → Yk H' i = some b := by
 subst hr
 intro R0 μ w0 vs hl ha hH hR
 refine (h R0 μ w0 vs hl ha hH hR).mono ?_
 rintro e' w' ⟨v, r, H', μ', S', rfl, ⟨j, rfl, hb⟩, h4, h5, h6, h7, h8⟩
 let ν : Nat → Option Nat := fun i => if i = k then μ' j else none
 have hν : ∀ {i g}, ν i = some g → i = k ∧ μ' j = some g := fun {i g} h => by
  simp only [ν] at h
  split at h
  ·exact ⟨by assumption, h⟩
  ·cases h
 have hνk : ν k = μ' j := by simp [ν]
 refine ⟨v, _, [(k, .cells e s (rows.map (fun row => row.map nil1)))], ν, S', rfl, ⟨rfl, fun i b h => h⟩, ?_, ⟨fun i b h => ?_, fun i g h => ?_, fun i i' g h h' => by rw [(hν h).1, (hν h').1], h5.glob.sub fun i g h => ⟨j, (hν h).2⟩⟩, h6, fun i g h => h7 j g (hν h).2, h8⟩
 ·obtain ⟨A, cap, rfl, hc, hor⟩ := h4.inv_osl
  refine .osl k s 0 n cap A hc ?_
  rcases hor with h | ⟨g, e2, m, k1, k2, k3, k4⟩
  ·exact .inl h
  ·exact .inr ⟨g, e2, m, hνk.trans k1, k2, k3, k4⟩
 ·simp only [Yk] at h
  split at h
  ·rename_i hk
   injection h with h
   subst hk h
   rcases h5.blk j _ hb with ⟨k1, k2⟩ | ⟨g, c, k1, k2, k3, k4, k5⟩
   ·exact .inl ⟨by rw [k1]; rfl, hνk.trans k2⟩
   ·refine .inr ⟨g, c, hνk.trans k1, k2, by rw [List.length_map]; exact k3, fun row hrow => ?_, fun i row hi q x hx => ?_⟩
    ·obtain ⟨r0, h0, rfl⟩ := List.mem_map.1 hrow
     rw [List.length_map]; exact k4 r0 h0
    ·rw [List.getElem?_map] at hi
     cases e0 : rows[i]? with
     | none => rw [e0] at hi; cases hi
     | some r0 =>
      rw [e0] at hi
      simp only [Option.map_some, Option.some.injEq] at hi
      subst hi
      rw [List.getElem?_map] at hx
      cases e1 : r0[q]? with
      | none => rw [e1] at hx; cases hx
      | some y =>
       rw [e1] at hx
       simp only [Option.map_some, Option.some.injEq] at hx
       subst hx
       exact ((k5 i r0 e0 q y e1).free (hp r0 (List.mem_of_getElem? e0) y (List.mem_of_getElem? e1))).nil1
  ·cases h
 ·obtain ⟨h1, h2⟩ := hν h
  subst h1
  exact ⟨⟨.cells e s (rows.map (fun row => row.map nil1)), by simp [Yk]⟩, (h5.dom j g h2).2⟩
end
end Go.Eng
