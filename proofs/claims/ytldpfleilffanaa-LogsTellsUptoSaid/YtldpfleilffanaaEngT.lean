/- The abstract machine, part T: slices held against nil; what may be forgotten, adopted, frozen. No condition. -/
import Derived.Test.YtldpfleilffanaaEngR
import Derived.WalkSpells
namespace Go.Eng
section
variable {P : Program} {T : Tab} {C : Ctx} {σ σ' : St} {Ret : St → Prop} {k : List It}

/-- A SLICE HELD AGAINST nil: whichever it is, an empty one alone can be nil. -/
theorem cw_nileq (hT : TabOK P T) {all : Array Oper} {o : Oper} {l : List Oper} {t : TypeId} {x y : Operand} {ty e : TypeId} {rows : List (List AV)} (ho : o.op = .binOp .eql t x y ty) (hg : o.guard = none) (ht : T.und t = .sl e)
    (hx : evS σ x = (True, .sl rows)) (hy : evS σ y = (True, .nils)) (h : ∀ b, (b = true → rows = []) → Cw P C Ret (.ops all l :: k) (σ.put o.dst (.bool b))) : Cw P C Ret (.ops all (o :: l) :: k) σ := by
  intro a w ⟨μ, S, hi⟩
  have hv := hi.evS x (by rw [hx]; trivial)
  have hu := hi.evS y (by rw [hy]; trivial)
  rw [hx] at hv; rw [hy] at hu
  obtain ⟨A, cap, size, g, off, vals, e1, hc, hs', hA, hcell, hr⟩ := hv.inv_sl.inv_sl
  have e2 := hu.inv_nils
  have hty : P.underlying t = some (.slice e) := by have := hT.und t; rw [ht] at this; exact this
  show wpList P all _ (o :: l) a w
  unfold wpList
  rw [wanted_of hi (show guardOf all σ o.guard = some true from by rw [hg]; rfl)]
  refine .inl ?_
  unfold Oper.wp
  have hrun : (execOp a.eval o).run P w = .ok (.value (.bool A.isNone)) w := by
    simp only [execOp, ho, e1, e2, eqGuard_at_slice, pure_bind, Sem.run_bind, Lib.run_eql_slice_nil w t e A rows.length cap 0 0 hty, Result.andThen_ok]
    rfl
  rw [hrun]
  refine h A.isNone (fun hb => ?_) _ _ ⟨μ, S, hi.put o.dst (.pure (.bool _))⟩
  rcases Nat.eq_zero_or_pos rows.length with h0 | h0
  · exact List.eq_nil_of_length_eq_zero h0
  · rw [(hA h0).1] at hb; cases hb

/-! ### Less is said -/

def wk (x y : AV) : Prop := y = .any ∨ x = y ∨ (x = .nils ∧ (y = .sl [] ∨ ∃ id s off, y = .osl id s off 0))

theorem Rd.wk {μ : Nat → Option Nat} {S : Nat → Prop} {w : World} {v : Value} {x y : AV} (h : Rd μ S w v x) (hw : wk x y) : Rd μ S w v y := by
  rcases hw with rfl | rfl | ⟨rfl, rfl | ⟨id, s, off, rfl⟩⟩
  · exact .any v
  · exact h
  · obtain rfl := h.inv_nils
    exact .pure (.sl none 0 0 [] 0 0 0 (fun _ _ => undef) rfl (Nat.le_refl _) (fun row h => by cases h) (fun h => by omega) (fun i j h => by omega) (fun i row h => by simp at h))
  · obtain rfl := h.inv_nils
    exact .osl id s off 0 0 none (Nat.le_refl _) (.inl ⟨rfl, rfl⟩)

theorem FnOK.wk {f : FuncId} {args : List AV} {H : List (Nat × Blk)} {post : AV → List (Nat × Blk) → Prop} (h : FnOK P f args H fun r H' => ∃ r', wk r r' ∧ post r' H') : FnOK P f args H post :=
  fun R0 μ w0 vs hl ha hH hR => (h R0 μ w0 vs hl ha hH hR).mono fun _ _ ⟨v, _, H', μ', S', h1, ⟨r', h2, h3⟩, h4, h5⟩ => ⟨v, r', H', μ', S', h1, h3, h4.wk h2, h5⟩

/-- A CONTRACT OUT OF A WALK. -/
theorem fn_of_cwW (hT : TabOK P T) {f : FuncId} {fn : Func} {c : Code} {args : List AV} {H : List (Nat × Blk)} {post : AV → List (Nat × Blk) → Prop}
    (hf : P.funcs[f]? = some fn) (hb : fn.body = some c)
    (h : ∀ C : Ctx, Cw P C (fun s => ∃ p r, resAV T s fn.results.toList = some (p, r) ∧ p ∧ ∃ r', Eng.wk r r' ∧ post r' s.hp) [.code c] ⟨args ++ List.replicate (fn.ntmps - args.length) .any, H⟩) : FnOK P f args H post :=
  .wk (fn_of_cw hT hf hb h)

def leWk : List AV → List AV → Prop
  | [], [] => True
  | x :: l, y :: m => wk x y ∧ leWk l m
  | _, _ => False

theorem leWk_get : ∀ {l m : List AV}, leWk l m → l.length = m.length ∧ ∀ (t : Nat) y, m[t]? = some y → ∃ x, l[t]? = some x ∧ wk x y
  | [], [], _ => ⟨rfl, fun t y h => by simp at h⟩
  | x :: l, y :: m, h => by
    obtain ⟨h1, h2⟩ := leWk_get h.2
    refine ⟨by simp [h1], fun t z hz => ?_⟩
    cases t with
    | zero =>
      simp only [List.getElem?_cons_zero, Option.some.injEq] at hz
      subst hz
      exact ⟨x, rfl, h.1⟩
    | succ t => simpa using h2 t z (by simpa using hz)
  | [], _ :: _, h => h.elim
  | _ :: _, [], h => h.elim

def emptyB : Blk → Prop
  | .cells _ _ rows => rows = []
  | .map _ => False
  | .iter .. => False

def subH (H : List (Nat × Blk)) : List (Nat × Blk) → Prop
  | [] => True
  | (i, b) :: r => (hget H i = some b ∨ (hget H i = none ∧ emptyB b)) ∧ subH H r

theorem subH_get {H : List (Nat × Blk)} : ∀ {K : List (Nat × Blk)} {i : Nat} {b : Blk}, subH H K → hget K i = some b → hget H i = some b ∨ (hget H i = none ∧ emptyB b)
  | (j, c) :: r, i, b, h, hb => by
    simp only [hget] at hb
    split at hb
    · rename_i e; subst e; injection hb with hb; subst hb; exact h.1
    · exact subH_get h.2 hb

/-- LESS IS SAID: slots are forgotten, blocks let go, a nil slice is one of a block that is to come. -/
theorem le_sub {l m : List AV} {H K : List (Nat × Blk)} (h : leWk l m) (hK : subH H K) (hc : closed K (refsL m) = true) : Le C ⟨l, H⟩ ⟨m, K⟩ := by
  intro a w ⟨μ, S, hi⟩
  obtain ⟨h1, h2⟩ := leWk_get h
  simp only [closed, Bool.and_eq_true] at hc
  have hr : ∀ i, i ∈ refsL m → (hget K i).isSome = true := fun i hi => List.all_eq_true.1 hc.1 i hi
  have hcl : ∀ i b, hget K i = some b → ∀ j, j ∈ refsB b → (hget K j).isSome = true := fun i b hb j hj => List.all_eq_true.1 (List.all_eq_true.1 hc.2 _ (hget_mem hb)) j hj
  let μ2 : Nat → Option Nat := fun i => if (hget K i).isSome = true then μ i else none
  have m2 : ∀ {i g}, μ2 i = some g → μ i = some g ∧ (hget K i).isSome = true := fun {i g} hg => by
    simp only [μ2] at hg; split at hg
    · exact ⟨hg, by assumption⟩
    · cases hg
  refine ⟨μ2, S, by rw [hi.size]; exact h1, hi.defers, fun t y hy => ?_, fun i b hb => ?_, fun i g hg => ?_, fun i j g hg hg' => hi.inj i j g (m2 hg).1 (m2 hg').1, hi.frm, hi.sb⟩
  · obtain ⟨x, hx, hw⟩ := h2 t y hy
    refine ((hi.tm t x hx).wk hw).less fun i hi' g hg => ?_
    simp only [μ2]; rw [if_pos (hr i (refsL_mem hy hi'))]; exact hg
  · rcases subH_get hK hb with h | ⟨h, he⟩
    · refine (hi.hp i b h).less (by simp only [μ2]; rw [hb]; rfl) fun j hj g hg => ?_
      simp only [μ2]; rw [if_pos (hcl i b hb j hj)]; exact hg
    · cases b with
      | cells e s rows =>
        refine .inl ⟨he, ?_⟩
        simp only [μ2]; rw [hb]
        cases e : μ i with
        | none => rfl
        | some g =>
          obtain ⟨⟨c, h'⟩, _⟩ := hi.dom i g e
          simp only at h'
          rw [h] at h'; cases h'
      | map kvs => exact he.elim
      | iter kvs seen => exact he.elim
  · obtain ⟨k1, k2⟩ := m2 hg
    obtain ⟨_, k3⟩ := hi.dom i g k1
    exact ⟨Option.isSome_iff_exists.1 k2, k3⟩

/-! ### What is held is written no more -/

mutual
def frz (id s : Nat) (rows : List (List AV)) : AV → AV
  | .osl i s' off len => if i = id then (if s' = s ∧ off + len ≤ rows.length then .sl ((rows.drop off).take len) else .any) else .osl i s' off len
  | .ptr i s' row off => if i = id then (if s' = s ∧ row < rows.length then .rp (rows.getD row []) off else .any) else .ptr i s' row off
  | .mp i => if i = id then .any else .mp i
  | .agg cells => .agg (frzL id s rows cells)
  | .tup vs => .tup (frzL id s rows vs)
  | .fn f caps => .fn f (frzL id s rows caps)
  | .cnd c v => .cnd c (frz id s rows v)
  | x => x
def frzL (id s : Nat) (rows : List (List AV)) : List AV → List AV
  | [] => []
  | x :: r => frz id s rows x :: frzL id s rows r
end

theorem frzL_map (id s : Nat) (rows : List (List AV)) : ∀ l, frzL id s rows l = l.map (frz id s rows)
  | [] => rfl
  | x :: r => by simp [frzL, frzL_map id s rows r]

def frzH (id s : Nat) (rows : List (List AV)) : List (Nat × Blk) → List (Nat × Blk)
  | [] => []
  | (i, .cells e z R) :: r => if i = id then frzH id s rows r else (i, .cells e z (R.map (frzL id s rows))) :: frzH id s rows r
  | (i, .map kvs) :: r => if i = id then frzH id s rows r else (i, .map kvs) :: frzH id s rows r
  | (i, .iter kvs seen) :: r => if i = id then frzH id s rows r else (i, .iter kvs seen) :: frzH id s rows r

def frzB (id s : Nat) (rows : List (List AV)) : Blk → Blk
  | .cells e z R => .cells e z (R.map (frzL id s rows))
  | .map kvs => .map kvs
  | .iter kvs seen => .iter kvs seen

theorem hget_frzH (id s : Nat) (rows : List (List AV)) (i : Nat) : ∀ H, hget (frzH id s rows H) i = if i = id then none else (hget H i).map (frzB id s rows)
  | [] => by simp [frzH, hget]
  | (j, .cells e z R) :: r => by
    have ih := hget_frzH id s rows i r
    unfold frzH
    by_cases h : j = id
    · subst h
      rw [if_pos rfl, ih]
      by_cases h2 : i = j
      · rw [if_pos h2, if_pos h2]
      · rw [if_neg h2, if_neg h2]; simp only [hget]; rw [if_neg (fun h => h2 h.symm)]
    · rw [if_neg h]
      simp only [hget]
      by_cases h2 : j = i
      · subst h2; rw [if_pos rfl, if_neg h, if_pos rfl]; rfl
      · rw [if_neg h2, if_neg h2]; exact ih
  | (j, .map kvs) :: r => by
    have ih := hget_frzH id s rows i r
    unfold frzH
    by_cases h : j = id
    · subst h
      rw [if_pos rfl, ih]
      by_cases h2 : i = j
      · rw [if_pos h2, if_pos h2]
      · rw [if_neg h2, if_neg h2]; simp only [hget]; rw [if_neg (fun h => h2 h.symm)]
    · rw [if_neg h]
      simp only [hget]
      by_cases h2 : j = i
      · subst h2; rw [if_pos rfl, if_neg h, if_pos rfl]; rfl
      · rw [if_neg h2, if_neg h2]; exact ih
  | (j, .iter kvs seen) :: r => by
    have ih := hget_frzH id s rows i r
    unfold frzH
    by_cases h : j = id
    · subst h
      rw [if_pos rfl, ih]
      by_cases h2 : i = j
      · rw [if_pos h2, if_pos h2]
      · rw [if_neg h2, if_neg h2]; simp only [hget]; rw [if_neg (fun h => h2 h.symm)]
    · rw [if_neg h]
      simp only [hget]
      by_cases h2 : j = i
      · subst h2; rw [if_pos rfl, if_neg h, if_pos rfl]; rfl
      · rw [if_neg h2, if_neg h2]; exact ih

theorem RdP.frz_eq {S : Nat → Prop} {w : World} {v : Value} {x : AV} (h : RdP S w v x) (id s : Nat) (rows : List (List AV)) : frz id s rows x = x := by
  have key : ∀ (l : List AV), (∀ (j : Nat) x, l[j]? = some x → frz id s rows x = x) → frzL id s rows l = l := by
    intro l
    induction l with
    | nil => intro _; rfl
    | cons y r ih =>
      intro h
      simp only [frzL]
      rw [h 0 y rfl, ih (fun j x hj => h (j + 1) x (by simpa using hj))]
  induction h with
  | fn f vals caps hl hr ih => simp only [frz]; rw [key caps ih]
  | agg cs cells hl hr ih => simp only [frz]; rw [key cells ih]
  | _ => rfl

theorem frz_list {id s : Nat} {rows : List (List AV)} {R' : Value → AV → Prop} {vals : Nat → Value} {cells : List AV} (h : ∀ j x, cells[j]? = some x → R' (vals j) (frz id s rows x)) :
    ∀ j x, (frzL id s rows cells)[j]? = some x → R' (vals j) x := by
  intro j x hx
  rw [frzL_map, List.getElem?_map] at hx
  cases e : cells[j]? with
  | none => rw [e] at hx; cases hx
  | some y =>
    rw [e] at hx; simp only [Option.map_some, Option.some.injEq] at hx; subst hx
    exact h j y e

/-- WHAT IS HELD UNDER A NUMBER IS WRITTEN NO MORE. -/
theorem le_freeze {l : List AV} {H : List (Nat × Blk)} {id e s : Nat} {rows : List (List AV)} (hb : hget H id = some (.cells e s rows)) (hp : (rows.all fun row => row.all AV.pureB) = true) :
    Le C ⟨l, H⟩ ⟨l.map (frz id s rows), frzH id s rows H⟩ := by
  intro a w ⟨μ, S, hi⟩
  have hB := hi.hp id _ hb
  have hpure : ∀ (i : Nat) row, rows[i]? = some row → ∀ (j : Nat) x, row[j]? = some x → x.pureB = true := fun i row hi j x hj => List.all_eq_true.1 (List.all_eq_true.1 hp row (List.mem_of_getElem? hi)) x (List.mem_of_getElem? hj)
  let S2 : Nat → Prop := fun b => S b ∨ μ id = some b
  let μ2 : Nat → Option Nat := upd μ id none
  have hS : ∀ b, S b → S2 b := fun b h => .inl h
  have rd : ∀ {v : Value} {x : AV}, Rd μ S w v x → Rd μ2 S2 w v (frz id s rows x) := by
    intro v x h
    induction h with
    | any v => exact .any v
    | pure h => rw [h.frz_eq]; exact .pure (h.mono (SameOn.refl _ _) hS)
    | agg cs cells hl hr ih => simp only [frz]; exact .agg cs _ (by rw [frzL_map, List.length_map]; exact hl) (frz_list (R' := fun v x => Rd μ2 S2 w v x) (vals := fun j => cs.getD j undef) ih)
    | tup cs cells hl hr ih => simp only [frz]; exact .tup cs _ (by rw [frzL_map, List.length_map]; exact hl) (frz_list (R' := fun v x => Rd μ2 S2 w v x) (vals := fun j => cs.getD j undef) ih)
    | fn f vals cells hl hr ih => simp only [frz]; exact .fn f vals _ (by rw [frzL_map, List.length_map]; exact hl) (frz_list (R' := fun v x => Rd μ2 S2 w v x) (vals := fun j => vals.getD j undef) ih)
    | ptr i size row o g hg =>
      simp only [frz]
      split
      · rename_i he
        subst he
        split
        · rename_i hc
          obtain ⟨rfl, hrow⟩ := hc
          rcases hB with ⟨rfl, _⟩ | ⟨g', c, k1, k2, k3, k4, k5⟩
          · simp at hrow
          · rw [hg] at k1; injection k1 with k1; subst k1
            have hr := row_get hrow
            have hlen := k4 _ (List.mem_of_getElem? hr)
            have hlt := row_lt (size := size) hr
            refine .pure (.rp g (row * size) o _ (fun j => c.getD (row * size + j) undef) (.inr hg) (fun j hj => ?_) (fun j x hx => ?_))
            · rw [cell_of k2, Array.getD_eq_getD_getElem?, Array.getElem?_eq_getElem (by omega)]; rfl
            · exact ((k5 _ _ hr j x hx).toP (hpure _ _ hr _ _ hx)).mono (SameOn.refl _ _) hS
        · exact .any _
      · rename_i he
        exact .ptr i size row o g (by simp only [μ2, upd]; rw [if_neg he]; exact hg)
    | osl i size o len cap A hc h =>
      simp only [frz]
      split
      · rename_i he
        subst he
        split
        · rename_i hcond
          obtain ⟨rfl, hle⟩ := hcond
          have hl : ((rows.drop o).take len).length = len := by simp; omega
          rcases h with ⟨rfl, h2⟩ | ⟨g, e', n, h1, rfl, h3, h4⟩
          · exact .pure (.sl A 0 cap _ size 0 0 (fun _ _ => undef) hl hc (fun row h => by simp at h) (fun h => by omega) (fun i j h => by omega) (fun i row h => by simp at h))
          · rcases hB with ⟨_, k2⟩ | ⟨g', c, k1, k2, k3, k4, k5⟩
            · rw [k2] at h1; cases h1
            · rw [k1] at h1; injection h1 with h1; subst h1
              refine .pure (.sl _ len cap _ size g' (o * size) (fun i j => c.getD ((o + i) * size + j) undef) hl hc (fun row h => k4 row (List.mem_of_mem_drop (List.mem_of_mem_take h))) (fun _ => ⟨rfl, .inr k1⟩) (fun i' j hi' hj => ?_) (fun i' row h j x hx => ?_))
              · have hlt : (o + i') * size + size ≤ rows.length * size := by
                  have := Nat.mul_le_mul_right size (show o + i' + 1 ≤ rows.length by omega)
                  rwa [Nat.succ_mul] at this
                rw [show o * size + (i' * size + j) = (o + i') * size + j from by rw [Nat.add_mul]; omega, cell_of k2, Array.getD_eq_getD_getElem?, Array.getElem?_eq_getElem (by omega)]
                rfl
              · rw [List.getElem?_take] at h
                split at h
                · rw [List.getElem?_drop] at h
                  exact ((k5 _ row h j x hx).toP (hpure _ _ h _ _ hx)).mono (SameOn.refl _ _) hS
                · cases h
        · exact .any _
      · rename_i he
        refine .osl i size o len cap A hc ?_
        rcases h with h | ⟨g, e', n, h1, h2, h3, h4⟩
        · exact .inl h
        · exact .inr ⟨g, e', n, by simp only [μ2, upd]; rw [if_neg he]; exact h1, h2, h3, h4⟩
    | mp i g hg =>
      simp only [frz]
      split
      · exact .any _
      · rename_i he
        exact .mp i g (by simp only [μ2, upd]; rw [if_neg he]; exact hg)
    | cndT v x h ih => exact .cndT v _ ih
    | cndF x => exact .cndF _
  have m2 : ∀ {i g}, μ2 i = some g → i ≠ id ∧ μ i = some g := fun {i g} hg => by
    simp only [μ2, upd] at hg
    split at hg
    · cases hg
    · exact ⟨by assumption, hg⟩
  refine ⟨μ2, S2, by simp [hi.size], hi.defers, fun t x hx => ?_, fun i b hb' => ?_, fun i g hg => ?_, fun i j g h1 h2 => hi.inj i j g (m2 h1).2 (m2 h2).2, hi.frm, fun b hb' => ?_⟩
  · simp only [List.getElem?_map] at hx
    cases e : l[t]? with
    | none => rw [e] at hx; cases hx
    | some y =>
      rw [e] at hx
      simp only [Option.map_some, Option.some.injEq] at hx
      subst hx
      exact rd (hi.tm t y e)
  · simp only at hb'
    rw [hget_frzH] at hb'
    split at hb'
    · cases hb'
    · rename_i he
      cases e1 : hget H i with
      | none => rw [e1] at hb'; cases hb'
      | some b0 =>
        rw [e1] at hb'
        simp only [Option.map_some, Option.some.injEq] at hb'
        subst hb'
        have hμ : μ2 i = μ i := by simp only [μ2, upd]; rw [if_neg he]
        have := hi.hp i b0 e1
        cases b0 with
        | cells e' z R =>
          rcases this with ⟨rfl, h2⟩ | ⟨g, c, h1, h2, h3, h4, h5⟩
          · exact .inl ⟨rfl, hμ.trans h2⟩
          · refine .inr ⟨g, c, hμ.trans h1, h2, by simpa using h3, fun row hrow => ?_, fun i' row hi' j x hx => ?_⟩
            · obtain ⟨r, hr, rfl⟩ := List.mem_map.1 hrow
              rw [frzL_map, List.length_map]; exact h4 r hr
            · rw [List.getElem?_map] at hi'
              cases e2 : R[i']? with
              | none => rw [e2] at hi'; cases hi'
              | some r =>
                rw [e2] at hi'; simp only [Option.map_some, Option.some.injEq] at hi'; subst hi'
                exact frz_list (R' := fun v x => Rd μ2 S2 w v x) (vals := fun j => c.getD (i' * z + j) undef) (fun j x hx => rd (h5 i' r e2 j x hx)) j x hx
        | map kvs =>
          obtain ⟨g, es, clk, vals, h1, h2, h3, h4⟩ := this
          exact ⟨g, es, clk, vals, hμ.trans h1, h2, h3, fun p hp' => (h4 p hp').mono (SameOn.refl _ _) hS⟩
        | iter kvs seen =>
          obtain ⟨g, es, clk, vals, had, h1, h2, h4⟩ := this
          obtain ⟨m, k1, k2, k3⟩ := h2.lies
          exact ⟨g, es, clk, vals, had, hμ.trans h1, ⟨⟨m, k1, hS _ k2, k3⟩, h2.map, h2.had⟩, fun p hp' => (h4 p hp').mono (SameOn.refl _ _) hS⟩
  · obtain ⟨k1, k2⟩ := m2 hg
    obtain ⟨⟨b, h1⟩, h2, h3, h4⟩ := hi.dom i g k2
    refine ⟨⟨frzB id s rows b, ?_⟩, h2, ?_, h4⟩
    · simp only at h1 ⊢
      rw [hget_frzH, if_neg k1, h1]; rfl
    · rintro (h | h)
      · exact h3 h
      · exact k1 (hi.inj _ _ _ k2 h)
  · rcases hb' with h | h
    · exact hi.sb b h
    · obtain ⟨_, h2, _, h4⟩ := hi.dom id b h
      exact ⟨h4, .inr h2⟩

theorem cw_freeze {l : List AV} {H : List (Nat × Blk)} (id : Nat) {e s : Nat} {rows : List (List AV)} (hb : hget H id = some (.cells e s rows)) (hp : (rows.all fun row => row.all AV.pureB) = true)
    (h : Cw P C Ret k ⟨l.map (frz id s rows), frzH id s rows H⟩) : Cw P C Ret k ⟨l, H⟩ := cw_le (le_freeze hb hp) h
end
end Go.Eng
