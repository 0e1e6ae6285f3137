/- The abstract machine, part K: code, loops, what a function hands back, contracts. No condition. -/
import Derived.Test.YtldpfleilffanaaEngJ
import Derived.Tactics
namespace Go.Eng
section
variable {P : Program} {T : Tab} {C : Ctx} {σ σ' : St}

/-- What is still to do. -/
inductive It where
  | code (c : Code)
  | ops (all : Array Oper) (l : List Oper)
  | blk (id : Nat)
  | back (J : St → Prop)

def aft (R : Act → World → Prop) (s : (Act → World → Prop) × (Nat → Act → World → Prop)) : Exit → Act → World → Prop
  | .normal, a, w => s.1 a w
  | .ret, a, w => R a w
  | .exit id, a, w => s.2 id a w
  | _, _, _ => False

def sem (P : Program) (C : Ctx) (R : Act → World → Prop) : List It → (Act → World → Prop) × (Nat → Act → World → Prop)
  | [] => (R, fun _ _ _ => False)
  | .code c :: k => (fun a w => c.wp P (aft R (sem P C R k)) a w, (sem P C R k).2)
  | .ops all l :: k => (fun a w => wpList P all (aft R (sem P C R k)) l a w, (sem P C R k).2)
  | .blk id :: k => ((sem P C R k).1, fun i => if id = i then (sem P C R k).1 else (sem P C R k).2 i)
  | .back J :: k => (fun a w => ∃ σ', J σ' ∧ Rel C σ' a w, (sem P C R k).2)

/-- what a function's end asks -/
def RetOf (C : Ctx) (Ret : St → Prop) : Act → World → Prop := fun a w => ∃ σ', Ret σ' ∧ Rel C σ' a w

/-- From every state that reads as 'σ' what is to do leads to an end of which 'Ret' holds. -/
def Cw (P : Program) (C : Ctx) (Ret : St → Prop) (k : List It) (σ : St) : Prop := ∀ a w, Rel C σ a w → (sem P C (RetOf C Ret) k).1 a w

def Le (C : Ctx) (σ σ' : St) : Prop := ∀ a w, Rel C σ a w → Rel C σ' a w

variable {Ret : St → Prop} {k : List It}

theorem cw_le (hl : Le C σ σ') (h : Cw P C Ret k σ') : Cw P C Ret k σ := fun a w hr => h a w (hl a w hr)
theorem cw_nil (h : Ret σ) : Cw P C Ret [] σ := fun _ _ hr => ⟨σ, h, hr⟩
theorem cw_blk {id : Nat} (h : Cw P C Ret k σ) : Cw P C Ret (.blk id :: k) σ := h
theorem cw_back {J : St → Prop} (h : J σ) : Cw P C Ret (.back J :: k) σ := fun _ _ hr => ⟨σ, h, hr⟩
theorem cw_skip (h : Cw P C Ret k σ) : Cw P C Ret (.code .skip :: k) σ := fun a w hr => wp_skip (h a w hr)
theorem cw_ret (h : Ret σ) : Cw P C Ret (.code .ret :: k) σ := fun _ _ hr => wp_ret ⟨σ, h, hr⟩
theorem cw_seq {x y : Code} (h : Cw P C Ret (.code x :: .code y :: k) σ) : Cw P C Ret (.code (.seq x y) :: k) σ := fun a w hr =>
  wp_seq (wp_mono (h a w hr) fun e a w q => by cases e <;> first | exact q | exact q.elim)
theorem cw_region {id : Nat} {ops : Array Oper} (h : Cw P C Ret (.ops ops ops.toList :: k) σ) : Cw P C Ret (.code (.region id ops false) :: k) σ := fun a w hr =>
  wp_region_list (h a w hr)
theorem cw_cond {c : Operand} {x y : Code} {b : Bool} {p : Prop} (hc : evS σ c = (p, .bool b)) (hp : p) (ht : b = true → Cw P C Ret (.code x :: k) σ) (hf : b = false → Cw P C Ret (.code y :: k) σ) :
    Cw P C Ret (.code (.cond c x y) :: k) σ := fun a w hr => by
  obtain ⟨μ, S, hi⟩ := hr
  have hv := hi.evS c (by rw [hc]; exact hp)
  rw [hc] at hv
  exact wp_cond_split hv.inv_bool (fun h => ht h a w ⟨μ, S, hi⟩) (fun h => hf h a w ⟨μ, S, hi⟩)
theorem cw_block {id : Nat} {c : Code} (h : Cw P C Ret (.code c :: .blk id :: k) σ) : Cw P C Ret (.code (.block id c) :: k) σ := fun a w hr =>
  wp_block (wp_mono (h a w hr) fun e a w q => by
    cases e with
    | exit i =>
      simp only [aft, sem] at q
      simp only [Exit.inBlock]
      by_cases e : id = i
      · rw [if_pos e] at q; rw [if_pos e.symm]; exact q
      · rw [if_neg e] at q; rw [if_neg (fun h => e h.symm)]; exact q
    | _ => first | exact q | exact q.elim)

def exitTo : Nat → List It → Option (List It)
  | id, .blk i :: k => if i = id then some k else exitTo id k
  | id, _ :: k => exitTo id k
  | _, [] => none

theorem sem_exit {R : Act → World → Prop} {id : Nat} : ∀ {k k' : List It}, exitTo id k = some k' → (sem P C R k).2 id = (sem P C R k').1
  | [], _, h => by cases h
  | .blk i :: k, k', h => by
    simp only [exitTo] at h
    simp only [sem]
    split at h
    · rename_i e; injection h with h; subst h; rw [if_pos e]
    · rename_i e; rw [if_neg e]; exact sem_exit h
  | .code c :: k, k', h => by simp only [sem]; exact sem_exit (k := k) (by simpa [exitTo] using h)
  | .ops a l :: k, k', h => by simp only [sem]; exact sem_exit (k := k) (by simpa [exitTo] using h)
  | .back J :: k, k', h => by simp only [sem]; exact sem_exit (k := k) (by simpa [exitTo] using h)

theorem cw_exit {id : Nat} {k' : List It} (he : exitTo id k = some k') (h : Cw P C Ret k' σ) : Cw P C Ret (.code (.exit id) :: k) σ := fun a w hr =>
  wp_exit (by show (sem P C _ k).2 id a w; rw [sem_exit he]; exact h a w hr)

theorem cw_ops_nil {all : Array Oper} (h : Cw P C Ret k σ) : Cw P C Ret (.ops all [] :: k) σ := fun a w hr => h a w hr

theorem cw_run (hT : TabOK P T) {all : Array Oper} {l l' : List Oper} {p : Prop} (h : runL T all l σ = some (p, l', σ')) (hp : p) (hk : Cw P C Ret (.ops all l' :: k) σ') : Cw P C Ret (.ops all l :: k) σ :=
  runL_sound hT all l σ h hp hk
/-- one operation of a list, by what it does -/
theorem cw_step {all : Array Oper} {o : Oper} {l : List Oper} (hg : guardOf all σ o.guard = some true) (ht : Trip P C o σ σ') (hk : Cw P C Ret (.ops all l :: k) σ') : Cw P C Ret (.ops all (o :: l) :: k) σ :=
  wpL_step hg ht hk

/-! ### Loops -/
open Classical in
theorem least {p : Nat → Prop} (h : ∃ n, p n) : ∃ n, p n ∧ ∀ m, m < n → ¬ p m := by
  obtain ⟨n, hn⟩ := h
  induction n using Nat.strongRecOn with
  | _ n ih =>
    by_cases h' : ∃ m, m < n ∧ p m
    · obtain ⟨m, h1, h2⟩ := h'
      exact ih m h1 h2
    · exact ⟨n, hn, fun m hm hp => h' ⟨m, hm, hp⟩⟩

/-- A LOOP: at each round's head the state reads as one of 'I'; each round ends in one of a smaller measure. -/
theorem cw_loop {ι : Type} (I : ι → St) (m : ι → Nat) (i0 : ι) {c : Code} (h0 : Le C σ (I i0))
    (round : ∀ i, Cw P C Ret (.code c :: .back (fun s => ∃ j, m j < m i ∧ Le C s (I j)) :: k) (I i)) : Cw P C Ret (.code (.loop c) :: k) σ := by
  classical
  intro a w hr
  let At (a : Act) (w : World) (n : Nat) : Prop := ∃ i, m i = n ∧ Rel C (I i) a w
  let M (a : Act) (w : World) : Nat := if h : ∃ n, At a w n then Classical.choose (least h) else 0
  have hM : ∀ a w, (∃ n, At a w n) → At a w (M a w) ∧ ∀ n, At a w n → M a w ≤ n := fun a w h => by
    have e : M a w = Classical.choose (least h) := dif_pos h
    obtain ⟨h1, h2⟩ := Classical.choose_spec (least h)
    rw [e]
    refine ⟨h1, fun n hn => ?_⟩
    rcases Nat.lt_or_ge n (Classical.choose (least h)) with h3 | h3
    · exact absurd hn (h2 n h3)
    · exact h3
  refine wp_loop (fun a w => ∃ i, Rel C (I i) a w) M ⟨i0, h0 a w hr⟩ fun a' w' ⟨i', hi'⟩ => ?_
  obtain ⟨⟨i, hi, hri⟩, _⟩ := hM a' w' ⟨m i', i', rfl, hi'⟩
  have := round i a' w' hri
  refine wp_mono this fun e a2 w2 q => ?_
  cases e with
  | normal =>
    obtain ⟨s, ⟨j, hj, hle⟩, hrs⟩ := q
    have hrj := hle a2 w2 hrs
    refine ⟨⟨j, hrj⟩, ?_⟩
    have := (hM a2 w2 ⟨m j, j, rfl, hrj⟩).2 (m j) ⟨j, rfl, hrj⟩
    omega
  | _ => first | exact q | exact q.elim

/-! ### What a function hands back -/

def resOne (T : Tab) (σ : St) : ResultVar → Option (Prop × AV)
  | .tmp t => some (True, σ.tm.getD t .any)
  | .cell a t => loadOp T σ t (σ.tm.getD a .any)

def resFun (a : Act) : ResultVar → Sem Value
  | .tmp t => pure (a.tmps.getD t undef)
  | .cell x t => do loadVar t (← asAddr (a.tmps.getD x undef))

theorem results_eq (fn : Func) (a : Act) : results fn a.tmps = (do
    let vs ← fn.results.mapM (resFun a)
    pure (if h : vs.size = 1 then vs[0] else .tuple vs)) := rfl

def resL (T : Tab) (σ : St) : List ResultVar → Option (Prop × List AV)
  | [] => some (True, [])
  | r :: rs =>
    match resOne T σ r, resL T σ rs with
    | some (p, x), some (q, l) => some (p ∧ q, x :: l)
    | _, _ => none

def one : List AV → AV
  | [x] => x
  | l => .tup l

def resAV (T : Tab) (σ : St) (rs : List ResultVar) : Option (Prop × AV) := (resL T σ rs).map fun r => (r.1, one r.2)

section
variable {μ : Nat → Option Nat} {S : Nat → Prop} {a : Act} {w : World}

theorem resL_sound (hT : TabOK P T) (hi : Inv C μ S σ a w) : ∀ (rs : List ResultVar) {p : Prop} {l : List AV}, resL T σ rs = some (p, l) → p →
    ∃ vs : List Value, (rs.mapM (resFun a)).run P w = .ok vs w ∧
      vs.length = l.length ∧ ∀ (j : Nat) x, l[j]? = some x → Rd μ S w (vs.getD j undef) x
  | [], p, l, h, _ => by
    simp only [resL, Option.some.injEq, Prod.mk.injEq] at h
    obtain ⟨_, rfl⟩ := h
    exact ⟨[], by simp, rfl, fun j x hx => by simp at hx⟩
  | r :: rs, p, l, h, hp => by
    unfold resL at h
    split at h
    · rename_i p1 x q l' h1 h2
      simp only [Option.some.injEq, Prod.mk.injEq] at h
      obtain ⟨rfl, rfl⟩ := h
      obtain ⟨vs, k1, k2, k3⟩ := resL_sound hT hi rs h2 hp.2
      have key : ∃ u, (resFun a r).run P w = .ok u w ∧ Rd μ S w u x := by
        cases r with
        | tmp t =>
          simp only [resOne, Option.some.injEq, Prod.mk.injEq] at h1
          obtain ⟨_, rfl⟩ := h1
          exact ⟨_, rfl, hi.ev (.tmp t)⟩
        | cell b t =>
          simp only [resOne] at h1
          obtain ⟨u, j1, j2⟩ := sound_load hT hi h1 hp.1 (hi.ev (.tmp b))
          refine ⟨u, ?_, j2⟩
          have hv := hi.ev (.tmp b)
          simp only [Act.eval] at hv j1
          simp only [resFun, Instr.loadAt, Sem.run_bind] at j1 ⊢
          revert j1
          cases a.tmps.getD b undef <;> simp [Instr.sureAddr, asAddr]
          rename_i A
          cases A <;> simp
      obtain ⟨u, j1, j2⟩ := key
      refine ⟨u :: vs, ?_, by simp [k2], fun j y hy => ?_⟩
      · rw [List.mapM_cons]
        simp only [Sem.run_bind, j1, Result.andThen_ok, k1, Sem.run_pure]
      · cases j with
        | zero => simp only [List.getElem?_cons_zero, Option.some.injEq] at hy; subst hy; exact j2
        | succ j => simpa using k3 j y (by simpa using hy)
    · cases h

theorem res_sound (hT : TabOK P T) (hi : Inv C μ S σ a w) {fn : Func} {p : Prop} {r : AV} (h : resAV T σ fn.results.toList = some (p, r)) (hp : p) :
    ∃ v, (results fn a.tmps).run P w = .ok v w ∧ Rd μ S w v r := by
  unfold resAV at h
  cases e : resL T σ fn.results.toList with
  | none => rw [e] at h; cases h
  | some q =>
    obtain ⟨q1, l⟩ := q
    simp only [e, Option.map_some, Option.some.injEq, Prod.mk.injEq] at h
    obtain ⟨rfl, rfl⟩ := h
    obtain ⟨vs, h1, h2, h3⟩ := resL_sound hT hi _ e hp
    refine ⟨if h : vs.toArray.size = 1 then vs.toArray[0] else .tuple vs.toArray, ?_, ?_⟩
    · rw [results_eq]
      rw [Array.mapM_eq_mapM_toList]
      simp only [Sem.run_bind, Sem.run_map, h1, Result.andThen_ok, Sem.run_pure]
    · match l, h2, h3 with
      | [], h2, h3 =>
        have : vs = [] := List.eq_nil_of_length_eq_zero h2
        subst this
        exact .tup #[] [] rfl (fun j x hx => by simp at hx)
      | [x], h2, h3 =>
        match vs, h2 with
        | [v], _ => simpa [one] using h3 0 x rfl
      | x :: y :: l, h2, h3 =>
        rw [dif_neg (by simp at h2 ⊢; omega)]
        exact .tup _ _ (by simpa using h2) (fun j z hz => by
          have := h3 j z hz
          rwa [Array.getD_eq_getD_getElem?, List.getElem?_toArray, ← List.getD_eq_getElem?_getD])
end

/-! ### Contracts -/

/-- what is held, and where -/
structure HpOK (μ : Nat → Option Nat) (S : Nat → Prop) (w : World) (H : List (Nat × Blk)) : Prop where
  blk : ∀ id b, hget H id = some b → BlkOK μ S w id b
  dom : ∀ id g, μ id = some g → (∃ b, hget H id = some b) ∧ ¬ S g ∧ g < w.heap.size
  inj : ∀ id id' g, μ id = some g → μ id' = some g → id = id'

/-- THE CONTRACT OF A FUNCTION: called with what reads as 'args', holding 'H', it hands back what reads so that 'post' holds of it, and of what is held then. -/
def FnOK (P : Program) (f : FuncId) (args : List AV) (H : List (Nat × Blk)) (post : AV → List (Nat × Blk) → Prop) : Prop :=
  ∀ (R0 : Nat → Prop) (μ : Nat → Option Nat) (w0 : World) (vs : List Value), vs.length = args.length → (∀ (j : Nat) x, args[j]? = some x → Rd μ R0 w0 (vs.getD j undef) x) →
    HpOK μ R0 w0 H → (∀ b, R0 b → b < w0.heap.size) →
    Calls P f vs.toArray w0 fun e w' => ∃ v r H' μ' S', e = .returned v ∧ post r H' ∧ Rd μ' S' w' v r ∧ HpOK μ' S' w' H' ∧ Frm (fun g => ∃ id, μ id = some g) w0 w' ∧
      (∀ id g, μ' id = some g → (∃ id', μ id' = some g) ∨ w0.heap.size ≤ g) ∧ (∀ b, S' b → b < w'.heap.size ∧ (R0 b ∨ (∃ id, μ id = some b) ∨ w0.heap.size ≤ b))

/-- A CONTRACT OUT OF A WALK. -/
theorem fn_of_cw (hT : TabOK P T) {f : FuncId} {fn : Func} {c : Code} {args : List AV} {H : List (Nat × Blk)} {post : AV → List (Nat × Blk) → Prop}
    (hf : P.funcs[f]? = some fn) (hb : fn.body = some c)
    (h : ∀ C : Ctx, Cw P C (fun s => ∃ p r, resAV T s fn.results.toList = some (p, r) ∧ p ∧ post r s.hp) [.code c] ⟨args ++ List.replicate (fn.ntmps - args.length) .any, H⟩) : FnOK P f args H post := by
  intro R0 μ w0 vs hl hargs hH hR
  let C : Ctx := ⟨w0, fun g => ∃ id, μ id = some g, R0⟩
  refine calls_of_wp hf hb ?_
  have hrel : Rel C ⟨args ++ List.replicate (fn.ntmps - args.length) .any, H⟩ { tmps := vs.toArray ++ Array.replicate (fn.ntmps - vs.toArray.size) undef, defers := [] } w0 := by
    refine ⟨μ, R0, by simp [hl], rfl, fun t x hx => ?_, hH.blk, fun id g hg => ⟨(hH.dom id g hg).1, .inl ⟨id, hg⟩, (hH.dom id g hg).2⟩, hH.inj, Frm.refl _ _, fun b hb => ⟨hR b hb, .inl hb⟩⟩
    by_cases ht : t < args.length
    · rw [List.getElem?_append_left ht] at hx
      have := hargs t x hx
      rw [List.getD_eq_getElem?_getD] at this
      rw [Array.getD_eq_getD_getElem?, Array.getElem?_append_left (by simpa [hl] using ht)]
      simpa using this
    · rw [List.getElem?_append_right (by omega), List.getElem?_replicate] at hx
      split at hx
      · injection hx with hx; subst hx; exact .any _
      · cases hx
  have hw := h C _ _ hrel
  refine wp_mono hw fun ex a w q => ?_
  have key : RetOf C (fun s => ∃ p r, resAV T s fn.results.toList = some (p, r) ∧ p ∧ post r s.hp) a w → a.defers = [] ∧ ∃ v, (results fn a.tmps).run P w = .ok v w ∧
      ∃ v' r H' μ' S', Ending.returned v = .returned v' ∧ post r H' ∧ Rd μ' S' w v' r ∧ HpOK μ' S' w H' ∧ Frm (fun g => ∃ id, μ id = some g) w0 w ∧
      (∀ id g, μ' id = some g → (∃ id', μ id' = some g) ∨ w0.heap.size ≤ g) ∧ (∀ b, S' b → b < w.heap.size ∧ (R0 b ∨ (∃ id, μ id = some b) ∨ w0.heap.size ≤ b)) := by
    rintro ⟨s, ⟨p, r, h1, h2, h3⟩, μ', S', hi⟩
    obtain ⟨v, k1, k2⟩ := res_sound hT hi h1 h2
    exact ⟨hi.defers, v, k1, v, r, s.hp, μ', S', rfl, h3, k2, ⟨hi.hp, fun id g hg => ⟨(hi.dom id g hg).1, (hi.dom id g hg).2.2⟩, hi.inj⟩, hi.frm, fun id g hg => (hi.dom id g hg).2.1, hi.sb⟩
  cases ex with
  | normal => exact key q
  | ret => exact key q
  | exit id => exact q.elim
  | _ => exact q.elim

theorem FnOK.mono {f : FuncId} {args : List AV} {H : List (Nat × Blk)} {post post' : AV → List (Nat × Blk) → Prop} (h : FnOK P f args H post) (hp : ∀ r H', post r H' → post' r H') : FnOK P f args H post' :=
  fun R0 μ w0 vs hl ha hH hR => (h R0 μ w0 vs hl ha hH hR).mono fun _ _ ⟨v, r, H', μ', S', h1, h2, h3⟩ => ⟨v, r, H', μ', S', h1, hp r H' h2, h3⟩

end
end Go.Eng
