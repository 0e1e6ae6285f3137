/- The abstract machine, part R: calls that take, and hand back, what is held; what may be forgotten, adopted, frozen. No condition. -/
import Derived.Test.YtldpfleilffanaaEngP
namespace Go.Eng
section
variable {P : Program} {T : Tab} {C : Ctx} {σ σ' : St}

mutual
def ren (off : Nat) : AV → AV
  | .ptr id s r o => .ptr (id + off) s r o
  | .osl id s o n => .osl (id + off) s o n
  | .mp id => .mp (id + off)
  | .agg cells => .agg (renL off cells)
  | .tup vs => .tup (renL off vs)
  | .fn f caps => .fn f (renL off caps)
  | .cnd c v => .cnd c (ren off v)
  | x => x
def renL (off : Nat) : List AV → List AV
  | [] => []
  | x :: r => ren off x :: renL off r
end

theorem renL_map (off : Nat) : ∀ l, renL off l = l.map (ren off)
  | [] => rfl
  | x :: r => by simp [renL, renL_map off r]

theorem RdP.ren_eq {S : Nat → Prop} {w : World} {v : Value} {x : AV} (h : RdP S w v x) (off : Nat) : ren off x = x := by
  have key : ∀ (l : List AV), (∀ (j : Nat) x, l[j]? = some x → ren off x = x) → renL off l = l := by
    intro l
    induction l with
    | nil => intro _; rfl
    | cons y r ih =>
      intro h
      simp only [renL]
      rw [h 0 y rfl, ih (fun j x hj => h (j + 1) x (by simpa using hj))]
  induction h with
  | fn f vals caps hl hr ih => simp only [ren]; rw [key caps ih]
  | agg cs cells hl hr ih => simp only [ren]; rw [key cells ih]
  | _ => rfl

/-- Read with other numbers. -/
theorem Rd.ren {μ μ' : Nat → Option Nat} {S : Nat → Prop} {w : World} {v : Value} {x : AV} (off : Nat) (h : Rd μ S w v x) (hm : ∀ id, id ∈ refs x → ∀ g, μ id = some g → μ' (id + off) = some g) : Rd μ' S w v (ren off x) := by
  induction h with
  | any v => exact .any v
  | pure h => rw [h.ren_eq]; exact .pure h
  | agg cs cells hl hr ih =>
    simp only [Eng.ren, renL_map]
    refine .agg cs _ (by simpa using hl) (fun j x hx => ?_)
    rw [List.getElem?_map] at hx
    cases e : cells[j]? with
    | none => rw [e] at hx; cases hx
    | some y =>
      rw [e] at hx; simp only [Option.map_some, Option.some.injEq] at hx; subst hx
      exact ih j y e (fun id hid => hm id (by simp only [refs]; exact refsL_mem e hid))
  | tup cs cells hl hr ih =>
    simp only [Eng.ren, renL_map]
    refine .tup cs _ (by simpa using hl) (fun j x hx => ?_)
    rw [List.getElem?_map] at hx
    cases e : cells[j]? with
    | none => rw [e] at hx; cases hx
    | some y =>
      rw [e] at hx; simp only [Option.map_some, Option.some.injEq] at hx; subst hx
      exact ih j y e (fun id hid => hm id (by simp only [refs]; exact refsL_mem e hid))
  | fn f vals cells hl hr ih =>
    simp only [Eng.ren, renL_map]
    refine .fn f vals _ (by simpa using hl) (fun j x hx => ?_)
    rw [List.getElem?_map] at hx
    cases e : cells[j]? with
    | none => rw [e] at hx; cases hx
    | some y =>
      rw [e] at hx; simp only [Option.map_some, Option.some.injEq] at hx; subst hx
      exact ih j y e (fun id hid => hm id (by simp only [refs]; exact refsL_mem e hid))
  | ptr i size row o g hg => exact .ptr _ size row o g (hm i (by simp [refs]) g hg)
  | osl i size o len cap A hc h =>
    refine .osl _ size o len cap A hc ?_
    rcases h with h | ⟨g, e, n, h1, h2, h3, h4⟩
    · exact .inl h
    · exact .inr ⟨g, e, n, hm i (by simp [refs]) g h1, h2, h3, h4⟩
  | mp i g hg => exact .mp _ g (hm i (by simp [refs]) g hg)
  | cndT v x h ih => exact .cndT v _ (ih (fun id hid => hm id (by simpa [refs] using hid)))
  | cndF x => exact .cndF _

/-- Read with fewer numbers. -/
theorem Rd.less {μ μ' : Nat → Option Nat} {S : Nat → Prop} {w : World} {v : Value} {x : AV} (h : Rd μ S w v x) (hm : ∀ id, id ∈ refs x → ∀ g, μ id = some g → μ' id = some g) : Rd μ' S w v x := by
  induction h with
  | any v => exact .any v
  | pure h => exact .pure h
  | agg cs cells hl hr ih => exact .agg cs cells hl (fun j x hx => ih j x hx (fun id hid => hm id (by simp only [refs]; exact refsL_mem hx hid)))
  | tup cs cells hl hr ih => exact .tup cs cells hl (fun j x hx => ih j x hx (fun id hid => hm id (by simp only [refs]; exact refsL_mem hx hid)))
  | fn f vals cells hl hr ih => exact .fn f vals cells hl (fun j x hx => ih j x hx (fun id hid => hm id (by simp only [refs]; exact refsL_mem hx hid)))
  | ptr i size row o g hg => exact .ptr _ size row o g (hm i (by simp [refs]) g hg)
  | osl i size o len cap A hc h =>
    refine .osl _ size o len cap A hc ?_
    rcases h with h | ⟨g, e, n, h1, h2, h3, h4⟩
    · exact .inl h
    · exact .inr ⟨g, e, n, hm i (by simp [refs]) g h1, h2, h3, h4⟩
  | mp i g hg => exact .mp _ g (hm i (by simp [refs]) g hg)
  | cndT v x h ih => exact .cndT v _ (ih (fun id hid => hm id (by simpa [refs] using hid)))
  | cndF x => exact .cndF _

def refsB : Blk → List Nat
  | .cells _ _ rows => rows.flatMap refsL
  | .map _ => []
  | .iter .. => []

@[go_sem, simp] theorem refsB_nil (e s : Nat) : refsB (.cells e s []) = [] := rfl
@[go_sem, simp] theorem refsB_cons (e s : Nat) (r : List AV) (l : List (List AV)) : refsB (.cells e s (r :: l)) = refsL r ++ refsB (.cells e s l) := rfl
@[go_sem, simp] theorem refsB_map (kvs : List (Int × AV)) : refsB (.map kvs) = [] := rfl
@[go_sem, simp] theorem refsB_iter (kvs : List (Int × AV)) (seen : List Int) : refsB (.iter kvs seen) = [] := rfl

def renB (off : Nat) : Blk → Blk
  | .cells e s rows => .cells e s (rows.map (renL off))
  | .map kvs => .map kvs
  | .iter kvs seen => .iter kvs seen

def renH (off : Nat) (H : List (Nat × Blk)) : List (Nat × Blk) := H.map fun p => (p.1 + off, renB off p.2)

theorem BlkOK.ren {μ μ' : Nat → Option Nat} {S : Nat → Prop} {w : World} {id : Nat} {b : Blk} (off : Nat) (h : BlkOK μ S w id b) (hn : μ id = none → μ' (id + off) = none) (hs : ∀ g, μ id = some g → μ' (id + off) = some g)
    (hm : ∀ i, i ∈ refsB b → ∀ g, μ i = some g → μ' (i + off) = some g) : BlkOK μ' S w (id + off) (renB off b) := by
  cases b with
  | cells e s rows =>
    rcases h with ⟨rfl, h2⟩ | ⟨g, c, h1, h2, h3, h4, h5⟩
    · exact .inl ⟨rfl, hn h2⟩
    · refine .inr ⟨g, c, hs g h1, h2, by simpa using h3, fun row hrow => ?_, fun i row hi j x hx => ?_⟩
      · obtain ⟨r, hr, rfl⟩ := List.mem_map.1 hrow
        rw [renL_map, List.length_map]; exact h4 r hr
      · rw [List.getElem?_map] at hi
        cases e1 : rows[i]? with
        | none => rw [e1] at hi; cases hi
        | some r =>
          rw [e1] at hi; simp only [Option.map_some, Option.some.injEq] at hi; subst hi
          rw [renL_map, List.getElem?_map] at hx
          cases e2 : r[j]? with
          | none => rw [e2] at hx; cases hx
          | some y =>
            rw [e2] at hx; simp only [Option.map_some, Option.some.injEq] at hx; subst hx
            exact (h5 i r e1 j y e2).ren off (fun i hi => hm i (List.mem_flatMap.2 ⟨r, List.mem_of_getElem? e1, refsL_mem e2 hi⟩))
  | map kvs =>
    obtain ⟨g, es, clk, vals, h1, h2, h3, h4⟩ := h
    exact ⟨g, es, clk, vals, hs g h1, h2, h3, h4⟩
  | iter kvs seen =>
    obtain ⟨g, es, clk, vals, had, h1, h2, h4⟩ := h
    exact ⟨g, es, clk, vals, had, hs g h1, h2, h4⟩

theorem BlkOK.less {μ μ' : Nat → Option Nat} {S : Nat → Prop} {w : World} {id : Nat} {b : Blk} (h : BlkOK μ S w id b) (he : μ' id = μ id) (hm : ∀ i, i ∈ refsB b → ∀ g, μ i = some g → μ' i = some g) : BlkOK μ' S w id b := by
  cases b with
  | cells e s rows =>
    rcases h with ⟨rfl, h2⟩ | ⟨g, c, h1, h2, h3, h4, h5⟩
    · exact .inl ⟨rfl, he.trans h2⟩
    · exact .inr ⟨g, c, he.trans h1, h2, h3, h4, fun i row hi j x hx => (h5 i row hi j x hx).less (fun k hk => hm k (List.mem_flatMap.2 ⟨row, List.mem_of_getElem? hi, refsL_mem hx hk⟩))⟩
  | map kvs =>
    obtain ⟨g, es, clk, vals, h1, h2, h3, h4⟩ := h
    exact ⟨g, es, clk, vals, he.trans h1, h2, h3, h4⟩
  | iter kvs seen =>
    obtain ⟨g, es, clk, vals, had, h1, h2, h4⟩ := h
    exact ⟨g, es, clk, vals, had, he.trans h1, h2, h4⟩

def sub (ids : List Nat) : List (Nat × Blk) → List (Nat × Blk)
  | [] => []
  | p :: r => if ids.contains p.1 then p :: sub ids r else sub ids r
def del (ids : List Nat) : List (Nat × Blk) → List (Nat × Blk)
  | [] => []
  | p :: r => if ids.contains p.1 then del ids r else p :: del ids r

theorem hget_sub (ids : List Nat) (id : Nat) : ∀ H, hget (sub ids H) id = if ids.contains id = true then hget H id else none
  | [] => by simp [sub, hget]
  | (i, b) :: r => by
    have ih := hget_sub ids id r
    unfold sub
    by_cases e : i = id
    · subst e
      by_cases h : ids.contains i = true
      · rw [if_pos h, if_pos h]; simp only [hget, if_true]
      · rw [if_neg h, if_neg h, ih, if_neg h]
    · by_cases h : ids.contains i = true
      · rw [if_pos h]; simp only [hget, if_neg e]; exact ih
      · rw [if_neg h]; simp only [hget, if_neg e]; exact ih

theorem hget_del (ids : List Nat) (id : Nat) : ∀ H, hget (del ids H) id = if ids.contains id = true then none else hget H id
  | [] => by simp [del, hget]
  | (i, b) :: r => by
    have ih := hget_del ids id r
    unfold del
    by_cases e : i = id
    · subst e
      by_cases h : ids.contains i = true
      · rw [if_pos h, ih, if_pos h, if_pos h]
      · rw [if_neg h, if_neg h]; simp only [hget, if_true]
    · by_cases h : ids.contains i = true
      · rw [if_pos h]; simp only [hget, if_neg e]; exact ih
      · rw [if_neg h]; simp only [hget, if_neg e]; exact ih

theorem hget_renH (off id : Nat) : ∀ H, hget (renH off H) id = if off ≤ id then (hget H (id - off)).map (renB off) else none
  | [] => by simp [renH, hget]
  | (i, b) :: r => by
    have ih := hget_renH off id r
    simp only [renH, List.map_cons, hget] at ih ⊢
    by_cases h : i + off = id
    · subst h
      simp
    · rw [if_neg h, ih]
      by_cases h2 : off ≤ id
      · rw [if_pos h2, if_pos h2, if_neg (by omega)]
      · rw [if_neg h2, if_neg h2]

def killL (ids : List Nat) (x : AV) : AV := if (refs x).any ids.contains then .any else x

/-- a heap that names none but its own, and what is handed on -/
def closed (K : List (Nat × Blk)) (xs : List Nat) : Bool := xs.all (fun i => (hget K i).isSome) && K.all fun p => (refsB p.2).all fun i => (hget K i).isSome

theorem hget_mem : ∀ {H : List (Nat × Blk)} {id : Nat} {b : Blk}, hget H id = some b → (id, b) ∈ H
  | (i, c) :: r, id, b, h => by
    simp only [hget] at h
    split at h
    · rename_i e; subst e; injection h with h; subst h; simp
    · exact List.mem_cons_of_mem _ (hget_mem h)

/-- THE GENERAL CALL: what 'ids' name is handed over; what 'K' names comes back, under numbers that are 'off' greater. -/
theorem trip_callG {o : Oper} {c : Operand} {args : Array Operand} {ats : Array TypeId} (ho : o.op = .call { callee := .value c, args, argTypes := ats }) {p : Prop} {f : FuncId} {xs : List AV}
    (h : callArgs σ c args.toList = some (p, f, xs)) (hp : p) (hc : Callable P f) (ids : List Nat) (off : Nat) {H K : List (Nat × Blk)} {r : AV} (hH : sub ids σ.hp = H)
    (hck : (refsL xs).all ids.contains = true) (hc1 : (H.all fun p => (refsB p.2).all ids.contains) = true) (hc2 : ((del ids σ.hp).all fun p => (refsB p.2).all fun i => !ids.contains i) = true)
    (hc3 : closed K (refs r) = true) (hc4 : (K.all fun p => (hget σ.hp (p.1 + off)).isNone) = true)
    (hf : FnOK P f xs H fun r' H' => r' = r ∧ ∀ id b, hget K id = some b → hget H' id = some b) {τ : St} (hτ : (⟨σ.tm.map (killL ids), renH off K ++ del ids σ.hp⟩ : St).put o.dst (ren off r) = τ) : Trip P C o σ τ := by
  subst hH hτ
  intro a w Kp Q ⟨μ, S, hi⟩ hKp
  obtain ⟨vs, h1, h2, h3⟩ := exec_call hi ho h hp hc
  unfold Oper.wp
  rw [h3]
  let μc : Nat → Option Nat := fun i => if ids.contains i then μ i else none
  have mc : ∀ {i g}, μc i = some g → ids.contains i = true ∧ μ i = some g := fun {i g} h => by
    simp only [μc] at h; split at h
    · exact ⟨by assumption, h⟩
    · cases h
  have mc' : ∀ {i}, ids.contains i = true → μc i = μ i := fun {i} h => by simp only [μc, h, if_true]
  rw [Bool.eq_iff_iff] at hck
  have hck := fun i hi => List.all_eq_true.1 (hck.2 rfl) i hi
  refine (hf S μc w vs h1 (fun j x hj => (h2 j x hj).less fun id hid g hg => by rw [mc' (hck id (refsL_mem hj hid))]; exact hg) ⟨fun id b hb => ?_, fun id g hg => ?_, fun id id' g hg hg' => hi.inj id id' g (mc hg).2 (mc hg').2⟩ (fun b hb => (hi.sb b hb).1)).mono ?_
  · have hb' := hb
    rw [hget_sub] at hb
    split at hb
    · rename_i hid
      have hall := List.all_eq_true.1 hc1 _ (hget_mem hb')
      exact (hi.hp id b hb).less (mc' hid) (fun i hi' g hg => by rw [mc' (List.all_eq_true.1 hall i hi')]; exact hg)
    · cases hb
  · obtain ⟨k1, k2⟩ := mc hg
    obtain ⟨⟨b, j1⟩, _, j3⟩ := hi.dom id g k2
    exact ⟨⟨b, by rw [hget_sub, if_pos k1]; exact j1⟩, j3⟩
  rintro e w' ⟨v, r', H', μ', S', rfl, ⟨rfl, hKH⟩, k1, k2, k3, k4, k5⟩
  simp only [closed, Bool.and_eq_true] at hc3
  obtain ⟨hr, hcl⟩ := hc3
  have hr : ∀ i, i ∈ refs r' → ∃ b, hget K i = some b := fun i hi => Option.isSome_iff_exists.1 (List.all_eq_true.1 hr i hi)
  have hcl : ∀ i b, hget K i = some b → ∀ j, j ∈ refsB b → ∃ c, hget K j = some c := fun i b hb j hj => Option.isSome_iff_exists.1 (List.all_eq_true.1 (List.all_eq_true.1 hcl _ (hget_mem hb)) j hj)
  have hfree : ∀ i b, hget K i = some b → hget σ.hp (i + off) = none := fun i b hb => by
    have := List.all_eq_true.1 hc4 _ (hget_mem hb)
    simpa using this
  let μ2 : Nat → Option Nat := fun i => if off ≤ i ∧ (hget K (i - off)).isSome = true then μ' (i - off) else if ids.contains i then none else μ i
  have m2K : ∀ {i b}, hget K i = some b → μ2 (i + off) = μ' i := fun {i b} hb => by
    simp only [μ2]; rw [if_pos ⟨by omega, by rw [Nat.add_sub_cancel, hb]; rfl⟩, Nat.add_sub_cancel]
  have m2o : ∀ {i b}, hget σ.hp i = some b → ids.contains i = false → μ2 i = μ i := fun {i b} hb hn => by
    simp only [μ2]
    rw [if_neg (by
      rintro ⟨q1, q2⟩
      obtain ⟨b', q3⟩ := Option.isSome_iff_exists.1 q2
      have := hfree _ _ q3
      rw [Nat.sub_add_cancel q1, hb] at this
      cases this), hn]
    rfl
  have m2 : ∀ {i g}, μ2 i = some g → (∃ j b, i = j + off ∧ hget K j = some b ∧ μ' j = some g) ∨ (ids.contains i = false ∧ μ i = some g ∧ ∃ b, hget σ.hp i = some b) := fun {i g} hg => by
    simp only [μ2] at hg
    split at hg
    · rename_i q
      obtain ⟨b, q3⟩ := Option.isSome_iff_exists.1 q.2
      exact .inl ⟨i - off, b, by omega, q3, hg⟩
    · split at hg
      · cases hg
      · rename_i q
        exact .inr ⟨by simpa using q, hg, (hi.dom i g hg).1⟩
  have hfr : Frm (fun g => ∃ id, μc id = some g) w w' := k3
  have hS : SameOn S w w' := fun b hb => hfr.block b (hi.sb b hb).1 (by rintro ⟨id, h⟩; exact (hi.dom id b (mc h).2).2.2.1 hb)
  have hO : ∀ i g, μ i = some g → ids.contains i = false → w'.heap[g]? = w.heap[g]? := fun i g hg hn => hfr.block g (hi.dom i g hg).2.2.2 (by
    rintro ⟨id, h⟩
    obtain ⟨q1, q2⟩ := mc h
    have := hi.inj _ _ _ hg q2
    subst this
    rw [q1] at hn; cases hn)
  let S2 : Nat → Prop := fun b => S b ∨ S' b
  -- a value of ours that names nothing of 'ids'
  have rdO : ∀ {v x}, Rd μ S w v x → (∀ i, i ∈ refs x → ids.contains i = false) → Rd μ2 S2 w' v x := fun {v x} hv hn => by
    have h1 : Rd (fun i => if ids.contains i then none else μ i) S w v x := hv.less (fun i hi g hg => by rw [hn i hi]; exact hg)
    refine h1.mono hS (fun _ h => .inl h) (fun i g hg => ?_) (fun i g hg => ?_)
    · split at hg
      · cases hg
      · rename_i q
        have q : ids.contains i = false := by simpa using q
        obtain ⟨⟨b, hb⟩, _⟩ := hi.dom i g hg
        rw [m2o hb q]; exact hg
    · split at hg
      · cases hg
      · rename_i q
        exact rowSize_same (hO i g hg (by simpa using q))
  have inv : Inv C μ2 S2 ⟨σ.tm.map (killL ids), renH off K ++ del ids σ.hp⟩ a w' := by
    refine ⟨by simp [hi.size], hi.defers, fun t x hx => ?_, fun id b hb => ?_, fun i g hg => ?_, fun i j g hg hg' => ?_, hi.frm.step _ hfr (fun g ⟨id, h⟩ => (hi.dom id g (mc h).2).2.1), fun b hb => ?_⟩
    · simp only [List.getElem?_map] at hx
      cases e : σ.tm[t]? with
      | none => rw [e] at hx; cases hx
      | some y =>
        rw [e] at hx
        simp only [Option.map_some, Option.some.injEq] at hx
        subst hx
        unfold killL
        split
        · exact .any _
        · rename_i q
          refine rdO (hi.tm t y e) (fun i hi' => ?_)
          simp only [List.any_eq_true, not_exists, not_and] at q
          simpa using q i hi'
    · simp only at hb
      rw [hget_append] at hb
      split at hb
      · rw [hget_renH] at hb
        split at hb
        · rename_i q
          cases e : hget K (id - off) with
          | none => rw [e] at hb; cases hb
          | some b0 =>
            rw [e] at hb
            simp only [Option.map_some, Option.some.injEq] at hb
            subst hb
            obtain ⟨j, rfl⟩ : ∃ j, id = j + off := ⟨id - off, by omega⟩
            rw [Nat.add_sub_cancel] at e
            have := (k2.blk j b0 (hKH j b0 e)).ren off (μ' := μ2) (fun h => by rw [m2K e]; exact h) (fun g h => by rw [m2K e]; exact h) (fun i hi' g hg => by
              obtain ⟨c, hc'⟩ := hcl j b0 e i hi'
              rw [m2K hc']; exact hg)
            exact this.mono (SameOn.refl _ _) (fun _ h => .inr h) (fun _ _ h => h) (fun _ _ _ => rfl) (fun h => h) (fun _ _ => rfl)
        · cases hb
      · rename_i hnK
        rw [hget_del] at hb
        split at hb
        · cases hb
        · rename_i q
          have q : ids.contains id = false := by simpa using q
          have hall := List.all_eq_true.1 hc2 (id, b) (hget_mem (by rw [hget_del, if_neg (by rw [q]; simp)]; exact hb))
          have h1 := (hi.hp id b hb).less (μ' := fun i => if ids.contains i then none else μ i) (by rw [q]; rfl) (fun i hi' g hg => by
            have := List.all_eq_true.1 hall i hi'
            rw [if_neg (by simpa using this)]; exact hg)
          refine h1.mono hS (fun _ h => .inl h) (fun i g hg => ?_) (fun i g hg => ?_) (fun hn => ?_) (fun g hg => ?_)
          · split at hg
            · cases hg
            · rename_i q'
              obtain ⟨⟨b', hb'⟩, _⟩ := hi.dom i g hg
              rw [m2o hb' (by simpa using q')]; exact hg
          · split at hg
            · cases hg
            · rename_i q'
              exact rowSize_same (hO i g hg (by simpa using q'))
          · rw [m2o hb q]; rw [q] at hn; exact hn
          · rw [q] at hg
            exact hO id g hg q
    · rcases m2 hg with ⟨j, b, rfl, q1, q2⟩ | ⟨q1, q2, b, q3⟩
      · obtain ⟨_, q4, q5⟩ := k2.dom j g q2
        refine ⟨⟨renB off b, ?_⟩, ?_, ?_, q5⟩
        · have e : hget (renH off K) (j + off) = some (renB off b) := by rw [hget_renH, if_pos (by omega), Nat.add_sub_cancel, q1]; rfl
          rw [hget_append, if_pos ⟨_, hget_mem e, rfl⟩, e]
        · rcases k4 j g q2 with ⟨i, hi'⟩ | h
          · exact (hi.dom i g (mc hi').2).2.1
          · have := hi.frm.size
            exact .inr (by omega)
        · rintro (h | h)
          · rcases k4 j g q2 with ⟨i, hi'⟩ | h'
            · exact (hi.dom i g (mc hi').2).2.2.1 h
            · have := (hi.sb g h).1; omega
          · exact q4 h
      · obtain ⟨_, q4, q5, q6⟩ := hi.dom i g q2
        refine ⟨⟨b, ?_⟩, q4, ?_, Nat.lt_of_lt_of_le q6 hfr.size⟩
        · rw [hget_append, if_neg, hget_del, if_neg (by rw [q1]; simp)]
          · exact q3
          · rintro ⟨⟨i', b'⟩, hm, rfl⟩
            obtain ⟨⟨j, c'⟩, hm', e⟩ := List.mem_map.1 hm
            simp only [Prod.mk.injEq] at e
            have := List.all_eq_true.1 hc4 _ hm'
            simp only at this
            rw [e.1] at this
            simp only at q3
            rw [q3] at this
            cases this
        · rintro (h | h)
          · exact q5 h
          · rcases (k5 g h).2 with h | ⟨i', h⟩ | h
            · exact q5 h
            · obtain ⟨q7, q8⟩ := mc h
              have := hi.inj _ _ _ q2 q8
              subst this
              rw [q7] at q1; cases q1
            · omega
    · rcases m2 hg with ⟨i1, b1, rfl, p1, p2⟩ | ⟨p1, p2, b1, p3⟩ <;> rcases m2 hg' with ⟨j1, c1, rfl, q1, q2⟩ | ⟨q1, q2, c1, q3⟩
      · rw [k2.inj _ _ _ p2 q2]
      · rcases k4 i1 g p2 with ⟨i', h⟩ | h
        · obtain ⟨q7, q8⟩ := mc h
          have := hi.inj _ _ _ q2 q8
          subst this
          rw [q7] at q1; cases q1
        · have := (hi.dom _ _ q2).2.2.2; omega
      · rcases k4 j1 g q2 with ⟨i', h⟩ | h
        · obtain ⟨q7, q8⟩ := mc h
          have := hi.inj _ _ _ p2 q8
          subst this
          rw [q7] at p1; cases p1
        · have := (hi.dom _ _ p2).2.2.2; omega
      · exact hi.inj _ _ _ p2 q2
    · rcases hb with h | h
      · exact ⟨Nat.lt_of_lt_of_le (hi.sb b h).1 hfr.size, (hi.sb b h).2⟩
      · refine ⟨(k5 b h).1, ?_⟩
        rcases (k5 b h).2 with h | ⟨i', h⟩ | h
        · exact (hi.sb b h).2
        · rcases (hi.dom _ _ (mc h).2).2.1 with h | h
          · exact .inr (.inl h)
          · exact .inr (.inr h)
        · have := hi.frm.size
          exact .inr (.inr (by omega))
  exact hKp _ _ ⟨μ2, S2, inv.put o.dst ((k1.ren off (fun i hi' g hg => by
    obtain ⟨b, hb⟩ := hr i hi'
    rw [m2K hb]; exact hg)).mono (SameOn.refl _ _) (fun _ h => .inr h) (fun _ _ h => h) (fun _ _ _ => rfl))⟩

end
end Go.Eng
