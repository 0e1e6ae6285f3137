/- Texts of this claim, part 7: EngR, EngT, EngU, EngV. No condition. -/
import Derived.Test.YtfiiingppbkpkaaGreatXF6
import Derived.WalkSpells
set_option maxRecDepth 10000
set_option maxHeartbeats 4000000
set_option linter.unusedSimpArgs false
set_option linter.unusedVariables false
namespace Go.Eng
section
variable {P : Program} {T : Tab} {C : Ctx} {σ σ' : St}
mutual
def ren (off : Nat) : AV → AV
 | .ptr id s r o => .ptr (id + off) s r o
 | .osl id s o n => .osl (id + off) s o n
 | .mp id => .mp (id + off)
 | .exs id s o n c => .exs (id + off) s o n c
 | .agg cells => .agg (renL off cells)
 | .tup vs => .tup (renL off vs)
 | .fn f caps => .fn f (renL off caps)
 | .cnd c v => .cnd c (ren off v)
 | x => x
def renL (off : Nat) : List AV → List AV
 | [] => []
 | x :: r => ren off x :: renL off r
end
theorem renL_map (off : Nat) : ∀ l, renL off l = l.map (ren off)
 | [] => rfl
 | x :: r => by simp [renL, renL_map off r]
theorem RdP.ren_eq {S : Nat → Prop} {w : World} {v : Value} {x : AV} (h : RdP S w v x) (off : Nat) : ren off x = x := by
 have key : ∀ (l : List AV), (∀ (j : Nat) x, l[j]? = some x → ren off x = x) → renL off l = l := by
  intro l
  induction l with
  | nil => intro _; rfl
  | cons y r ih =>
   intro h
   simp only [renL]
   rw [h 0 y rfl, ih (fun j x hj => h (j + 1) x (by simpa using hj))]
 induction h with
 | fn f vals caps hl hr ih => simp only [ren]; rw [key caps ih]
 | agg cs cells hl hr ih => simp only [ren]; rw [key cells ih]
 | _ => rfl
theorem Rd.ren {μ μ' : Nat → Option Nat} {S : Nat → Prop} {w : World} {v : Value} {x : AV} (off : Nat) (h : Rd μ S w v x) (hm : ∀ id, id ∈ refs x → ∀ g, μ id = some g → μ' (id + off) = some g) : Rd μ' S w v (ren off x) := by
 induction h with
 | any v => exact .any v
 | pure h => rw [h.ren_eq]; exact .pure h
 | agg cs cells hl hr ih =>
  simp only [Eng.ren, renL_map]
  refine .agg cs _ (by simpa using hl) (fun j x hx => ?_)
  rw [List.getElem?_map] at hx
  cases e : cells[j]? with
  | none => rw [e] at hx; cases hx
  | some y =>
   rw [e] at hx; simp only [Option.map_some, Option.some.injEq] at hx; subst hx
   exact ih j y e (fun id hid => hm id (by simp only [refs]; exact refsL_mem e hid))
 | tup cs cells hl hr ih =>
  simp only [Eng.ren, renL_map]
  refine .tup cs _ (by simpa using hl) (fun j x hx => ?_)
  rw [List.getElem?_map] at hx
  cases e : cells[j]? with
  | none => rw [e] at hx; cases hx
  | some y =>
   rw [e] at hx; simp only [Option.map_some, Option.some.injEq] at hx; subst hx
   exact ih j y e (fun id hid => hm id (by simp only [refs]; exact refsL_mem e hid))
 | fn f vals cells hl hr ih =>
  simp only [Eng.ren, renL_map]
  refine .fn f vals _ (by simpa using hl) (fun j x hx => ?_)
  rw [List.getElem?_map] at hx
  cases e : cells[j]? with
  | none => rw [e] at hx; cases hx
  | some y =>
   rw [e] at hx; simp only [Option.map_some, Option.some.injEq] at hx; subst hx
   exact ih j y e (fun id hid => hm id (by simp only [refs]; exact refsL_mem e hid))
 | ptr i size row o g hg => exact .ptr _ size row o g (hm i (by simp [refs]) g hg)
 | osl i size o len cap A hc h =>
  refine .osl _ size o len cap A hc ?_
  rcases h with h | ⟨g, e, n, h1, h2, h3, h4⟩
  ·exact .inl h
  ·exact .inr ⟨g, e, n, hm i (by simp [refs]) g h1, h2, h3, h4⟩
 | mp i g hg => exact .mp _ g (hm i (by simp [refs]) g hg)
 | exs i size o len cap g e n hc hg hr hn => exact .exs _ size o len cap g e n hc (hm i (by simp [refs]) g hg) hr hn
 | cndT v x h ih => exact .cndT v _ (ih (fun id hid => hm id (by simpa [refs] using hid)))
 | cndF x => exact .cndF _
theorem Rd.less {μ μ' : Nat → Option Nat} {S : Nat → Prop} {w : World} {v : Value} {x : AV} (h : Rd μ S w v x) (hm : ∀ id, id ∈ refs x → ∀ g, μ id = some g → μ' id = some g) : Rd μ' S w v x := by
 induction h with
 | any v => exact .any v
 | pure h => exact .pure h
 | agg cs cells hl hr ih => exact .agg cs cells hl (fun j x hx => ih j x hx (fun id hid => hm id (by simp only [refs]; exact refsL_mem hx hid)))
 | tup cs cells hl hr ih => exact .tup cs cells hl (fun j x hx => ih j x hx (fun id hid => hm id (by simp only [refs]; exact refsL_mem hx hid)))
 | fn f vals cells hl hr ih => exact .fn f vals cells hl (fun j x hx => ih j x hx (fun id hid => hm id (by simp only [refs]; exact refsL_mem hx hid)))
 | ptr i size row o g hg => exact .ptr _ size row o g (hm i (by simp [refs]) g hg)
 | osl i size o len cap A hc h =>
  refine .osl _ size o len cap A hc ?_
  rcases h with h | ⟨g, e, n, h1, h2, h3, h4⟩
  ·exact .inl h
  ·exact .inr ⟨g, e, n, hm i (by simp [refs]) g h1, h2, h3, h4⟩
 | mp i g hg => exact .mp _ g (hm i (by simp [refs]) g hg)
 | exs i size o len cap g e n hc hg hr hn => exact .exs _ size o len cap g e n hc (hm i (by simp [refs]) g hg) hr hn
 | cndT v x h ih => exact .cndT v _ (ih (fun id hid => hm id (by simpa [refs] using hid)))
 | cndF x => exact .cndF _
def refsB : Blk → List Nat
 | .cells _ _ rows => rows.flatMap refsL
 | .map _ => []
 | .iter .. => []
 | .cap id _ _ => [id]
 | .pin id _ _ _ => [id]
@[go_sem, simp] theorem refsB_nil (e s : Nat) : refsB (.cells e s []) = [] := rfl
@[go_sem, simp] theorem refsB_cons (e s : Nat) (r : List AV) (l : List (List AV)) : refsB (.cells e s (r :: l)) = refsL r ++ refsB (.cells e s l) := rfl
@[go_sem, simp] theorem refsB_map (kvs : List (Int × AV)) : refsB (.map kvs) = [] := rfl
@[go_sem, simp] theorem refsB_cap (id s N : Nat) : refsB (.cap id s N) = [id] := rfl
@[go_sem, simp] theorem refsB_pin (id g t n : Nat) : refsB (.pin id g t n) = [id] := rfl
@[go_sem, simp] theorem refsB_iter (kvs : List (Int × AV)) (seen : List Int) : refsB (.iter kvs seen) = [] := rfl
def renB (off : Nat) : Blk → Blk
 | .cells e s rows => .cells e s (rows.map (renL off))
 | .map kvs => .map kvs
 | .iter kvs seen => .iter kvs seen
 | .cap id s N => .cap (id + off) s N
 | .pin id g t n => .pin (id + off) g t n
def renH (off : Nat) (H : List (Nat × Blk)) : List (Nat × Blk) := H.map fun p => (p.1 + off, renB off p.2)
theorem BlkOK.ren {μ μ' : Nat → Option Nat} {S : Nat → Prop} {w : World} {id : Nat} {b : Blk} (off : Nat) (h : BlkOK μ S w id b) (hn : μ id = none → μ' (id + off) = none) (hs : ∀ g, μ id = some g → μ' (id + off) = some g)
  (hm : ∀ i, i ∈ refsB b → ∀ g, μ i = some g → μ' (i + off) = some g) : BlkOK μ' S w (id + off) (renB off b) := by
 cases b with
 | cells e s rows =>
  rcases h with ⟨rfl, h2⟩ | ⟨g, c, h1, h2, h3, h4, h5⟩
  ·exact .inl ⟨rfl, hn h2⟩
  ·refine .inr ⟨g, c, hs g h1, h2, by simpa using h3, fun row hrow => ?_, fun i row hi j x hx => ?_⟩
   ·obtain ⟨r, hr, rfl⟩ := List.mem_map.1 hrow
    rw [renL_map, List.length_map]; exact h4 r hr
   ·rw [List.getElem?_map] at hi
    cases e1 : rows[i]? with
    | none => rw [e1] at hi; cases hi
    | some r =>
     rw [e1] at hi; simp only [Option.map_some, Option.some.injEq] at hi; subst hi
     rw [renL_map, List.getElem?_map] at hx
     cases e2 : r[j]? with
     | none => rw [e2] at hx; cases hx
     | some y =>
      rw [e2] at hx; simp only [Option.map_some, Option.some.injEq] at hx; subst hx
      exact (h5 i r e1 j y e2).ren off (fun i hi => hm i (List.mem_flatMap.2 ⟨r, List.mem_of_getElem? e1, refsL_mem e2 hi⟩))
 | map kvs =>
  obtain ⟨g, es, clk, vals, h1, h2, h3, h4⟩ := h
  exact ⟨g, es, clk, vals, hs g h1, h2, h3, h4⟩
 | iter kvs seen =>
  obtain ⟨g, es, clk, vals, had, h1, h2, h4⟩ := h
  exact ⟨g, es, clk, vals, had, hs g h1, h2, h4⟩
 | cap id' s N =>
  obtain ⟨h1, g, e, h2, h3⟩ := h
  exact ⟨hn h1, g, e, hm id' (by simp) g h2, h3⟩
 | pin id' g t n =>
  obtain ⟨h1, h2, h3⟩ := h
  exact ⟨hn h1, hm id' (by simp) g h2, h3⟩
theorem BlkOK.less {μ μ' : Nat → Option Nat} {S : Nat → Prop} {w : World} {id : Nat} {b : Blk} (h : BlkOK μ S w id b) (he : μ' id = μ id) (hm : ∀ i, i ∈ refsB b → ∀ g, μ i = some g → μ' i = some g) : BlkOK μ' S w id b := by
 cases b with
 | cells e s rows =>
  rcases h with ⟨rfl, h2⟩ | ⟨g, c, h1, h2, h3, h4, h5⟩
  ·exact .inl ⟨rfl, he.trans h2⟩
  ·exact .inr ⟨g, c, he.trans h1, h2, h3, h4, fun i row hi j x hx => (h5 i row hi j x hx).less (fun k hk => hm k (List.mem_flatMap.2 ⟨row, List.mem_of_getElem? hi, refsL_mem hx hk⟩))⟩
 | map kvs =>
  obtain ⟨g, es, clk, vals, h1, h2, h3, h4⟩ := h
  exact ⟨g, es, clk, vals, he.trans h1, h2, h3, h4⟩
 | iter kvs seen =>
  obtain ⟨g, es, clk, vals, had, h1, h2, h4⟩ := h
  exact ⟨g, es, clk, vals, had, he.trans h1, h2, h4⟩
 | cap id' s N =>
  obtain ⟨h1, g, e, h2, h3⟩ := h
  exact ⟨he.trans h1, g, e, hm id' (by simp) g h2, h3⟩
 | pin id' g t n =>
  obtain ⟨h1, h2, h3⟩ := h
  exact ⟨he.trans h1, hm id' (by simp) g h2, h3⟩
def sub (ids : List Nat) : List (Nat × Blk) → List (Nat × Blk)
 | [] => []
 | p :: r => if ids.contains p.1 then p :: sub ids r else sub ids r
def del (ids : List Nat) : List (Nat × Blk) → List (Nat × Blk)
 | [] => []
 | p :: r => if ids.contains p.1 then del ids r else p :: del ids r
theorem hget_sub (ids : List Nat) (id : Nat) : ∀ H, hget (sub ids H) id = if ids.contains id = true then hget H id else none
 | [] => by simp [sub, hget]
 | (i, b) :: r => by
  have ih := hget_sub ids id r
  unfold sub
  by_cases e : i = id
  ·subst e
   by_cases h : ids.contains i = true
   ·rw [if_pos h, if_pos h]; simp only [hget, if_true]
   ·rw [if_neg h, if_neg h, ih, if_neg h]
  ·by_cases h : ids.contains i = true
   ·rw [if_pos h]; simp only [hget, if_neg e]; exact ih
   ·rw [if_neg h]; simp only [hget, if_neg e]; exact ih
theorem hget_del (ids : List Nat) (id : Nat) : ∀ H, hget (del ids H) id = if ids.contains id = true then none else hget H id
 | [] => by simp [del, hget]
 | (i, b) :: r => by
  have ih := hget_del ids id r
  unfold del
  by_cases e : i = id
  ·subst e
   by_cases h : ids.contains i = true
   ·rw [if_pos h, ih, if_pos h, if_pos h]
   ·rw [if_neg h, if_neg h]; simp only [hget, if_true]
  ·by_cases h : ids.contains i = true
   ·rw [if_pos h]; simp only [hget, if_neg e]; exact ih
   ·rw [if_neg h]; simp only [hget, if_neg e]; exact ih
theorem hget_renH (off id : Nat) : ∀ H, hget (renH off H) id = if off ≤ id then (hget H (id - off)).map (renB off) else none
 | [] => by simp [renH, hget]
 | (i, b) :: r => by
  have ih := hget_renH off id r
  simp only [renH, List.map_cons, hget] at ih ⊢
  by_cases h : i + off = id
  ·subst h
   simp
  ·rw [if_neg h, ih]
   by_cases h2 : off ≤ id
   ·rw [if_pos h2, if_pos h2, if_neg (by omega)]
   ·rw [if_neg h2, if_neg h2]
def killL (ids : List Nat) (x : AV) : AV := if (refs x).any ids.contains then .any else x
def closed (K : List (Nat × Blk)) (xs : List Nat) : Bool := xs.all (fun i => (hget K i).isSome) && K.all fun p => (refsB p.2).all fun i => (hget K i).isSome
theorem hget_mem : ∀ {H : List (Nat × Blk)} {id : Nat} {b : Blk}, hget H id = some b → (id, b) ∈ H
 | (i, c) :: r, id, b, h => by
  simp only [hget] at h
  split at h
  ·rename_i e; subst e; injection h with h; subst h; simp
  ·exact List.mem_cons_of_mem _ (hget_mem h)
theorem trip_callG {o : Oper} {c : Operand} {args : Array Operand} {ats : Array TypeId} (ho : o.op = .call { callee := .value c, args, argTypes := ats }) {p : Prop} {f : FuncId} {xs : List AV}
  (h : callArgs σ c args.toList = some (p, f, xs)) (hp : p) (hc : Callable P f) (ids : List Nat) (off : Nat) {H K : List (Nat × Blk)} {r : AV} (hH : sub ids σ.hp = H)
  (hck : (refsL xs).all ids.contains = true) (hc1 : (H.all fun p => (refsB p.2).all ids.contains) = true) (hc2 : ((del ids σ.hp).all fun p => (refsB p.2).all fun i => !ids.contains i) = true)
  (hc3 : closed K (refs r) = true) (hc4 : (K.all fun p => (hget σ.hp (p.1 + off)).isNone) = true)
  (hf : FnOK P f xs H fun r' H' => r' = r ∧ ∀ id b, hget K id = some b → hget H' id = some b) {τ : St} (hτ : (⟨σ.tm.map (killL ids), renH off K ++ del ids σ.hp⟩ : St).put o.dst (ren off r) = τ) : Trip P C o σ τ := by
 subst hH hτ
 intro a w Kp Q ⟨μ, S, hi⟩ hKp
 obtain ⟨vs, h1, h2, h3⟩ := exec_call hi ho h hp hc
 unfold Oper.wp
 rw [h3]
 let μc : Nat → Option Nat := fun i => if ids.contains i then μ i else none
 have mc : ∀ {i g}, μc i = some g → ids.contains i = true ∧ μ i = some g := fun {i g} h => by
  simp only [μc] at h; split at h
  ·exact ⟨by assumption, h⟩
  ·cases h
 have mc' : ∀ {i}, ids.contains i = true → μc i = μ i := fun {i} h => by simp only [μc, h, if_true]
 rw [Bool.eq_iff_iff] at hck
 have hck := fun i hi => List.all_eq_true.1 (hck.2 rfl) i hi
 refine (hf S μc w vs h1 (fun j x hj => (h2 j x hj).less fun id hid g hg => by rw [mc' (hck id (refsL_mem hj hid))]; exact hg) ⟨fun id b hb => ?_, fun id g hg => ?_, fun id id' g hg hg' => hi.inj id id' g (mc hg).2 (mc hg').2, hi.gok.sub fun i g h => ⟨i, (mc h).2⟩⟩ (fun b hb => (hi.sb b hb).1)).mono ?_
 ·have hb' := hb
  rw [hget_sub] at hb
  split at hb
  ·rename_i hid
   have hall := List.all_eq_true.1 hc1 _ (hget_mem hb')
   exact (hi.hp id b hb).less (mc' hid) (fun i hi' g hg => by rw [mc' (List.all_eq_true.1 hall i hi')]; exact hg)
  ·cases hb
 ·obtain ⟨k1, k2⟩ := mc hg
  obtain ⟨⟨b, j1⟩, _, j3⟩ := hi.dom id g k2
  exact ⟨⟨b, by rw [hget_sub, if_pos k1]; exact j1⟩, j3⟩
 rintro e w' ⟨v, r', H', μ', S', rfl, ⟨rfl, hKH⟩, k1, k2, k3, k4, k5⟩
 simp only [closed, Bool.and_eq_true] at hc3
 obtain ⟨hr, hcl⟩ := hc3
 have hr : ∀ i, i ∈ refs r' → ∃ b, hget K i = some b := fun i hi => Option.isSome_iff_exists.1 (List.all_eq_true.1 hr i hi)
 have hcl : ∀ i b, hget K i = some b → ∀ j, j ∈ refsB b → ∃ c, hget K j = some c := fun i b hb j hj => Option.isSome_iff_exists.1 (List.all_eq_true.1 (List.all_eq_true.1 hcl _ (hget_mem hb)) j hj)
 have hfree : ∀ i b, hget K i = some b → hget σ.hp (i + off) = none := fun i b hb => by
  have := List.all_eq_true.1 hc4 _ (hget_mem hb)
  simpa using this
 let μ2 : Nat → Option Nat := fun i => if off ≤ i ∧ (hget K (i - off)).isSome = true then μ' (i - off) else if ids.contains i then none else μ i
 have m2K : ∀ {i b}, hget K i = some b → μ2 (i + off) = μ' i := fun {i b} hb => by
  simp only [μ2]; rw [if_pos ⟨by omega, by rw [Nat.add_sub_cancel, hb]; rfl⟩, Nat.add_sub_cancel]
 have m2o : ∀ {i b}, hget σ.hp i = some b → ids.contains i = false → μ2 i = μ i := fun {i b} hb hn => by
  simp only [μ2]
  rw [if_neg (by
   rintro ⟨q1, q2⟩
   obtain ⟨b', q3⟩ := Option.isSome_iff_exists.1 q2
   have := hfree _ _ q3
   rw [Nat.sub_add_cancel q1, hb] at this
   cases this), hn]
  rfl
 have m2 : ∀ {i g}, μ2 i = some g → (∃ j b, i = j + off ∧ hget K j = some b ∧ μ' j = some g) ∨ (ids.contains i = false ∧ μ i = some g ∧ ∃ b, hget σ.hp i = some b) := fun {i g} hg => by
  simp only [μ2] at hg
  split at hg
  ·rename_i q
   obtain ⟨b, q3⟩ := Option.isSome_iff_exists.1 q.2
   exact .inl ⟨i - off, b, by omega, q3, hg⟩
  ·split at hg
   ·cases hg
   ·rename_i q
    exact .inr ⟨by simpa using q, hg, (hi.dom i g hg).1⟩
 have hfr : Frm (fun g => ∃ id, μc id = some g) w w' := k3
 have hS : SameOn S w w' := fun b hb => hfr.block b (hi.sb b hb).1 (by rintro ⟨id, h⟩; exact (hi.dom id b (mc h).2).2.2.1 hb)
 have hO : ∀ i g, μ i = some g → ids.contains i = false → w'.heap[g]? = w.heap[g]? := fun i g hg hn => hfr.block g (hi.dom i g hg).2.2.2 (by
  rintro ⟨id, h⟩
  obtain ⟨q1, q2⟩ := mc h
  have := hi.inj _ _ _ hg q2
  subst this
  rw [q1] at hn; cases hn)
 let S2 : Nat → Prop := fun b => S b ∨ S' b
 -- a value of ours that names nothing of 'ids'
 have rdO : ∀ {v x}, Rd μ S w v x → (∀ i, i ∈ refs x → ids.contains i = false) → Rd μ2 S2 w' v x := fun {v x} hv hn => by
  have h1 : Rd (fun i => if ids.contains i then none else μ i) S w v x := hv.less (fun i hi g hg => by rw [hn i hi]; exact hg)
  refine h1.mono hS (fun _ h => .inl h) (fun i g hg => ?_) (fun i g hg => ?_)
  ·split at hg
   ·cases hg
   ·rename_i q
    have q : ids.contains i = false := by simpa using q
    obtain ⟨⟨b, hb⟩, _⟩ := hi.dom i g hg
    rw [m2o hb q]; exact hg
  ·split at hg
   ·cases hg
   ·rename_i q
    exact rowSize_same (hO i g hg (by simpa using q))
 have inv : Inv C μ2 S2 ⟨σ.tm.map (killL ids), renH off K ++ del ids σ.hp⟩ a w' := by
  refine ⟨by simp [hi.size], hi.defers, fun t x hx => ?_, fun id b hb => ?_, fun i g hg => ?_, fun i j g hg hg' => ?_, hi.frm.step _ hfr (fun g ⟨id, h⟩ => (hi.dom id g (mc h).2).2.1), fun b hb => ?_⟩
  ·simp only [List.getElem?_map] at hx
   cases e : σ.tm[t]? with
   | none => rw [e] at hx; cases hx
   | some y =>
    rw [e] at hx
    simp only [Option.map_some, Option.some.injEq] at hx
    subst hx
    unfold killL
    split
    ·exact .any _
    ·rename_i q
     refine rdO (hi.tm t y e) (fun i hi' => ?_)
     simp only [List.any_eq_true, not_exists, not_and] at q
     simpa using q i hi'
  ·simp only at hb
   rw [hget_append] at hb
   split at hb
   ·rw [hget_renH] at hb
    split at hb
    ·rename_i q
     cases e : hget K (id - off) with
     | none => rw [e] at hb; cases hb
     | some b0 =>
      rw [e] at hb
      simp only [Option.map_some, Option.some.injEq] at hb
      subst hb
      obtain ⟨j, rfl⟩ : ∃ j, id = j + off := ⟨id - off, by omega⟩
      rw [Nat.add_sub_cancel] at e
      have := (k2.blk j b0 (hKH j b0 e)).ren off (μ' := μ2) (fun h => by rw [m2K e]; exact h) (fun g h => by rw [m2K e]; exact h) (fun i hi' g hg => by
       obtain ⟨c, hc'⟩ := hcl j b0 e i hi'
       rw [m2K hc']; exact hg)
      exact this.mono (SameOn.refl _ _) (fun _ h => .inr h) (fun _ _ h => h) (fun _ _ _ => rfl) (fun h => h) (fun _ _ => rfl)
    ·cases hb
   ·rename_i hnK
    rw [hget_del] at hb
    split at hb
    ·cases hb
    ·rename_i q
     have q : ids.contains id = false := by simpa using q
     have hall := List.all_eq_true.1 hc2 (id, b) (hget_mem (by rw [hget_del, if_neg (by rw [q]; simp)]; exact hb))
     have h1 := (hi.hp id b hb).less (μ' := fun i => if ids.contains i then none else μ i) (by rw [q]; rfl) (fun i hi' g hg => by
      have := List.all_eq_true.1 hall i hi'
      rw [if_neg (by simpa using this)]; exact hg)
     refine h1.mono hS (fun _ h => .inl h) (fun i g hg => ?_) (fun i g hg => ?_) (fun hn => ?_) (fun g hg => ?_)
     ·split at hg
      ·cases hg
      ·rename_i q'
       obtain ⟨⟨b', hb'⟩, _⟩ := hi.dom i g hg
       rw [m2o hb' (by simpa using q')]; exact hg
     ·split at hg
      ·cases hg
      ·rename_i q'
       exact rowSize_same (hO i g hg (by simpa using q'))
     ·rw [m2o hb q]; rw [q] at hn; exact hn
     ·rw [q] at hg
      exact hO id g hg q
  ·rcases m2 hg with ⟨j, b, rfl, q1, q2⟩ | ⟨q1, q2, b, q3⟩
   ·obtain ⟨_, q4, q5⟩ := k2.dom j g q2
    refine ⟨⟨renB off b, ?_⟩, ?_, ?_, q5⟩
    ·have e : hget (renH off K) (j + off) = some (renB off b) := by rw [hget_renH, if_pos (by omega), Nat.add_sub_cancel, q1]; rfl
     rw [hget_append, if_pos ⟨_, hget_mem e, rfl⟩, e]
    ·rcases k4 j g q2 with ⟨i, hi'⟩ | h
     ·exact (hi.dom i g (mc hi').2).2.1
     ·have := hi.frm.size
      exact .inr (by omega)
    ·rintro (h | h)
     ·rcases k4 j g q2 with ⟨i, hi'⟩ | h'
      ·exact (hi.dom i g (mc hi').2).2.2.1 h
      ·have := (hi.sb g h).1; omega
     ·exact q4 h
   ·obtain ⟨_, q4, q5, q6⟩ := hi.dom i g q2
    refine ⟨⟨b, ?_⟩, q4, ?_, Nat.lt_of_lt_of_le q6 hfr.size⟩
    ·rw [hget_append, if_neg, hget_del, if_neg (by rw [q1]; simp)]
     ·exact q3
     ·rintro ⟨⟨i', b'⟩, hm, rfl⟩
      obtain ⟨⟨j, c'⟩, hm', e⟩ := List.mem_map.1 hm
      simp only [Prod.mk.injEq] at e
      have := List.all_eq_true.1 hc4 _ hm'
      simp only at this
      rw [e.1] at this
      simp only at q3
      rw [q3] at this
      cases this
    ·rintro (h | h)
     ·exact q5 h
     ·rcases (k5 g h).2 with h | ⟨i', h⟩ | h
      ·exact q5 h
      ·obtain ⟨q7, q8⟩ := mc h
       have := hi.inj _ _ _ q2 q8
       subst this
       rw [q7] at q1; cases q1
      ·omega
  ·rcases m2 hg with ⟨i1, b1, rfl, p1, p2⟩ | ⟨p1, p2, b1, p3⟩ <;> rcases m2 hg' with ⟨j1, c1, rfl, q1, q2⟩ | ⟨q1, q2, c1, q3⟩
   ·rw [k2.inj _ _ _ p2 q2]
   ·rcases k4 i1 g p2 with ⟨i', h⟩ | h
    ·obtain ⟨q7, q8⟩ := mc h
     have := hi.inj _ _ _ q2 q8
     subst this
     rw [q7] at q1; cases q1
    ·have := (hi.dom _ _ q2).2.2.2; omega
   ·rcases k4 j1 g q2 with ⟨i', h⟩ | h
    ·obtain ⟨q7, q8⟩ := mc h
     have := hi.inj _ _ _ p2 q8
     subst this
     rw [q7] at p1; cases p1
    ·have := (hi.dom _ _ p2).2.2.2; omega
   ·exact hi.inj _ _ _ p2 q2
  ·rcases hb with h | h
   ·exact ⟨Nat.lt_of_lt_of_le (hi.sb b h).1 hfr.size, (hi.sb b h).2⟩
   ·refine ⟨(k5 b h).1, ?_⟩
    rcases (k5 b h).2 with h | ⟨i', h⟩ | h
    ·exact (hi.sb b h).2
    ·rcases (hi.dom _ _ (mc h).2).2.1 with h | h
     ·exact .inr (.inl h)
     ·exact .inr (.inr h)
    ·have := hi.frm.size
     exact .inr (.inr (by omega))
 exact hKp _ _ ⟨μ2, S2, inv.put o.dst ((k1.ren off (fun i hi' g hg => by
  obtain ⟨b, hb⟩ := hr i hi'
  rw [m2K hb]; exact hg)).mono (SameOn.refl _ _) (fun _ h => .inr h) (fun _ _ h => h) (fun _ _ _ => rfl))⟩
end
end Go.Eng
namespace Go.Eng
section
variable {P : Program} {T : Tab} {C : Ctx} {σ σ' : St} {Ret : St → Prop} {k : List It}
theorem cw_nileq (hT : TabOK P T) {all : Array Oper} {o : Oper} {l : List Oper} {t : TypeId} {x y : Operand} {ty e : TypeId} {rows : List (List AV)} (ho : o.op = .binOp .eql t x y ty) (hg : o.guard = none) (ht : T.und t = .sl e)
  (hx : evS σ x = (True, .sl rows)) (hy : evS σ y = (True, .nils)) (h : ∀ b, (b = true → rows = []) → Cw P C Ret (.ops all l :: k) (σ.put o.dst (.bool b))) : Cw P C Ret (.ops all (o :: l) :: k) σ := by
 intro a w ⟨μ, S, hi⟩
 have hv := hi.evS x (by rw [hx]; trivial)
 have hu := hi.evS y (by rw [hy]; trivial)
 rw [hx] at hv; rw [hy] at hu
 obtain ⟨A, cap, size, g, off, vals, e1, hc, hs', hA, hcell, hr⟩ := hv.inv_sl.inv_sl
 have e2 := hu.inv_nils
 have hty : P.underlying t = some (.slice e) := by have := hT.und t; rw [ht] at this; exact this
 show wpList P all _ (o :: l) a w
 unfold wpList
 rw [wanted_of hi (show guardOf all σ o.guard = some true from by rw [hg]; rfl)]
 refine .inl ?_
 unfold Oper.wp
 have hrun : (execOp a.eval o).run P w = .ok (.value (.bool A.isNone)) w := by
  simp only [execOp, ho, e1, e2, eqGuard_at_slice, pure_bind, Sem.run_bind, Lib.run_eql_slice_nil w t e A rows.length cap 0 0 hty, Result.andThen_ok]
  rfl
 rw [hrun]
 refine h A.isNone (fun hb => ?_) _ _ ⟨μ, S, hi.put o.dst (.pure (.bool _))⟩
 rcases Nat.eq_zero_or_pos rows.length with h0 | h0
 ·exact List.eq_nil_of_length_eq_zero h0
 ·rw [(hA h0).1] at hb; cases hb
def wk (x y : AV) : Prop := y = .any ∨ x = y ∨ (x = .nils ∧ (y = .sl [] ∨ ∃ id s off, y = .osl id s off 0))
theorem Rd.wk {μ : Nat → Option Nat} {S : Nat → Prop} {w : World} {v : Value} {x y : AV} (h : Rd μ S w v x) (hw : wk x y) : Rd μ S w v y := by
 rcases hw with rfl | rfl | ⟨rfl, rfl | ⟨id, s, off, rfl⟩⟩
 ·exact .any v
 ·exact h
 ·obtain rfl := h.inv_nils
  exact .pure (.sl none 0 0 [] 0 0 0 (fun _ _ => undef) rfl (Nat.le_refl _) (fun row h => by cases h) (fun h => by omega) (fun i j h => by omega) (fun i row h => by simp at h))
 ·obtain rfl := h.inv_nils
  exact .osl id s off 0 0 none (Nat.le_refl _) (.inl ⟨rfl, rfl⟩)
theorem FnOK.wk {f : FuncId} {args : List AV} {H : List (Nat × Blk)} {post : AV → List (Nat × Blk) → Prop} (h : FnOK P f args H fun r H' => ∃ r', wk r r' ∧ post r' H') : FnOK P f args H post :=
 fun R0 μ w0 vs hl ha hH hR => (h R0 μ w0 vs hl ha hH hR).mono fun _ _ ⟨v, _, H', μ', S', h1, ⟨r', h2, h3⟩, h4, h5⟩ => ⟨v, r', H', μ', S', h1, h3, h4.wk h2, h5⟩
theorem ZF (hT : TabOK P T) {f : FuncId} {fn : Func} {c : Code} {args : List AV} {H : List (Nat × Blk)} {post : AV → List (Nat × Blk) → Prop}
  (hf : P.funcs[f]? = some fn) (hb : fn.body = some c)
  (h : ∀ C : Ctx, Cw P C (fun s => ∃ p r, resAV T s fn.results.toList = some (p, r) ∧ p ∧ ∃ r', Eng.wk r r' ∧ post r' s.hp) [.code c] ⟨args ++ List.replicate (fn.ntmps - args.length) .any, H⟩) : FnOK P f args H post :=
 .wk (fn_of_cw hT hf hb h)
def leWk : List AV → List AV → Prop
 | [], [] => True
 | x :: l, y :: m => wk x y ∧ leWk l m
 | _, _ => False
theorem leWk_get : ∀ {l m : List AV}, leWk l m → l.length = m.length ∧ ∀ (t : Nat) y, m[t]? = some y → ∃ x, l[t]? = some x ∧ wk x y
 | [], [], _ => ⟨rfl, fun t y h => by simp at h⟩
 | x :: l, y :: m, h => by
  obtain ⟨h1, h2⟩ := leWk_get h.2
  refine ⟨by simp [h1], fun t z hz => ?_⟩
  cases t with
  | zero =>
   simp only [List.getElem?_cons_zero, Option.some.injEq] at hz
   subst hz
   exact ⟨x, rfl, h.1⟩
  | succ t => simpa using h2 t z (by simpa using hz)
 | [], _ :: _, h => h.elim
 | _ :: _, [], h => h.elim
def emptyB : Blk → Prop
 | .cells _ _ rows => rows = []
 | .map _ => False
 | .iter .. => False
 | .cap .. => False
 | .pin .. => False
def subH (H : List (Nat × Blk)) : List (Nat × Blk) → Prop
 | [] => True
 | (i, b) :: r => (hget H i = some b ∨ (hget H i = none ∧ emptyB b)) ∧ subH H r
theorem subH_get {H : List (Nat × Blk)} : ∀ {K : List (Nat × Blk)} {i : Nat} {b : Blk}, subH H K → hget K i = some b → hget H i = some b ∨ (hget H i = none ∧ emptyB b)
 | (j, c) :: r, i, b, h, hb => by
  simp only [hget] at hb
  split at hb
  ·rename_i e; subst e; injection hb with hb; subst hb; exact h.1
  ·exact subH_get h.2 hb
theorem ZU {l m : List AV} {H K : List (Nat × Blk)} (h : leWk l m) (hK : subH H K) (hc : closed K (refsL m) = true) : Le C ⟨l, H⟩ ⟨m, K⟩ := by
 intro a w ⟨μ, S, hi⟩
 obtain ⟨h1, h2⟩ := leWk_get h
 simp only [closed, Bool.and_eq_true] at hc
 have hr : ∀ i, i ∈ refsL m → (hget K i).isSome = true := fun i hi => List.all_eq_true.1 hc.1 i hi
 have hcl : ∀ i b, hget K i = some b → ∀ j, j ∈ refsB b → (hget K j).isSome = true := fun i b hb j hj => List.all_eq_true.1 (List.all_eq_true.1 hc.2 _ (hget_mem hb)) j hj
 let μ2 : Nat → Option Nat := fun i => if (hget K i).isSome = true then μ i else none
 have m2 : ∀ {i g}, μ2 i = some g → μ i = some g ∧ (hget K i).isSome = true := fun {i g} hg => by
  simp only [μ2] at hg; split at hg
  ·exact ⟨hg, by assumption⟩
  ·cases hg
 refine ⟨μ2, S, by rw [hi.size]; exact h1, hi.defers, fun t y hy => ?_, fun i b hb => ?_, fun i g hg => ?_, fun i j g hg hg' => hi.inj i j g (m2 hg).1 (m2 hg').1, hi.frm, hi.sb⟩
 ·obtain ⟨x, hx, hw⟩ := h2 t y hy
  refine ((hi.tm t x hx).wk hw).less fun i hi' g hg => ?_
  simp only [μ2]; rw [if_pos (hr i (refsL_mem hy hi'))]; exact hg
 ·rcases subH_get hK hb with h | ⟨h, he⟩
  ·refine (hi.hp i b h).less (by simp only [μ2]; rw [hb]; rfl) fun j hj g hg => ?_
   simp only [μ2]; rw [if_pos (hcl i b hb j hj)]; exact hg
  ·cases b with
   | cells e s rows =>
    refine .inl ⟨he, ?_⟩
    simp only [μ2]; rw [hb]
    cases e : μ i with
    | none => rfl
    | some g =>
     obtain ⟨⟨c, h'⟩, _⟩ := hi.dom i g e
     simp only at h'
     rw [h] at h'; cases h'
   | map kvs => exact he.elim
   | iter kvs seen => exact he.elim
   | cap id' s N => exact he.elim
   | pin id' g' t n => exact he.elim
 ·obtain ⟨k1, k2⟩ := m2 hg
  obtain ⟨_, k3⟩ := hi.dom i g k1
  exact ⟨Option.isSome_iff_exists.1 k2, k3⟩
mutual
def frz (id s : Nat) (rows : List (List AV)) : AV → AV
 | .osl i s' off len => if i = id then (if s' = s ∧ off + len ≤ rows.length then .sl ((rows.drop off).take len) else .any) else .osl i s' off len
 | .ptr i s' row off => if i = id then (if s' = s ∧ row < rows.length then .rp (rows.getD row []) off else .any) else .ptr i s' row off
 | .mp i => if i = id then .any else .mp i
 | .exs i s' o n c => if i = id then .any else .exs i s' o n c
 | .agg cells => .agg (frzL id s rows cells)
 | .tup vs => .tup (frzL id s rows vs)
 | .fn f caps => .fn f (frzL id s rows caps)
 | .cnd c v => .cnd c (frz id s rows v)
 | x => x
def frzL (id s : Nat) (rows : List (List AV)) : List AV → List AV
 | [] => []
 | x :: r => frz id s rows x :: frzL id s rows r
end
theorem frzL_map (id s : Nat) (rows : List (List AV)) : ∀ l, frzL id s rows l = l.map (frz id s rows)
 | [] => rfl
 | x :: r => by simp [frzL, frzL_map id s rows r]
def frzH (id s : Nat) (rows : List (List AV)) : List (Nat × Blk) → List (Nat × Blk)
 | [] => []
 | (i, .cells e z R) :: r => if i = id then frzH id s rows r else (i, .cells e z (R.map (frzL id s rows))) :: frzH id s rows r
 | (i, .map kvs) :: r => if i = id then frzH id s rows r else (i, .map kvs) :: frzH id s rows r
 | (i, .iter kvs seen) :: r => if i = id then frzH id s rows r else (i, .iter kvs seen) :: frzH id s rows r
 | (i, .cap j z N) :: r => if i = id then frzH id s rows r else (i, if j = id then .cells 0 0 [] else .cap j z N) :: frzH id s rows r
 | (i, .pin j g z N) :: r => if i = id then frzH id s rows r else (i, if j = id then .cells 0 0 [] else .pin j g z N) :: frzH id s rows r
def frzB (id s : Nat) (rows : List (List AV)) : Blk → Blk
 | .cells e z R => .cells e z (R.map (frzL id s rows))
 | .map kvs => .map kvs
 | .iter kvs seen => .iter kvs seen
 | .cap j z N => if j = id then .cells 0 0 [] else .cap j z N
 | .pin j g z N => if j = id then .cells 0 0 [] else .pin j g z N
theorem hget_frzH (id s : Nat) (rows : List (List AV)) (i : Nat) : ∀ H, hget (frzH id s rows H) i = if i = id then none else (hget H i).map (frzB id s rows)
 | [] => by simp [frzH, hget]
 | (j, .cells e z R) :: r => by
  have ih := hget_frzH id s rows i r
  unfold frzH
  by_cases h : j = id
  ·subst h
   rw [if_pos rfl, ih]
   by_cases h2 : i = j
   ·rw [if_pos h2, if_pos h2]
   ·rw [if_neg h2, if_neg h2]; simp only [hget]; rw [if_neg (fun h => h2 h.symm)]
  ·rw [if_neg h]
   simp only [hget]
   by_cases h2 : j = i
   ·subst h2; rw [if_pos rfl, if_neg h, if_pos rfl]; rfl
   ·rw [if_neg h2, if_neg h2]; exact ih
 | (j, .map kvs) :: r => by
  have ih := hget_frzH id s rows i r
  unfold frzH
  by_cases h : j = id
  ·subst h
   rw [if_pos rfl, ih]
   by_cases h2 : i = j
   ·rw [if_pos h2, if_pos h2]
   ·rw [if_neg h2, if_neg h2]; simp only [hget]; rw [if_neg (fun h => h2 h.symm)]
  ·rw [if_neg h]
   simp only [hget]
   by_cases h2 : j = i
   ·subst h2; rw [if_pos rfl, if_neg h, if_pos rfl]; rfl
   ·rw [if_neg h2, if_neg h2]; exact ih
 | (j, .iter kvs seen) :: r => by
  have ih := hget_frzH id s rows i r
  unfold frzH
  by_cases h : j = id
  ·subst h
   rw [if_pos rfl, ih]
   by_cases h2 : i = j
   ·rw [if_pos h2, if_pos h2]
   ·rw [if_neg h2, if_neg h2]; simp only [hget]; rw [if_neg (fun h => h2 h.symm)]
  ·rw [if_neg h]
   simp only [hget]
   by_cases h2 : j = i
   ·subst h2; rw [if_pos rfl, if_neg h, if_pos rfl]; rfl
   ·rw [if_neg h2, if_neg h2]; exact ih
 | (j, .cap k z N) :: r => by
  have ih := hget_frzH id s rows i r
  unfold frzH
  by_cases h : j = id
  ·subst h
   rw [if_pos rfl, ih]
   by_cases h2 : i = j
   ·rw [if_pos h2, if_pos h2]
   ·rw [if_neg h2, if_neg h2]; simp only [hget]; rw [if_neg (fun h => h2 h.symm)]
  ·rw [if_neg h]
   simp only [hget]
   by_cases h2 : j = i
   ·subst h2; rw [if_pos rfl, if_neg h, if_pos rfl]; rfl
   ·rw [if_neg h2, if_neg h2]; exact ih
 | (j, .pin k q z N) :: r => by
  have ih := hget_frzH id s rows i r
  unfold frzH
  by_cases h : j = id
  ·subst h
   rw [if_pos rfl, ih]
   by_cases h2 : i = j
   ·rw [if_pos h2, if_pos h2]
   ·rw [if_neg h2, if_neg h2]; simp only [hget]; rw [if_neg (fun h => h2 h.symm)]
  ·rw [if_neg h]
   simp only [hget]
   by_cases h2 : j = i
   ·subst h2; rw [if_pos rfl, if_neg h, if_pos rfl]; rfl
   ·rw [if_neg h2, if_neg h2]; exact ih
theorem RdP.frz_eq {S : Nat → Prop} {w : World} {v : Value} {x : AV} (h : RdP S w v x) (id s : Nat) (rows : List (List AV)) : frz id s rows x = x := by
 have key : ∀ (l : List AV), (∀ (j : Nat) x, l[j]? = some x → frz id s rows x = x) → frzL id s rows l = l := by
  intro l
  induction l with
  | nil => intro _; rfl
  | cons y r ih =>
   intro h
   simp only [frzL]
   rw [h 0 y rfl, ih (fun j x hj => h (j + 1) x (by simpa using hj))]
 induction h with
 | fn f vals caps hl hr ih => simp only [frz]; rw [key caps ih]
 | agg cs cells hl hr ih => simp only [frz]; rw [key cells ih]
 | _ => rfl
theorem frz_list {id s : Nat} {rows : List (List AV)} {R' : Value → AV → Prop} {vals : Nat → Value} {cells : List AV} (h : ∀ j x, cells[j]? = some x → R' (vals j) (frz id s rows x)) :
  ∀ j x, (frzL id s rows cells)[j]? = some x → R' (vals j) x := by
 intro j x hx
 rw [frzL_map, List.getElem?_map] at hx
 cases e : cells[j]? with
 | none => rw [e] at hx; cases hx
 | some y =>
  rw [e] at hx; simp only [Option.map_some, Option.some.injEq] at hx; subst hx
  exact h j y e
theorem inv_freeze {l : List AV} {H : List (Nat × Blk)} {id e s : Nat} {rows : List (List AV)} (hb : hget H id = some (.cells e s rows)) (hp : (rows.all fun row => row.all AV.pureB) = true) {μ : Nat → Option Nat} {S : Nat → Prop} {a : Act} {w : World} (hi : Inv C μ S ⟨l, H⟩ a w) :
  Inv C (upd μ id none) (fun b => S b ∨ μ id = some b) ⟨l.map (frz id s rows), frzH id s rows H⟩ a w := by
 have hB := hi.hp id _ hb
 have hpure : ∀ (i : Nat) row, rows[i]? = some row → ∀ (j : Nat) x, row[j]? = some x → x.pureB = true := fun i row hi j x hj => List.all_eq_true.1 (List.all_eq_true.1 hp row (List.mem_of_getElem? hi)) x (List.mem_of_getElem? hj)
 let S2 : Nat → Prop := fun b => S b ∨ μ id = some b
 let μ2 : Nat → Option Nat := upd μ id none
 have hS : ∀ b, S b → S2 b := fun b h => .inl h
 have rd : ∀ {v : Value} {x : AV}, Rd μ S w v x → Rd μ2 S2 w v (frz id s rows x) := by
  intro v x h
  induction h with
  | any v => exact .any v
  | pure h => rw [h.frz_eq]; exact .pure (h.mono (SameOn.refl _ _) hS)
  | agg cs cells hl hr ih => simp only [frz]; exact .agg cs _ (by rw [frzL_map, List.length_map]; exact hl) (frz_list (R' := fun v x => Rd μ2 S2 w v x) (vals := fun j => cs.getD j undef) ih)
  | tup cs cells hl hr ih => simp only [frz]; exact .tup cs _ (by rw [frzL_map, List.length_map]; exact hl) (frz_list (R' := fun v x => Rd μ2 S2 w v x) (vals := fun j => cs.getD j undef) ih)
  | fn f vals cells hl hr ih => simp only [frz]; exact .fn f vals _ (by rw [frzL_map, List.length_map]; exact hl) (frz_list (R' := fun v x => Rd μ2 S2 w v x) (vals := fun j => vals.getD j undef) ih)
  | ptr i size row o g hg =>
   simp only [frz]
   split
   ·rename_i he
    subst he
    split
    ·rename_i hc
     obtain ⟨rfl, hrow⟩ := hc
     rcases hB with ⟨rfl, _⟩ | ⟨g', c, k1, k2, k3, k4, k5⟩
     ·simp at hrow
     ·rw [hg] at k1; injection k1 with k1; subst k1
      have hr := row_get hrow
      have hlen := k4 _ (List.mem_of_getElem? hr)
      have hlt := row_lt (size := size) hr
      refine .pure (.rp g (row * size) o _ (fun j => c.getD (row * size + j) undef) (.inr hg) (fun j hj => ?_) (fun j x hx => ?_))
      ·rw [cell_of k2, Array.getD_eq_getD_getElem?, Array.getElem?_eq_getElem (by omega)]; rfl
      ·exact ((k5 _ _ hr j x hx).toP (hpure _ _ hr _ _ hx)).mono (SameOn.refl _ _) hS
    ·exact .any _
   ·rename_i he
    exact .ptr i size row o g (by simp only [μ2, upd]; rw [if_neg he]; exact hg)
  | osl i size o len cap A hc h =>
   simp only [frz]
   split
   ·rename_i he
    subst he
    split
    ·rename_i hcond
     obtain ⟨rfl, hle⟩ := hcond
     have hl : ((rows.drop o).take len).length = len := by simp; omega
     rcases h with ⟨rfl, h2⟩ | ⟨g, e', n, h1, rfl, h3, h4⟩
     ·exact .pure (.sl A 0 cap _ size 0 0 (fun _ _ => undef) hl hc (fun row h => by simp at h) (fun h => by omega) (fun i j h => by omega) (fun i row h => by simp at h))
     ·rcases hB with ⟨_, k2⟩ | ⟨g', c, k1, k2, k3, k4, k5⟩
      ·rw [k2] at h1; cases h1
      ·rw [k1] at h1; injection h1 with h1; subst h1
       refine .pure (.sl _ len cap _ size g' (o * size) (fun i j => c.getD ((o + i) * size + j) undef) hl hc (fun row h => k4 row (List.mem_of_mem_drop (List.mem_of_mem_take h))) (fun _ => ⟨rfl, .inr k1⟩) (fun i' j hi' hj => ?_) (fun i' row h j x hx => ?_))
       ·have hlt : (o + i') * size + size ≤ rows.length * size := by
         have := Nat.mul_le_mul_right size (show o + i' + 1 ≤ rows.length by omega)
         rwa [Nat.succ_mul] at this
        rw [show o * size + (i' * size + j) = (o + i') * size + j from by rw [Nat.add_mul]; omega, cell_of k2, Array.getD_eq_getD_getElem?, Array.getElem?_eq_getElem (by omega)]
        rfl
       ·rw [List.getElem?_take] at h
        split at h
        ·rw [List.getElem?_drop] at h
         exact ((k5 _ row h j x hx).toP (hpure _ _ h _ _ hx)).mono (SameOn.refl _ _) hS
        ·cases h
    ·exact .any _
   ·rename_i he
    refine .osl i size o len cap A hc ?_
    rcases h with h | ⟨g, e', n, h1, h2, h3, h4⟩
    ·exact .inl h
    ·exact .inr ⟨g, e', n, by simp only [μ2, upd]; rw [if_neg he]; exact h1, h2, h3, h4⟩
  | mp i g hg =>
   simp only [frz]
   split
   ·exact .any _
   ·rename_i he
    exact .mp i g (by simp only [μ2, upd]; rw [if_neg he]; exact hg)
  | exs i size o len cap g e n hc hg hr hn =>
   simp only [frz]
   split
   ·exact .any _
   ·rename_i he
    exact .exs i size o len cap g e n hc (by simp only [μ2, upd]; rw [if_neg he]; exact hg) hr hn
  | cndT v x h ih => exact .cndT v _ ih
  | cndF x => exact .cndF _
 have m2 : ∀ {i g}, μ2 i = some g → i ≠ id ∧ μ i = some g := fun {i g} hg => by
  simp only [μ2, upd] at hg
  split at hg
  ·cases hg
  ·exact ⟨by assumption, hg⟩
 refine ⟨by simp [hi.size], hi.defers, fun t x hx => ?_, fun i b hb' => ?_, fun i g hg => ?_, fun i j g h1 h2 => hi.inj i j g (m2 h1).2 (m2 h2).2, hi.frm, fun b hb' => ?_⟩
 ·simp only [List.getElem?_map] at hx
  cases e : l[t]? with
  | none => rw [e] at hx; cases hx
  | some y =>
   rw [e] at hx
   simp only [Option.map_some, Option.some.injEq] at hx
   subst hx
   exact rd (hi.tm t y e)
 ·simp only at hb'
  rw [hget_frzH] at hb'
  split at hb'
  ·cases hb'
  ·rename_i he
   cases e1 : hget H i with
   | none => rw [e1] at hb'; cases hb'
   | some b0 =>
    rw [e1] at hb'
    simp only [Option.map_some, Option.some.injEq] at hb'
    subst hb'
    have hμ : μ2 i = μ i := by simp only [μ2, upd]; rw [if_neg he]
    have := hi.hp i b0 e1
    cases b0 with
    | cells e' z R =>
     rcases this with ⟨rfl, h2⟩ | ⟨g, c, h1, h2, h3, h4, h5⟩
     ·exact .inl ⟨rfl, hμ.trans h2⟩
     ·refine .inr ⟨g, c, hμ.trans h1, h2, by simpa using h3, fun row hrow => ?_, fun i' row hi' j x hx => ?_⟩
      ·obtain ⟨r, hr, rfl⟩ := List.mem_map.1 hrow
       rw [frzL_map, List.length_map]; exact h4 r hr
      ·rw [List.getElem?_map] at hi'
       cases e2 : R[i']? with
       | none => rw [e2] at hi'; cases hi'
       | some r =>
        rw [e2] at hi'; simp only [Option.map_some, Option.some.injEq] at hi'; subst hi'
        exact frz_list (R' := fun v x => Rd μ2 S2 w v x) (vals := fun j => c.getD (i' * z + j) undef) (fun j x hx => rd (h5 i' r e2 j x hx)) j x hx
    | map kvs =>
     obtain ⟨g, es, clk, vals, h1, h2, h3, h4⟩ := this
     exact ⟨g, es, clk, vals, hμ.trans h1, h2, h3, fun p hp' => (h4 p hp').mono (SameOn.refl _ _) hS⟩
    | iter kvs seen =>
     obtain ⟨g, es, clk, vals, had, h1, h2, h4⟩ := this
     obtain ⟨m, k1, k2, k3⟩ := h2.lies
     exact ⟨g, es, clk, vals, had, hμ.trans h1, ⟨⟨m, k1, hS _ k2, k3⟩, h2.map, h2.last, h2.had⟩, fun p hp' => (h4 p hp').mono (SameOn.refl _ _) hS⟩
    | cap k z N =>
     obtain ⟨h1, g, e, h2, h3⟩ := this
     simp only [frzB]
     split
     ·exact .inl ⟨rfl, hμ.trans h1⟩
     ·rename_i hk
      refine ⟨hμ.trans h1, g, e, ?_, h3⟩
      simp only [upd]
      rw [if_neg hk]; exact h2
    | pin k g z N =>
     obtain ⟨h1, h2, h3⟩ := this
     simp only [frzB]
     split
     ·exact .inl ⟨rfl, hμ.trans h1⟩
     ·rename_i hk
      refine ⟨hμ.trans h1, ?_, h3⟩
      simp only [upd]
      rw [if_neg hk]; exact h2
 ·obtain ⟨k1, k2⟩ := m2 hg
  obtain ⟨⟨b, h1⟩, h2, h3, h4⟩ := hi.dom i g k2
  refine ⟨⟨frzB id s rows b, ?_⟩, h2, ?_, h4⟩
  ·simp only at h1 ⊢
   rw [hget_frzH, if_neg k1, h1]; rfl
  ·rintro (h | h)
   ·exact h3 h
   ·exact k1 (hi.inj _ _ _ k2 h)
 ·rcases hb' with h | h
  ·exact hi.sb b h
  ·obtain ⟨_, h2, _, h4⟩ := hi.dom id b h
   exact ⟨h4, .inr h2⟩
theorem le_freeze {l : List AV} {H : List (Nat × Blk)} {id e s : Nat} {rows : List (List AV)} (hb : hget H id = some (.cells e s rows)) (hp : (rows.all fun row => row.all AV.pureB) = true) :
  Le C ⟨l, H⟩ ⟨l.map (frz id s rows), frzH id s rows H⟩ := fun _ _ ⟨_, _, hi⟩ => ⟨_, _, inv_freeze hb hp hi⟩
theorem ZZ {l : List AV} {H : List (Nat × Blk)} (id : Nat) {e s : Nat} {rows : List (List AV)} (hb : hget H id = some (.cells e s rows)) (hp : (rows.all fun row => row.all AV.pureB) = true)
  (h : Cw P C Ret k ⟨l.map (frz id s rows), frzH id s rows H⟩) : Cw P C Ret k ⟨l, H⟩ := cw_le (le_freeze hb hp) h
end
end Go.Eng
namespace Go.Eng
section
variable {P : Program} {T : Tab} {C : Ctx} {σ σ' s : St} {Ret : St → Prop}
theorem callArgs_agree {c : Operand} {args : List Operand} (h : ∀ x, x ∈ locsO σ c ++ locsL σ args → AgreeAt σ s x) : callArgs s c args = callArgs σ c args := by
 unfold callArgs
 rw [evS_agree (fun x hx => h x (List.mem_append_left _ hx)), evSL_agree (fun x hx => h x (List.mem_append_right _ hx))]
def spCall (ops : Array Oper) (σ : St) (o : Oper) (c : Operand) (args : List Operand) (r : AV) : Sp := ⟨o.dst, r, [], locsG ops o.guard ++ (locsO σ c ++ locsL σ args)⟩
theorem spCall_app (ops : Array Oper) (σ : St) (o : Oper) (c : Operand) (args : List Operand) (r : AV) : (spCall ops σ o c args r).app σ = σ.put o.dst r := by simp [Sp.app, spCall]
theorem rob_trip {ops : Array Oper} {o : Oper} {x : AV} {rd : List Loc} {b : Bool} (hg : guardOf ops σ o.guard = some b) (hg0 : b = true ∨ ∃ y, x = .cnd false y)
  (h : b = true → ∀ s, (∀ l, l ∈ rd → AgreeAt σ s l) → Trip P C o s (s.put o.dst x)) : Rob P C ops o ⟨o.dst, x, [], locsG ops o.guard ++ rd⟩ σ := by
 intro s ha _ a w K Q hr hK
 have hg' : guardOf ops s o.guard = some b := by rw [guard_agree (fun x hx => ha x (List.mem_append_left _ hx))]; exact hg
 obtain ⟨μ, S, hi⟩ := hr
 rw [wanted_of hi hg']
 cases b with
 | true => exact .inl (h rfl s (fun l hl => ha l (List.mem_append_right _ hl)) a w K Q ⟨μ, S, hi⟩ hK)
 | false =>
  rcases hg0 with h | ⟨y, rfl⟩
  ·cases h
  ·exact hK _ _ ⟨μ, S, hi.put o.dst (.cndF y)⟩
theorem rob_call {ops : Array Oper} {o : Oper} {c : Operand} {args : Array Operand} {ats : Array TypeId} (ho : o.op = .call { callee := .value c, args, argTypes := ats }) (hg : o.guard = none) {p : Prop} {f : FuncId} {xs : List AV}
  (h : callArgs σ c args.toList = some (p, f, xs)) (hp : p) (hc : Callable P f) (hx : refsL xs = []) {r : AV} (hr : refs r = []) (hf : FnOK P f xs [] fun r' _ => r' = r) : Rob P C ops o (spCall ops σ o c args.toList r) σ :=
 rob_trip (b := true) (by rw [hg]; rfl) (.inl rfl) fun _ _ ha => trip_call ho (by rw [callArgs_agree ha]; exact h) hp hc hx hr hf
def FreshAll : List Sp → St → Prop
 | [], _ => True
 | p :: ps, σ => (∀ b, b ∈ p.new → Loc.blk b.1 ∉ p.rd → hget σ.hp b.1 = none) ∧ FreshAll ps (p.app σ)
theorem FreshAll.get : ∀ {ps : List Sp} {σ : St}, FreshAll ps σ → ∀ (i : Nat) p, ps[i]? = some p → ∀ b, b ∈ p.new → Loc.blk b.1 ∉ p.rd → hget (upto ps i σ).hp b.1 = none
 | [], _, _, i, p, h, _, _, _ => by simp at h
 | q :: ps, σ, hf, 0, p, h, b, hb, hn => by
  simp only [List.getElem?_cons_zero, Option.some.injEq] at h
  subst h
  exact hf.1 b hb hn
 | q :: ps, σ, hf, i + 1, p, h, b, hb, hn => hf.2.get i p (by simpa using h) b hb hn
theorem FreshAll.append : ∀ {ps qs : List Sp} {σ : St}, FreshAll ps σ → FreshAll qs (appAll ps σ) → FreshAll (ps ++ qs) σ
 | [], _, _, _, h => h
 | _ :: _, _, _, h, h2 => ⟨h.1, h.2.append h2⟩
theorem FreshAll.of_nil : ∀ {ps : List Sp} {σ : St}, (∀ p, p ∈ ps → p.new = []) → FreshAll ps σ
 | [], _, _ => trivial
 | p :: ps, _, h => ⟨fun b hb _ => (by rw [h p (by simp)] at hb; cases hb), FreshAll.of_nil fun q hq => h q (by simp [hq])⟩
def SegFrom (P : Program) (C : Ctx) (ops : Array Oper) (Q : Exit → Act → World → Prop) (k n : Nat) (acc : Skel) (l : List Oper) (σ : St) : Prop :=
 ∃ l1 l2 ps, l = l1 ++ l2 ∧ l1.length = ps.length ∧ RobChain P C ops l1 ps σ ∧ FreshAll ps σ ∧ (segOK ops k (acc ++ skel ps) && dstOK n (acc ++ skel ps)) = true ∧ DrawOK P C ops Q (k + acc.length + ps.length) (appAll ps σ)
theorem chain_append {ops : Array Oper} : ∀ {l1 l2 : List Oper} {p1 p2 : List Sp} {σ : St}, l1.length = p1.length → RobChain P C ops l1 p1 σ → RobChain P C ops l2 p2 (appAll p1 σ) → RobChain P C ops (l1 ++ l2) (p1 ++ p2) σ
 | [], _, [], _, _, _, _, h => h
 | _ :: l1, _, _ :: p1, _, _, hl, h, h2 => ⟨h.1, chain_append (by simpa using hl) h.2 h2⟩
 | [], _, _ :: _, _, _, hl, _, _ => by simp at hl
 | _ :: _, _, [], _, _, hl, _, _ => by simp at hl
theorem appAll_append : ∀ (p1 p2 : List Sp) (σ : St), appAll (p1 ++ p2) σ = appAll p2 (appAll p1 σ)
 | [], _, _ => rfl
 | _ :: p1, p2, _ => appAll_append p1 p2 _
theorem seg_add {ops : Array Oper} {Q : Exit → Act → World → Prop} {k n : Nat} {acc : Skel} {l1 l : List Oper} {ps : List Sp} (hl : l1.length = ps.length) (hc : RobChain P C ops l1 ps σ) (hn : FreshAll ps σ)
  (h : SegFrom P C ops Q k n (acc ++ skel ps) l (appAll ps σ)) : SegFrom P C ops Q k n acc (l1 ++ l) σ := by
 obtain ⟨m1, m2, qs, rfl, h2, h3, h4, h5, h6⟩ := h
 have e : acc ++ skel ps ++ skel qs = acc ++ skel (ps ++ qs) := by simp [skel]
 refine ⟨l1 ++ m1, m2, ps ++ qs, by simp, by simp [hl, h2], chain_append hl hc h3, hn.append h4, by rw [← e]; exact h5, ?_⟩
 rw [appAll_append]
 have e2 : k + (acc ++ skel ps).length + qs.length = k + acc.length + (ps ++ qs).length := by simp [skel]; omega
 rw [← e2]; exact h6
theorem seg_run (hT : TabOK P T) {ops : Array Oper} {Q : Exit → Act → World → Prop} {k n : Nat} {acc : Skel} {l l' : List Oper} {p : Prop} {ps : List Sp} (h : runD T ops l σ = some (p, ps, l', σ')) (hp : p) {sk : Skel} (hs : skel ps = sk)
  (hk : SegFrom P C ops Q k n (acc ++ sk) l' σ') : SegFrom P C ops Q k n acc l σ := by
 subst hs
 obtain ⟨h1, h2, h3⟩ := runD_len h
 obtain ⟨l1, k1, k2⟩ := runD_sound (P := P) (C := C) hT ops l σ h hp (l2 := []) (ps2 := []) trivial (by simp)
 simp only [List.append_nil] at k2
 subst k1
 refine seg_add (by simpa using h1) k2 (.of_nil fun p hp => ?_) (by rw [h2]; exact hk)
 obtain ⟨i, hi⟩ := List.getElem?_of_mem hp
 exact h3 i p hi
theorem seg_robN {ops : Array Oper} {Q : Exit → Act → World → Prop} {k n : Nat} {acc : Skel} {o : Oper} {l : List Oper} {q : Sp} (hq : Rob P C ops o q σ) (hn : ∀ b, b ∈ q.new → Loc.blk b.1 ∉ q.rd → hget σ.hp b.1 = none) {sk : List Loc × List Loc} (hs : (q.wr, q.rd) = sk) (ha : q.app σ = σ')
  (hk : SegFrom P C ops Q k n (acc ++ [sk]) l σ') : SegFrom P C ops Q k n acc (o :: l) σ := by
 subst hs ha
 exact seg_add (l1 := [o]) (ps := [q]) rfl ⟨hq, trivial⟩ ⟨hn, trivial⟩ hk
theorem seg_rob {ops : Array Oper} {Q : Exit → Act → World → Prop} {k n : Nat} {acc : Skel} {o : Oper} {l : List Oper} {q : Sp} (hq : Rob P C ops o q σ) (hn : q.new = []) {sk : List Loc × List Loc} (hs : (q.wr, q.rd) = sk) (ha : q.app σ = σ')
  (hk : SegFrom P C ops Q k n (acc ++ [sk]) l σ') : SegFrom P C ops Q k n acc (o :: l) σ := by
 subst hs ha
 exact seg_add (l1 := [o]) (ps := [q]) rfl ⟨hq, trivial⟩ (.of_nil fun p hp => by rw [List.mem_singleton.1 hp]; exact hn) hk
theorem seg_call {ops : Array Oper} {Q : Exit → Act → World → Prop} {k n : Nat} {acc : Skel} {o : Oper} {l : List Oper} {c : Operand} {args : Array Operand} {ats : Array TypeId} (ho : o.op = .call { callee := .value c, args, argTypes := ats }) (hg : o.guard = none) {p : Prop} {f : FuncId} {xs : List AV}
  (h : callArgs σ c args.toList = some (p, f, xs)) (hp : p) (hc : Callable P f) (hx : refsL xs = []) {r : AV} (hf : FnOK P f xs [] fun r' _ => r' = r) (hr : refs r = []) {sk : List Loc × List Loc} (hs : ((spCall ops σ o c args.toList r).wr, (spCall ops σ o c args.toList r).rd) = sk)
  (ha : σ.put o.dst r = σ') (hk : SegFrom P C ops Q k n (acc ++ [sk]) l σ') : SegFrom P C ops Q k n acc (o :: l) σ :=
 seg_rob (rob_call ho hg h hp hc hx hr hf) rfl hs (by rw [spCall_app]; exact ha) hk
theorem seg_end {ops : Array Oper} {Q : Exit → Act → World → Prop} {k n : Nat} {acc : Skel} {l : List Oper} (hc : (segOK ops k acc && dstOK n acc) = true) {j : Nat} (hj : k + acc.length = j) (h : DrawOK P C ops Q j σ) : SegFrom P C ops Q k n acc l σ := by
 subst hj
 exact ⟨[], l, [], rfl, rfl, trivial, trivial, by simpa [skel] using hc, h⟩
theorem ZS {ops : Array Oper} {Q : Exit → Act → World → Prop} {k : Nat} {l : List Oper} (hl : ops.toList.drop k = l) (h : SegFrom P C ops Q k σ.tm.length [] l σ) : DrawOK P C ops Q k σ := by
 subst hl
 obtain ⟨l1, l2, ps, h1, h2, h3, h4, h5, h6⟩ := h
 rw [Bool.and_eq_true] at h5
 simp only [List.nil_append] at h5
 refine draw_seg (l := l1) (ps := ps) h5.1 h2 (fun i hi => ?_) (fun i q t hq hd => ?_) (fun i q hq b hb hn => h4.get i q hq b hb hn) h3 (by simpa using h6)
 ·rw [← Array.getElem?_toList, ← List.getElem?_drop, h1, List.getElem?_append_left (by omega)]
 ·have := List.all_eq_true.1 h5.2 (q.wr, q.rd) (List.mem_map.2 ⟨q, List.mem_of_getElem? hq, rfl⟩)
  have := List.all_eq_true.1 this (.tm t) (wr_tm hd)
  simpa using this
theorem draw_step (hT : TabOK P T) {ops : Array Oper} {Q : Exit → Act → World → Prop} {k : Nat} {o : Oper} (ho : ops[k]? = some o) (hc : Region.ready .any ops (doneTo ops.size k) = [k]) (hg : o.guard = none) {p : Prop} (h : stepOp T σ o.dst o.op = some (p, σ')) (hp : p)
  {j : Nat} (hj : k + 1 = j) (hk : DrawOK P C ops Q j σ') : DrawOK P C ops Q k σ := by
 subst hj
 refine draw_one ho hc (fun a w K Q' hr hK => ?_) hk
 obtain ⟨μ, S, hi⟩ := hr
 rw [wanted_of hi (show guardOf ops σ o.guard = some true from by rw [hg]; rfl)]
 exact .inl (step_sound hT o h hp a w K Q' ⟨μ, S, hi⟩ hK)
theorem draw_trip {ops : Array Oper} {Q : Exit → Act → World → Prop} {k : Nat} {o : Oper} (ho : ops[k]? = some o) (hc : Region.ready .any ops (doneTo ops.size k) = [k]) (hg : o.guard = none) (h : Trip P C o σ σ')
  {j : Nat} (hj : k + 1 = j) (hk : DrawOK P C ops Q j σ') : DrawOK P C ops Q k σ := by
 subst hj
 refine draw_one ho hc (fun a w K Q' hr hK => ?_) hk
 obtain ⟨μ, S, hi⟩ := hr
 rw [wanted_of hi (show guardOf ops σ o.guard = some true from by rw [hg]; rfl)]
 exact .inl (h a w K Q' ⟨μ, S, hi⟩ hK)
theorem cw_call {k : List It} {all : Array Oper} {o : Oper} {l : List Oper} {c : Operand} {args : Array Operand} {ats : Array TypeId} (ho : o.op = .call { callee := .value c, args, argTypes := ats }) (hg : o.guard = none) {p : Prop} {f : FuncId} {xs : List AV}
  (h : callArgs σ c args.toList = some (p, f, xs)) (hp : p) (hc : Callable P f) (hx : refsL xs = []) {r : AV} (hf : FnOK P f xs [] fun r' _ => r' = r) (hr : refs r = []) (ha : σ.put o.dst r = σ') (hk : Cw P C Ret (.ops all l :: k) σ') : Cw P C Ret (.ops all (o :: l) :: k) σ := by
 subst ha
 exact cw_step (by rw [hg]; rfl) (trip_call ho h hp hc hx hr hf) hk
theorem cw_callG {k : List It} {all : Array Oper} {o : Oper} {l : List Oper} {c : Operand} {args : Array Operand} {ats : Array TypeId} (ids : List Nat) (off : Nat) (ho : o.op = .call { callee := .value c, args, argTypes := ats }) (hg : o.guard = none) {p : Prop} {f : FuncId} {xs : List AV}
  (h : callArgs σ c args.toList = some (p, f, xs)) (hp : p) (hc : Callable P f) {H K : List (Nat × Blk)} {r : AV} (hH : sub ids σ.hp = H)
  (hf : FnOK P f xs H fun r' H' => r' = r ∧ ∀ id b, hget K id = some b → hget H' id = some b)
  (hck : (refsL xs).all ids.contains = true) (hc1 : (H.all fun p => (refsB p.2).all ids.contains) = true) (hc2 : ((del ids σ.hp).all fun p => (refsB p.2).all fun i => !ids.contains i) = true)
  (hc3 : closed K (refs r) = true) (hc4 : (K.all fun p => (hget σ.hp (p.1 + off)).isNone) = true) (hτ : (⟨σ.tm.map (killL ids), renH off K ++ del ids σ.hp⟩ : St).put o.dst (ren off r) = σ')
  (hk : Cw P C Ret (.ops all l :: k) σ') : Cw P C Ret (.ops all (o :: l) :: k) σ :=
 cw_step (by rw [hg]; rfl) (trip_callG ho h hp hc ids off hH hck hc1 hc2 hc3 hc4 hf hτ) hk
theorem cw_runN (hT : TabOK P T) (n : Nat) {k : List It} {all : Array Oper} {l l1 l2 : List Oper} {p : Prop} (h1 : l.take n = l1) (h2 : l.drop n = l2) (h : runL T all l1 σ = some (p, [], σ')) (hp : p) (hk : Cw P C Ret (.ops all l2 :: k) σ') : Cw P C Ret (.ops all l :: k) σ := by
 subst h1 h2
 intro a w hr
 have := runL_then (P := P) (C := C) hT all (l.drop n) (l.take n) σ (Q := aft (RetOf C Ret) (sem P C (RetOf C Ret) k)) h hp (fun a w hr => hk a w hr)
 rw [List.take_append_drop] at this
 exact this a w hr
theorem seg_runN (hT : TabOK P T) (m : Nat) {ops : Array Oper} {Q : Exit → Act → World → Prop} {k n : Nat} {acc : Skel} {l l1 l2 : List Oper} {p : Prop} {ps : List Sp} (h1 : l.take m = l1) (h2 : l.drop m = l2) (h : runD T ops l1 σ = some (p, ps, [], σ')) (hp : p) {sk : Skel} (hs : skel ps = sk)
  (hk : SegFrom P C ops Q k n (acc ++ sk) l2 σ') : SegFrom P C ops Q k n acc l σ := by
 subst hs h1 h2
 obtain ⟨g1, g2, g3⟩ := runD_len h
 obtain ⟨q1, k1, k2⟩ := runD_sound (P := P) (C := C) hT ops (l.take m) σ h hp (l2 := []) (ps2 := []) trivial (by simp)
 simp only [List.append_nil] at k1 k2
 subst k1
 have := seg_add (l1 := l.take m) (l := l.drop m) (by simpa using g1) k2 (.of_nil fun p hp => by
  obtain ⟨i, hi⟩ := List.getElem?_of_mem hp
  exact g3 i p hi) (by rw [g2]; exact hk)
 rwa [List.take_append_drop] at this
end
end Go.Eng
namespace Go.Eng
section
variable {P : Program}
theorem osl_pure {μ : Nat → Option Nat} {S : Nat → Prop} {w : World} {v : Value} {id s off len e : Nat} {rows : List (List AV)} (hv : Rd μ S w v (.osl id s off len)) (hB : BlkOK μ S w id (.cells e s rows))
  (hp : (rows.all fun row => row.all AV.pureB) = true) (hle : off + len ≤ rows.length) : RdP (fun b => S b ∨ μ id = some b) w v (.sl ((rows.drop off).take len)) := by
 have hpure : ∀ (i : Nat) row, rows[i]? = some row → ∀ (j : Nat) x, row[j]? = some x → x.pureB = true := fun i row hi j x hj => List.all_eq_true.1 (List.all_eq_true.1 hp row (List.mem_of_getElem? hi)) x (List.mem_of_getElem? hj)
 obtain ⟨A, cap, rfl, hc, h⟩ := hv.inv_osl
 have hl : ((rows.drop off).take len).length = len := by simp; omega
 rcases h with ⟨rfl, h2⟩ | ⟨g, e', n, h1, rfl, h3, h4⟩
 ·exact .sl A 0 cap _ s 0 0 (fun _ _ => undef) hl hc (fun row h => by simp at h) (fun h => by omega) (fun i j h => by omega) (fun i row h => by simp at h)
 ·rcases hB with ⟨_, k2⟩ | ⟨g', c, k1, k2, k3, k4, k5⟩
  ·rw [k2] at h1; cases h1
  ·rw [k1] at h1; injection h1 with h1; subst h1
   refine .sl _ len cap _ s g' (off * s) (fun i j => c.getD ((off + i) * s + j) undef) hl hc (fun row h => k4 row (List.mem_of_mem_drop (List.mem_of_mem_take h))) (fun _ => ⟨rfl, .inr k1⟩) (fun i' j hi' hj => ?_) (fun i' row h j x hx => ?_)
   ·have hlt : (off + i') * s + s ≤ rows.length * s := by
     have := Nat.mul_le_mul_right s (show off + i' + 1 ≤ rows.length by omega)
     rwa [Nat.succ_mul] at this
    rw [show off * s + (i' * s + j) = (off + i') * s + j from by rw [Nat.add_mul]; omega, cell_of k2, Array.getD_eq_getD_getElem?, Array.getElem?_eq_getElem (by omega)]
    rfl
   ·rw [List.getElem?_take] at h
    split at h
    ·rw [List.getElem?_drop] at h
     exact ((k5 _ row h j x hx).toP (hpure _ _ h _ _ hx)).mono (SameOn.refl _ _) (fun _ h => .inl h)
    ·cases h
theorem FnOK.read {f : FuncId} {args : List AV} {H : List (Nat × Blk)} {id s e : Nat} {rows : List (List AV)} (h : FnOK P f args H fun r H' => r = .osl id s 0 rows.length ∧ ∀ i b, hget [(id, .cells e s rows)] i = some b → hget H' i = some b)
  (hp : (rows.all fun row => row.all AV.pureB) = true) : FnOK P f args H fun r _ => r = .sl rows := by
 intro R0 μ w0 vs hl ha hH hR
 refine (h R0 μ w0 vs hl ha hH hR).mono ?_
 rintro e' w' ⟨v, r, H', μ', S', rfl, ⟨rfl, hb⟩, h4, h5, h6, h7, h8⟩
 have hb := hb id (.cells e s rows) (by simp only [hget, if_true])
 have hrd := osl_pure h4 (h5.blk id _ hb) hp (by omega)
 simp only [List.drop_zero, List.take_length] at hrd
 refine ⟨v, _, [], fun _ => none, _, rfl, rfl, .pure hrd, ⟨fun i b h => by simp [hget] at h, fun i g h => (by cases h), fun i j g h => (by cases h), h5.glob.nil⟩, h6, fun i g h => (by cases h), fun b hb' => ?_⟩
 rcases hb' with h | h
 ·exact h8 b h
 ·refine ⟨(h5.dom id b h).2.2, ?_⟩
  rcases h7 id b h with h | h
  ·exact .inr (.inl h)
  ·exact .inr (.inr h)
end
end Go.Eng
