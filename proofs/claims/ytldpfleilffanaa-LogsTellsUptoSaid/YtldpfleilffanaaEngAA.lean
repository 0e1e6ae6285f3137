/- The abstract machine, part AA: step by step: the head of the next region, names for truth values. No condition. -/
import Derived.Test.YtldpfleilffanaaEngS
namespace Go.Eng
section
variable {P : Program} {T : Tab} {C : Ctx} {σ σ' : St} {Ret : St → Prop} {k : List It}

/-- CODE IS OPENED AS FAR AS THE NEXT OPERATION, TEST, LOOP, OR END. -/
def goR : Nat → List It → Option (List It)
  | 0, k => some k
  | n + 1, k =>
    match k with
    | .code (.seq x y) :: k => goR n (.code x :: .code y :: k)
    | .code (.block id c) :: k => goR n (.code c :: .blk id :: k)
    | .code .skip :: k => goR n k
    | .blk _ :: k => goR n k
    | .code (.exit id) :: k =>
      match exitTo id k with
      | some k' => goR n k'
      | none => none
    | .code (.region _ ops false) :: k => goR n (.ops ops ops.toList :: k)
    | .ops _ [] :: k => goR n k
    | k => some k

theorem cw_goR : ∀ (n : Nat) {k k' : List It}, goR n k = some k' → Cw P C Ret k' σ → Cw P C Ret k σ
  | 0, k, k', h, hk => by
    simp only [goR, Option.some.injEq] at h
    subst h; exact hk
  | n + 1, k, k', h, hk => by
    unfold goR at h
    split at h
    · exact cw_seq (cw_goR n h hk)
    · exact cw_block (cw_goR n h hk)
    · exact cw_skip (cw_goR n h hk)
    · exact cw_blk (cw_goR n h hk)
    · split at h
      · rename_i k1 he
        exact cw_exit he (cw_goR n h hk)
      · cases h
    · exact cw_region (cw_goR n h hk)
    · exact cw_ops_nil (cw_goR n h hk)
    · simp only [Option.some.injEq] at h
      subst h; exact hk

theorem set_getD {l : List AV} {t : Nat} {x : AV} (h : l.getD t .any = x) (hx : x ≠ .any) : l.set t x = l := by
  apply List.ext_getElem?
  intro i
  rw [List.getElem?_set]
  split
  · rename_i e
    subst e
    rw [List.getD_eq_getElem?_getD] at h
    cases e : l[t]? with
    | none => rw [e] at h; exact absurd h.symm hx
    | some y =>
      rw [e] at h
      simp only [Option.getD_some] at h
      subst h
      rw [if_pos (List.getElem?_eq_some_iff.1 e).1]
  · rfl

/-- A TRUTH VALUE GETS A NAME. -/
theorem cw_name (t : Nat) {b : Bool} (h : σ.tm.getD t .any = .bool b) (hk : ∀ c, b = c → Cw P C Ret k ⟨σ.tm.set t (.bool c), σ.hp⟩) : Cw P C Ret k σ := by
  have := hk b rfl
  rwa [set_getD h (fun h => nomatch h)] at this

/-- in a region that draws -/
theorem seg_name (t : Nat) {b : Bool} {ops : Array Oper} {Q : Exit → Act → World → Prop} {k n : Nat} {acc : Skel} {l : List Oper} (h : σ.tm.getD t .any = .bool b) (hk : ∀ c, b = c → SegFrom P C ops Q k n acc l ⟨σ.tm.set t (.bool c), σ.hp⟩) : SegFrom P C ops Q k n acc l σ := by
  have := hk b rfl
  rwa [set_getD h (fun h => nomatch h)] at this
theorem cw_condT {c : Operand} {x y : Code} {b : Bool} {p : Prop} (hc : evS σ c = (p, .bool b)) (hp : p) (hb : b = true) (ht : Cw P C Ret (.code x :: k) σ) : Cw P C Ret (.code (.cond c x y) :: k) σ :=
  cw_cond hc hp (fun _ => ht) (fun h => by rw [hb] at h; cases h)
theorem cw_condF {c : Operand} {x y : Code} {b : Bool} {p : Prop} (hc : evS σ c = (p, .bool b)) (hp : p) (hb : b = false) (hf : Cw P C Ret (.code y :: k) σ) : Cw P C Ret (.code (.cond c x y) :: k) σ :=
  cw_cond hc hp (fun h => by rw [hb] at h; cases h) (fun _ => hf)

/-! ### nil slices as empty ones -/
mutual
def nrm : AV → AV
  | .nils => .sl []
  | .sl rows => .sl (nrmR rows)
  | .rp cells off => .rp (nrmL cells) off
  | .agg cells => .agg (nrmL cells)
  | .tup vs => .tup (nrmL vs)
  | .fn f caps => .fn f (nrmL caps)
  | x => x
def nrmL : List AV → List AV
  | [] => []
  | x :: r => nrm x :: nrmL r
def nrmR : List (List AV) → List (List AV)
  | [] => []
  | x :: r => nrmL x :: nrmR r
end

theorem nrmL_map : ∀ l, nrmL l = l.map nrm
  | [] => rfl
  | x :: r => by simp [nrmL, nrmL_map r]
theorem nrmR_map : ∀ l, nrmR l = l.map nrmL
  | [] => rfl
  | x :: r => by simp [nrmR, nrmR_map r]

theorem RdP.nrm {S : Nat → Prop} {w : World} {v : Value} {x : AV} (h : RdP S w v x) : RdP S w v (Eng.nrm x) := by
  have key : ∀ {l : List AV} {f : Nat → Value}, (∀ j x, l[j]? = some x → RdP S w (f j) (Eng.nrm x)) → ∀ j x, (nrmL l)[j]? = some x → RdP S w (f j) x := fun {l f} h j x hx => by
    rw [nrmL_map, List.getElem?_map] at hx
    cases e : l[j]? with
    | none => rw [e] at hx; cases hx
    | some y => rw [e] at hx; simp only [Option.map_some, Option.some.injEq] at hx; subst hx; exact h j y e
  induction h with
  | int k n => exact .int k n
  | bool b => exact .bool b
  | str s l h => exact .str s l h
  | nilp => exact .nilp
  | nili => exact .nili
  | nils => exact .sl none 0 0 [] 0 0 0 (fun _ _ => undef) rfl (Nat.le_refl _) (fun row h => by simp at h) (fun h => by omega) (fun i j h => by omega) (fun i row h => by simp at h)
  | nilm => exact .nilm
  | sl A len cap rows size g off vals hl hc hsz hA hcell hr ih =>
    refine .sl A len cap (nrmR rows) size g off vals (by rw [nrmR_map, List.length_map]; exact hl) hc (fun row hrow => ?_) hA hcell (fun i row hi j x hx => ?_)
    · rw [nrmR_map] at hrow
      obtain ⟨r, hr', rfl⟩ := List.mem_map.1 hrow
      rw [nrmL_map, List.length_map]; exact hsz r hr'
    · rw [nrmR_map, List.getElem?_map] at hi
      cases e : rows[i]? with
      | none => rw [e] at hi; cases hi
      | some r =>
        rw [e] at hi; simp only [Option.map_some, Option.some.injEq] at hi; subst hi
        exact key (f := vals i) (ih i r e) j x hx
  | rp g o off cells vals hS hcell hr ih =>
    refine .rp g o off (nrmL cells) vals hS (fun j hj => hcell j (by rw [nrmL_map, List.length_map] at hj; exact hj)) (key ih)
  | rm g es clk kvs vals hS hg hm hr ih => exact .rm g es clk kvs vals hS hg hm hr
  | fn f vals caps hl hr ih => exact .fn f vals _ (by rw [nrmL_map, List.length_map]; exact hl) (key ih)
  | agg cs cells hl hr ih => exact .agg cs _ (by rw [nrmL_map, List.length_map]; exact hl) (key ih)

theorem Rd.nrm {μ : Nat → Option Nat} {S : Nat → Prop} {w : World} {v : Value} {x : AV} (h : Rd μ S w v x) : Rd μ S w v (Eng.nrm x) := by
  have key : ∀ {l : List AV} {f : Nat → Value}, (∀ j x, l[j]? = some x → Rd μ S w (f j) (Eng.nrm x)) → ∀ j x, (nrmL l)[j]? = some x → Rd μ S w (f j) x := fun {l f} h j x hx => by
    rw [nrmL_map, List.getElem?_map] at hx
    cases e : l[j]? with
    | none => rw [e] at hx; cases hx
    | some y => rw [e] at hx; simp only [Option.map_some, Option.some.injEq] at hx; subst hx; exact h j y e
  induction h with
  | any v => exact .any v
  | pure h => exact .pure h.nrm
  | agg cs cells hl hr ih => exact .agg cs _ (by rw [nrmL_map, List.length_map]; exact hl) (key ih)
  | tup vs xs hl hr ih => exact .tup vs _ (by rw [nrmL_map, List.length_map]; exact hl) (key ih)
  | fn f vals caps hl hr ih => exact .fn f vals _ (by rw [nrmL_map, List.length_map]; exact hl) (key ih)
  | ptr id size row off g hg => exact .ptr id size row off g hg
  | osl id size off len cap A hc h => exact .osl id size off len cap A hc h
  | mp id g hg => exact .mp id g hg
  | cndT v x h ih => exact .cndT v x h
  | cndF x => exact .cndF x

/-- CALLED WITH NIL SLICES AS WITH EMPTY ONES. -/
theorem FnOK.nrm {f : FuncId} {args args' : List AV} {H : List (Nat × Blk)} {post : AV → List (Nat × Blk) → Prop} (hn : nrmL args = args') (h : FnOK P f args' H post) : FnOK P f args H post := by
  intro R0 μ w0 vs hl hr hH hR
  subst hn
  refine h R0 μ w0 vs (by rw [nrmL_map, List.length_map]; exact hl) (fun j x hx => ?_) hH hR
  rw [nrmL_map, List.getElem?_map] at hx
  cases e : args[j]? with
  | none => rw [e] at hx; cases hx
  | some y => rw [e] at hx; simp only [Option.map_some, Option.some.injEq] at hx; subst hx; exact (hr j y e).nrm
attribute [go_sem] goR
end
end Go.Eng
