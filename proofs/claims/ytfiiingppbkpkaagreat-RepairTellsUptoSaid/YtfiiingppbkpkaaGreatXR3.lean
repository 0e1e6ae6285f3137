/- Texts of this claim, part 3: EngX, EngY, EngJ, EngK, EngL. No condition. -/
import Derived.Test.YtfiiingppbkpkaaGreatXR2
import Derived.Tactics
set_option maxRecDepth 10000
set_option maxHeartbeats 4000000
set_option linter.unusedSimpArgs false
set_option linter.unusedVariables false
namespace Go.Eng
section
variable {P : Program} {T : Tab} {C : Ctx} {μ : Nat → Option Nat} {S : Nat → Prop} {σ : St} {a : Act} {w : World}
theorem Inv.hpEq (hi : Inv C μ S σ a w) {H : List (Nat × Blk)} (h : ∀ id, Yk H id = Yk σ.hp id) : Inv C μ S ⟨σ.tm, H⟩ a w :=
 ⟨hi.size, hi.defers, hi.tm, fun id b hb => hi.hp id b ((h id).symm.trans hb), fun id g hg => by
  obtain ⟨⟨b, k1⟩, k2⟩ := hi.dom id g hg
  exact ⟨⟨b, (h id).trans k1⟩, k2⟩, hi.inj, hi.frm, hi.sb⟩
def overRows (rows : List (List AV)) (off : Nat) (new : List (List AV)) : List (List AV) := rows.take off ++ new ++ rows.drop (off + new.length)
theorem overRows_length {rows new : List (List AV)} {off : Nat} (h : off + new.length ≤ rows.length) : (overRows rows off new).length = rows.length := by
 simp [overRows]; omega
theorem overRows_get {rows new : List (List AV)} {off : Nat} (h : off + new.length ≤ rows.length) (i : Nat) :
  (overRows rows off new)[i]? = if off ≤ i ∧ i < off + new.length then new[i - off]? else rows[i]? := by
 unfold overRows
 have hl : (rows.take off).length = off := by simp; omega
 by_cases h1 : i < off
 ·rw [if_neg (by omega), List.append_assoc, List.getElem?_append_left (by omega), List.getElem?_take, if_pos h1]
 ·by_cases h2 : i < off + new.length
  ·rw [if_pos (by omega), List.append_assoc, List.getElem?_append_right (by omega), hl, List.getElem?_append_left (by omega)]
  ·rw [if_neg (by omega), List.getElem?_append_right (by simp; omega), List.getElem?_drop]
   congr 1
   simp; omega
theorem write_rows (hi : Inv C μ S σ a w) {id e s off g : Nat} {rows new : List (List AV)} {vs : List Value} (hb : Yk σ.hp id = some (.cells e s rows)) (hg : μ id = some g)
  (hoff : off + new.length ≤ rows.length) (hl : vs.length = new.length * s) (hrl : ∀ row, row ∈ new → row.length = s) (h1 : ∀ u, u ∈ vs → u.oneCell' = true)
  (hr : ∀ (i : Nat) row, new[i]? = some row → ∀ (j : Nat) x, row[j]? = some x → Rd μ S w (vs.getD (i * s + j) undef) x) :
  ∃ w', (storeCells ⟨g, off * s, none⟩ vs).run P w = .ok () w' ∧ Inv C μ S ⟨σ.tm, Zh σ.hp id (.cells e s (overRows rows off new))⟩ a w' := by
 rcases hi.hp id _ hb with ⟨_, k⟩ | ⟨g', c, k1, k2, k3, k4, k5⟩
 ·rw [k] at hg; cases hg
 ·rw [k1] at hg; injection hg with hg; subst hg
  have hle : (off + new.length) * s ≤ rows.length * s := Nat.mul_le_mul_right _ hoff
  rw [Nat.add_mul] at hle
  obtain ⟨w', r1, r2, r3, r4, r5, r6, c', r7, r8, r9⟩ := run_storeCells (P := P) g' (off * s) e vs 0 w c k2 h1 (by rw [hl]; omega)
  refine ⟨w', r1, ?_⟩
  have hrs : Yr w' g' = Yr w g' := by simp [Yr, r7, k2, r8]
  have hS : ¬ S g' := (hi.dom id g' k1).2.2.1
  have hw : SameOn S w w' := fun b hb => r6 b (by rintro rfl; exact hS hb)
  have hz' : ∀ i q, μ i = some q → Yr w' q = Yr w q := fun i q _ => by
   by_cases e : q = g'
   ·subst e; exact hrs
   ·exact rowSize_same (r6 q e)
  have hmono : ∀ {v x}, Rd μ S w v x → Rd μ S w' v x := fun h => h.mono hw (fun _ h => h) (fun _ _ h => h) hz'
  refine hi.write id g' k1 r2 r3 r4 r5 r6 hrs _ (.inr ⟨g', c', k1, r7, by rw [overRows_length hoff, r8]; exact k3, fun q hq => ?_, fun i q hq j y hy => ?_⟩)
  ·obtain ⟨i, hi'⟩ := List.getElem?_of_mem hq
   rw [overRows_get hoff] at hi'
   split at hi'
   ·exact hrl q (List.mem_of_getElem? hi')
   ·exact k4 q (List.mem_of_getElem? hi')
  ·rw [overRows_get hoff] at hq
   rw [r9]
   split at hq
   ·rename_i hin
    have hj : j < s := by
     by_cases h : j < s
     ·exact h
     ·rw [List.getElem?_eq_none (by rw [hrl q (List.mem_of_getElem? hq)]; omega)] at hy; cases hy
    have hlt := row_lt (size := s) hq
    have e1 : i * s + j = off * s + ((i - off) * s + j) := by
     rw [← Nat.add_assoc, ← Nat.add_mul, show off + (i - off) = i from by omega]
    rw [if_pos (by omega), show i * s + j - (off * s + 0) = (i - off) * s + j from by omega]
    exact hmono (hr _ q hq j y hy)
   ·rename_i hout
    have hj : j < s := by
     by_cases h : j < s
     ·exact h
     ·rw [List.getElem?_eq_none (by rw [k4 q (List.mem_of_getElem? hq)]; omega)] at hy; cases hy
    have hk : ¬ (off * s + 0 ≤ i * s + j ∧ i * s + j < off * s + 0 + vs.length) := by
     rw [hl]
     by_cases h : i < off
     ·have := Nat.mul_le_mul_right s (show i + 1 ≤ off by omega)
      rw [Nat.succ_mul] at this
      omega
     ·have := Nat.mul_le_mul_right s (show off + new.length ≤ i by omega)
      rw [Nat.add_mul] at this
      omega
    rw [if_neg hk]
    exact hmono (k5 i q hq j y hy)
def clearOp (T : Tab) (σ : St) (t : TypeId) (x : AV) : Option (Prop × List (Nat × Blk)) :=
 match T.und t, x with
 | .sl _, .nils => some (True, σ.hp)
 | .sl e, .osl id s off len =>
  match Yk σ.hp id with
  | some (.cells e' s' rows) =>
   if s' = s then some (T.siz e = s ∧ s ≠ 0 ∧ (T.zer e).all AV.leaf = true ∧ off + len ≤ rows.length, Zh σ.hp id (.cells e' s' (overRows rows off (List.replicate len (T.zer e)))))
   else none
  | _ => none
 | _, _ => none
theorem hset_same {σ : St} {id : Nat} {b : Blk} (hb : Yk σ.hp id = some b) : ∀ i, Yk (Zh σ.hp id b) i = Yk σ.hp i := fun i => by
 rw [Yi]
 split
 ·rename_i e; subst e; exact hb.symm
 ·rfl
theorem overRows_nil (rows : List (List AV)) (off : Nat) : overRows rows off [] = rows := by simp [overRows]
theorem sound_clear (hT : TabOK P T) (hi : Inv C μ S σ a w) {t ty : TypeId} {v : Value} {x : AV} {p : Prop} {hp' : List (Nat × Blk)} (h : clearOp T σ t x = some (p, hp')) (hp : p) (hv : Rd μ S w v x) :
  ∃ w', (Builtin.clear_ #[t] ty #[v]).run P w = .ok (.tuple #[]) w' ∧ Inv C μ S ⟨σ.tm, hp'⟩ a w' := by
 unfold clearOp at h
 have ht := hT.und t
 split at h
 ·rename_i e hu
  rw [hu] at ht; simp only [KDOK] at ht
  simp only [gL, gM] at h
  obtain ⟨_, rfl⟩ := h
  obtain rfl := hv.inv_nils
  exact ⟨w, by simp [Builtin.clear_, run_underlying ht], hi⟩
 ·rename_i e id s off len hu
  rw [hu] at ht; simp only [KDOK] at ht
  split at h
  ·rename_i e' s' rows hb
   split at h
   ·rename_i hss
    subst hss
    simp only [gL, gM] at h
    obtain ⟨rfl, rfl⟩ := h
    obtain ⟨hz, hz0, hleaf, hle⟩ := hp
    subst hz
    obtain ⟨A, cap, rfl, hc, hor⟩ := hv.inv_osl
    by_cases h0 : len = 0
    ·subst h0
     refine ⟨w, by cases A <;> simp [Builtin.clear_, run_underlying ht], hi.hpEq fun i => ?_⟩
     rw [List.replicate_zero, overRows_nil]
     exact hset_same hb i
    ·rcases hor with ⟨h1, _⟩ | ⟨g, e2, n, h1, rfl, h3, h4⟩
     ·exact absurd h1 h0
     ·obtain ⟨z, z1, z2, z3⟩ := zeros_rdr hT (e := e) len hz0
      have e5 : Builtin.zeroCells z.cells len = (Array.range (len * T.siz e)).map (z.cells[· % z.cells.size]!) := by rw [Builtin.zeroCells, z2]
      have hr := z3 μ S w
      rw [← e5] at hr
      generalize hzs : Builtin.zeroCells z.cells len = zs at hr
      clear e5 z3
      obtain ⟨q1, q2, q3⟩ := hr
      simp only [List.length_replicate] at q1
      have hs0 : 0 < T.siz e := by omega
      have hzl : (T.zer e).length = T.siz e := q2 (T.zer e) (List.mem_replicate.2 ⟨h0, rfl⟩)
      obtain ⟨w', r1, r2⟩ := write_rows (P := P) hi (off := off) (new := List.replicate len (T.zer e)) (vs := zs.toList) hb h1 (by simpa using hle)
       (by rw [Array.length_toList, q1]; simp) (fun row hrow => q2 row hrow) (fun u hu => by
        obtain ⟨k, hk⟩ := List.getElem?_of_mem hu
        have hk' : k < len * T.siz e := by
         have := (List.getElem?_eq_some_iff.1 hk).1
         rw [Array.length_toList, q1] at this; exact this
        have hdiv : k / T.siz e < len := (Nat.div_lt_iff_lt_mul hs0).2 hk'
        have hmod := Nat.mod_lt k hs0
        have := q3 (k / T.siz e) (T.zer e) (by rw [List.getElem?_replicate, if_pos hdiv]) (k % T.siz e) ((T.zer e).getD (k % T.siz e) .any) (by
         rw [List.getD_eq_getElem?_getD, List.getElem?_eq_getElem (by omega)]; rfl)
        have e3 : k / T.siz e * T.siz e + k % T.siz e = k := by rw [Nat.mul_comm]; exact Nat.div_add_mod k (T.siz e)
        rw [e3] at this
        have e4 : zs.getD k undef = u := by
         rw [Array.getD_eq_getD_getElem?, ← Array.getElem?_toList, hk]; rfl
        rw [e4] at this
        exact this.leaf (List.all_eq_true.1 hleaf _ (by rw [List.getD_eq_getElem?_getD, List.getElem?_eq_getElem (by omega)]; exact List.getElem_mem _)))
       (fun i row hrow j x hx => by
        have := q3 i row hrow j x hx
        rwa [Array.getD_eq_getD_getElem?, ← Array.getElem?_toList, ← List.getD_eq_getElem?_getD] at this)
      refine ⟨w', ?_, r2⟩
      obtain ⟨m, rfl⟩ : ∃ m, len = m + 1 := ⟨len - 1, by omega⟩
      simp [Builtin.clear_, run_underlying ht, z1, hzs, r1]
   ·cases h
  ·cases h
 ·cases h
theorem vals_leafN {size n : Nat} {v : Value} {rows : List (List AV)} {vs : List Value} (h : Src μ S w size v rows vs) (hl : rowsLeaf (rows.take n) = true) : ∀ u, u ∈ vs.take (min rows.length n * size) → u.oneCell' = true := by
 intro u hu
 obtain ⟨k, hk⟩ := List.getElem?_of_mem hu
 rw [List.getElem?_take] at hk
 split at hk
 ·rename_i hkn
  have hsz : 0 < size := by
   rcases Nat.eq_zero_or_pos size with h' | h'
   ·subst h'; omega
   ·exact h'
  have hi : k / size < min rows.length n := by rw [Nat.div_lt_iff_lt_mul hsz]; exact hkn
  have hrow : rows[k / size]? = some (rows[k / size]'(by omega)) := List.getElem?_eq_getElem (by omega)
  have hm := Nat.mod_lt k hsz
  have hrl : (rows[k / size]'(by omega)).length = size := h.rlen _ (List.mem_of_getElem? hrow)
  have hx : (rows[k / size]'(by omega))[k % size]? = some ((rows[k / size]'(by omega))[k % size]'(by omega)) := List.getElem?_eq_getElem (by omega)
  have := h.rd _ _ hrow _ _ hx
  rw [Nat.div_add_mod', List.getD_eq_getElem?_getD, hk] at this
  have hmem : (rows[k / size]'(by omega)) ∈ rows.take n := by
   refine List.mem_of_getElem? (i := k / size) ?_
   rw [List.getElem?_take, if_pos (by omega)]; exact hrow
  exact this.leaf (List.all_eq_true.1 (List.all_eq_true.1 hl _ hmem) _ (List.mem_of_getElem? hx))
 ·cases hk
theorem run_firstN {size n : Nat} {v : Value} {rows : List (List AV)} {vs : List Value} (h : Src μ S w size v rows vs) (hn : n ≤ rows.length) : (Builtin.firstCells size n v).run P w = .ok (vs.take (n * size)).toArray w := by
 obtain ⟨A, cap, rfl, hf⟩ := h.form
 have hle : n * size ≤ rows.length * size := Nat.mul_le_mul_right _ hn
 by_cases h0 : 0 < rows.length
 ·obtain ⟨g, o, rfl, hc⟩ := hf h0
  have := run_loadCells_list (P := P) (w := w) ⟨g, o, none⟩ (vs.take (n * size)) (fun j u hu => by
   rw [List.getElem?_take] at hu
   split at hu
   ·rw [add_plain]; exact hc j u hu
   ·cases hu)
  rw [List.length_take, h.len, Nat.min_eq_left hle] at this
  simpa [Builtin.firstCells] using this
 ·have e : n = 0 := by omega
  subst e
  cases A with
  | none => simp [Builtin.firstCells]
  | some ad => simp [Builtin.firstCells, Go.loadCells, Go.loadCellsFrom]
def copyOp (T : Tab) (σ : St) (t : TypeId) (x y : AV) : Option (Prop × List (Nat × Blk) × AV) :=
 match T.und t, srcRows σ y, x with
 | .sl e, some R, .osl id s off len =>
  match Yk σ.hp id with
  | some (.cells e' s' rows) =>
   if s' = s then some (T.siz e = s ∧ s ≠ 0 ∧ rowsOf s R ∧ (∀ id s off len, y = .osl id s off len → R.length = len) ∧ rowsLeaf (R.take len) = true ∧ off + len ≤ rows.length,
    Zh σ.hp id (.cells e' s' (overRows rows off (R.take len))), .int .i64 (min R.length len : Nat))
   else none
  | _ => none
 | _, _, _ => none
theorem run_copy (hT : TabOK P T) {t e u ty : TypeId} (ht : P.underlying t = some (.slice e)) (hz : T.siz e ≠ 0) (A B : Option Addr) (len cap lenB capB : Nat) {vs : List Value}
  (hf : (Builtin.firstCells (T.siz e) (min lenB len) (.slice B lenB capB)).run P w = .ok vs.toArray w) :
  (Builtin.copy_ #[t, u] ty #[.slice A len cap, .slice B lenB capB]).run P w =
   (((match A with | some ad => storeCells ad vs | none => pure ()) : Sem Unit).run P w).andThen (fun _ w' => .ok (goInt (min lenB len : Nat)) w') := by
 have hf' : (Builtin.firstCells (T.siz e) (Nat.min lenB len) (.slice B lenB capB)).run P w = .ok vs.toArray w := hf
 cases A <;> simp [Builtin.copy_, run_underlying ht, Builtin.lenOf, sizeOf_of hT hz, hf'] <;> rfl
theorem sound_copy (hT : TabOK P T) (hi : Inv C μ S σ a w) {t u ty : TypeId} {vx vy : Value} {x y r : AV} {p : Prop} {hp' : List (Nat × Blk)} (h : copyOp T σ t x y = some (p, hp', r)) (hp : p) (hvx : Rd μ S w vx x) (hvy : Rd μ S w vy y) :
  ∃ v w', (Builtin.copy_ #[t, u] ty #[vx, vy]).run P w = .ok v w' ∧ Inv C μ S ⟨σ.tm, hp'⟩ a w' ∧ Rd μ S w' v r := by
 unfold copyOp at h
 have ht := hT.und t
 split at h
 ·rename_i e R id s off len hu hsrc
  rw [hu] at ht; simp only [KDOK] at ht
  split at h
  ·rename_i e' s' rows hb
   split at h
   ·rename_i hss
    subst hss
    simp only [gL, gM] at h
    obtain ⟨rfl, rfl, rfl⟩ := h
    obtain ⟨hz, hz0, hrl, hlen, hleaf, hle⟩ := hp
    subst hz
    obtain ⟨vs, hvs⟩ := src_of hi hsrc hvy hrl hlen
    obtain ⟨A, cap, rfl, hc, hor⟩ := hvx.inv_osl
    obtain ⟨B, capB, rfl, _⟩ := hvs.form
    have hfirst := run_firstN (P := P) (n := min R.length len) hvs (by omega)
    have hrun := run_copy (t := t) (u := u) (ty := ty) (w := w) hT ht hz0 A B len cap R.length capB hfirst
    by_cases h0 : min R.length len = 0
    ·have hn : R.take len = [] := List.eq_nil_of_length_eq_zero (by rw [List.length_take]; omega)
     have ev : vs.take (min R.length len * T.siz e) = [] := by rw [h0]; simp
     rw [ev] at hrun
     refine ⟨_, w, by rw [hrun]; cases A <;> simp [storeCells] <;> rfl, hi.hpEq fun i => ?_, .pure (.int _ _)⟩
     rw [hn, overRows_nil]
     exact hset_same hb i
    ·rcases hor with ⟨h1, _⟩ | ⟨g, e2, n, h1, rfl, h3, h4⟩
     ·omega
     ·have hleaf' := vals_leafN hvs hleaf
      have hmul : min R.length len * T.siz e ≤ R.length * T.siz e := Nat.mul_le_mul_right _ (Nat.min_le_left _ _)
      obtain ⟨w', r1, r2⟩ := write_rows (P := P) hi (off := off) (new := R.take len) (vs := vs.take (min R.length len * T.siz e)) hb h1 (by simp; omega)
       (by rw [List.length_take, hvs.len, List.length_take, Nat.min_eq_left hmul, Nat.min_comm]) (fun row hrow => hrl row (List.mem_of_mem_take hrow)) (fun q hq => hleaf' q hq) (fun i row hrow j x hx => by
        rw [List.getElem?_take] at hrow
        split at hrow
        ·rename_i hil
         have hlt := row_lt (size := T.siz e) hrow
         have hj : j < T.siz e := by
          by_cases h : j < T.siz e
          ·exact h
          ·rw [List.getElem?_eq_none (by rw [hrl row (List.mem_of_getElem? hrow)]; omega)] at hx; cases hx
         have hi2 : i < R.length := (List.getElem?_eq_some_iff.1 hrow).1
         have := Nat.mul_le_mul_right (T.siz e) (show i + 1 ≤ min R.length len by omega)
         rw [Nat.succ_mul] at this
         rw [List.getD_eq_getElem?_getD, List.getElem?_take, if_pos (by omega), ← List.getD_eq_getElem?_getD]
         exact hvs.rd i row hrow j x hx
        ·cases hrow)
      exact ⟨_, w', by rw [hrun]; simp only [r1]; rfl, r2, .pure (.int _ _)⟩
   ·cases h
  ·cases h
 ·cases h
end
end Go.Eng
namespace Go.Eng
section
variable {P : Program} {T : Tab} {C : Ctx} {μ : Nat → Option Nat} {S : Nat → Prop} {σ : St} {a : Act} {w : World}
def Zp {α : Type} : List (Int × α) → Int → α → List (Int × α)
 | [], n, v => [(n, v)]
 | p :: r, n, v => if p.1 = n then (n, v) :: r else if n < p.1 then (n, v) :: p :: r else p :: Zp r n v
def mdel {α : Type} (kvs : List (Int × α)) (n : Int) : List (Int × α) := kvs.filter fun p => !(p.1 == n)
theorem mem_mput {α : Type} {n : Int} {v : α} : ∀ {kvs : List (Int × α)}, kvs.Pairwise (fun a b => a.1 < b.1) → ∀ k x, (k, x) ∈ Zp kvs n v ↔ (k = n ∧ x = v) ∨ (k ≠ n ∧ (k, x) ∈ kvs)
 | [], _, k, x => by simp [Zp]
 | p :: r, hs, k, x => by
  rw [List.pairwise_cons] at hs
  have ih := mem_mput (n := n) (v := v) hs.2 k x
  obtain ⟨q, y⟩ := p
  simp only [Zp]
  by_cases h1 : q = n
  ·subst h1
   rw [if_pos rfl]
   have : ∀ z, (q, z) ∉ r := fun z hz => by have := hs.1 _ hz; simp only at this; omega
   simp only [List.mem_cons, Prod.mk.injEq]
   constructor
   ·rintro (⟨rfl, rfl⟩ | h)
    ·exact .inl ⟨rfl, rfl⟩
    ·exact .inr ⟨by rintro rfl; exact this _ h, .inr h⟩
   ·rintro (⟨rfl, rfl⟩ | ⟨h, (⟨rfl, _⟩ | h2)⟩)
    ·exact .inl ⟨rfl, rfl⟩
    ·exact absurd rfl h
    ·exact .inr h2
  ·rw [if_neg h1]
   by_cases h2 : n < q
   ·rw [if_pos h2]
    simp only [List.mem_cons, Prod.mk.injEq]
    constructor
    ·rintro (⟨rfl, rfl⟩ | ⟨rfl, rfl⟩ | h)
     ·exact .inl ⟨rfl, rfl⟩
     ·exact .inr ⟨h1, .inl ⟨rfl, rfl⟩⟩
     ·refine .inr ⟨by rintro rfl; have := hs.1 _ h; simp only at this; omega, .inr h⟩
    ·rintro (⟨rfl, rfl⟩ | ⟨h, (⟨rfl, rfl⟩ | h2)⟩)
     ·exact .inl ⟨rfl, rfl⟩
     ·exact .inr (.inl ⟨rfl, rfl⟩)
     ·exact .inr (.inr h2)
   ·rw [if_neg h2]
    simp only [List.mem_cons, Prod.mk.injEq, ih]
    constructor
    ·rintro (⟨rfl, rfl⟩ | ⟨rfl, rfl⟩ | ⟨h, h3⟩)
     ·exact .inr ⟨h1, .inl ⟨rfl, rfl⟩⟩
     ·exact .inl ⟨rfl, rfl⟩
     ·exact .inr ⟨h, .inr h3⟩
    ·rintro (⟨rfl, rfl⟩ | ⟨h, (⟨rfl, rfl⟩ | h3)⟩)
     ·exact .inr (.inl ⟨rfl, rfl⟩)
     ·exact .inl ⟨rfl, rfl⟩
     ·exact .inr (.inr ⟨h, h3⟩)
theorem mput_rise {α : Type} {n : Int} {v : α} : ∀ {kvs : List (Int × α)}, kvs.Pairwise (fun a b => a.1 < b.1) → (Zp kvs n v).Pairwise fun a b => a.1 < b.1
 | [], _ => by simp [Zp]
 | p :: r, hs => by
  have hs0 := hs
  rw [List.pairwise_cons] at hs
  simp only [Zp]
  by_cases h1 : p.1 = n
  ·rw [if_pos h1, List.pairwise_cons]
   exact ⟨fun q hq => by rw [← h1]; exact hs.1 q hq, hs.2⟩
  ·rw [if_neg h1]
   by_cases h2 : n < p.1
   ·rw [if_pos h2, List.pairwise_cons]
    refine ⟨fun q hq => ?_, hs0⟩
    rcases List.mem_cons.1 hq with rfl | hq
    ·exact h2
    ·have := hs.1 q hq; simp only; omega
   ·rw [if_neg h2, List.pairwise_cons]
    refine ⟨fun q hq => ?_, mput_rise hs.2⟩
    obtain ⟨k, x⟩ := q
    rcases (mem_mput hs.2 k x).1 hq with ⟨rfl, rfl⟩ | ⟨_, h⟩
    ·simp only; omega
    ·exact hs.1 _ h
theorem mput_length {α : Type} {n : Int} {v : α} : ∀ {kvs : List (Int × α)}, kvs.Pairwise (fun a b => a.1 < b.1) → (Zp kvs n v).length = bif (Zg kvs n).isSome then kvs.length else kvs.length + 1
 | [], _ => by simp [Zp, Zg]
 | p :: r, hs => by
  rw [List.pairwise_cons] at hs
  have ih := mput_length (n := n) (v := v) hs.2
  unfold Zp Zg
  by_cases h1 : p.1 = n
  ·simp [h1]
  ·by_cases h2 : n < p.1
   ·have : Zg r n = none := by
     cases e : Zg r n with
     | none => rfl
     | some x => have := hs.1 _ (mget_mem e); simp only at this; omega
    simp [this, h1, h2]
   ·simp only [h1, h2, if_false, List.length_cons, ih]
    cases (Zg r n).isSome <;> rfl
theorem mdel_rise {α : Type} {n : Int} {kvs : List (Int × α)} (h : kvs.Pairwise (fun a b => a.1 < b.1)) : (mdel kvs n).Pairwise fun a b => a.1 < b.1 := h.filter _
theorem mget_mput {α : Type} {n : Int} {v : α} {kvs : List (Int × α)} (h : kvs.Pairwise (fun a b => a.1 < b.1)) (k : Int) : Zg (Zp kvs n v) k = if k = n then some v else Zg kvs k := by
 split
 ·rename_i e; subst e
  exact mget_of_mem (mput_rise h) ((mem_mput h k v).2 (.inl ⟨rfl, rfl⟩))
 ·rename_i e
  cases e1 : Zg kvs k with
  | some x => exact mget_of_mem (mput_rise h) ((mem_mput h k x).2 (.inr ⟨e, mget_mem e1⟩))
  | none =>
   cases e2 : Zg (Zp kvs n v) k with
   | none => rfl
   | some x =>
    rcases (mem_mput h k x).1 (mget_mem e2) with ⟨h1, _⟩ | ⟨_, h2⟩
    ·exact absurd h1 e
    ·exact absurd h2 (mget_none e1 x)
def AV.pureB : AV → Bool
 | .int .. | .bool _ | .str _ | .nilp | .nili | .ifc | .nils | .nilm | .sl _ | .rp .. | .rm _ => true
 | _ => false
theorem Rd.toP {μ : Nat → Option Nat} {S : Nat → Prop} {w : World} {v : Value} {x : AV} (h : Rd μ S w v x) (hx : x.pureB = true) : RdP S w v x := by
 cases h with
 | pure h => exact h
 | _ => cases hx
def AV.deepB : AV → Bool
 | .agg cells => cells.all AV.pureB
 | x => x.pureB
theorem Rd.deep {v : Value} {x : AV} (h : Rd μ S w v x) (hx : x.deepB = true) : RdP S w v x := by
 cases x with
 | agg cells =>
  obtain ⟨cs, rfl, hl, hr⟩ := h.inv_agg
  exact .agg cs cells hl fun j y hy => (hr j y hy).toP (List.all_eq_true.1 hx y (List.mem_of_getElem? hy))
 | _ => exact h.toP hx
def putOp (T : Tab) (σ : St) (t : TypeId) (x k v : AV) : Option (Prop × List (Nat × Blk)) :=
 match T.und t, x, k with
 | .map kt _, .mp id, .int .i64 n =>
  match Yk σ.hp id with
  | some (.map kvs) => some ((T.und kt).isI64 = true ∧ v.deepB = true, Zh σ.hp id (.map (Zp kvs n v)))
  | _ => none
 | _, _, _ => none
theorem nodup_idx {α : Type} : ∀ {l : List α} {i j : Nat} {x : α}, l.Nodup → l[i]? = some x → l[j]? = some x → i = j
 | [], i, j, x, _, h, _ => by simp at h
 | y :: r, i, j, x, hn, hi, hj => by
  rw [List.nodup_cons] at hn
  cases i with
  | zero =>
   cases j with
   | zero => rfl
   | succ j =>
    simp only [List.getElem?_cons_zero, Option.some.injEq] at hi
    subst hi
    exact absurd (List.mem_of_getElem? (by simpa using hj)) hn.1
  | succ i =>
   cases j with
   | zero =>
    simp only [List.getElem?_cons_zero, Option.some.injEq] at hj
    subst hj
    exact absurd (List.mem_of_getElem? (by simpa using hi)) hn.1
   | succ j => exact congrArg (· + 1) (nodup_idx hn.2 (by simpa using hi) (by simpa using hj))
theorem map_put {es : Array MapEntry} {clk : Nat} {kvs : List (Int × AV)} {vals : Int → Value} (h : MapOK es clk kvs vals) {j : Nat} {e : MapEntry} {n : Int} {x : AV} (hj : es.toList[j]? = some e) (hk : e.key = .int .i64 n) (hx : Zg kvs n = some x)
  (v : Value) (V : AV) : MapOK (es.modify j fun e => { e with key := .int .i64 n, val := v }) clk (Zp kvs n V) (fun m => if m = n then v else vals m) := by
 have hkeys : ((es.modify j fun e => { e with key := .int .i64 n, val := v }).toList.map (·.key)) = es.toList.map (·.key) := by
  apply List.ext_getElem?
  intro i
  rw [Array.toList_modify, List.getElem?_map, List.getElem?_map, List.getElem?_modify]
  by_cases e1 : j = i
  ·subst e1; simp [hj, hk]
  ·simp [e1]
 have hborn : ((es.modify j fun e => { e with key := .int .i64 n, val := v }).toList.map (·.born)) = es.toList.map (·.born) := by
  apply List.ext_getElem?
  intro i
  rw [Array.toList_modify, List.getElem?_map, List.getElem?_map, List.getElem?_modify]
  by_cases e1 : j = i
  ·subst e1; simp [hj]
  ·simp [e1]
 refine ⟨fun e' he => ?_, fun p hp => ?_, by rw [hkeys]; exact h.once, ?_, mput_rise h.rise, fun e' he => ?_, by rw [hborn]; exact h.nodup⟩
 ·obtain ⟨i, hi⟩ := List.getElem?_of_mem he
  rw [Array.toList_modify, List.getElem?_modify] at hi
  by_cases e1 : j = i
  ·subst e1
   rw [hj] at hi
   have hi : some { e with key := .int .i64 n, val := v } = some e' := by simpa using hi
   injection hi with hi
   subst hi
   exact ⟨n, V, rfl, (mem_mput h.rise n V).2 (.inl ⟨rfl, rfl⟩), by simp⟩
  ·simp only [e1, if_false] at hi
   have hi' : es.toList[i]? = some e' := by simpa using hi
   obtain ⟨k, y, h1, h2, h3⟩ := h.key e' (List.mem_of_getElem? hi')
   have hne : k ≠ n := by
    rintro rfl
    exact e1 (nodup_idx h.once (by rw [List.getElem?_map, hj, Option.map_some, hk]) (by rw [List.getElem?_map, hi', Option.map_some, h1]))
   exact ⟨k, y, h1, (mem_mput h.rise k y).2 (.inr ⟨hne, h2⟩), by rw [if_neg hne]; exact h3⟩
 ·obtain ⟨k, y⟩ := p
  have hm : Value.int .i64 k ∈ es.toList.map (·.key) := by
   rcases (mem_mput h.rise k y).1 hp with ⟨rfl, _⟩ | ⟨_, h2⟩
   ·exact List.mem_map.2 ⟨e, List.mem_of_getElem? hj, hk⟩
   ·obtain ⟨e', he, hk'⟩ := h.has _ h2
    exact List.mem_map.2 ⟨e', he, hk'⟩
  rw [← hkeys] at hm
  obtain ⟨e', he, hk'⟩ := List.mem_map.1 hm
  exact ⟨e', he, hk'⟩
 ·rw [Array.size_modify, mput_length h.rise, hx, h.len]; rfl
 ·have : e'.born ∈ es.toList.map (·.born) := by rw [← hborn]; exact List.mem_map.2 ⟨e', he, rfl⟩
  obtain ⟨e2, he2, hb2⟩ := List.mem_map.1 this
  rw [← hb2]; exact h.born e2 he2
theorem map_new {es : Array MapEntry} {clk : Nat} {kvs : List (Int × AV)} {vals : Int → Value} (h : MapOK es clk kvs vals) {n : Int} (hx : Zg kvs n = none) (v : Value) (V : AV) :
  MapOK (es.push { key := .int .i64 n, val := v, born := clk }) (clk + 1) (Zp kvs n V) (fun m => if m = n then v else vals m) := by
 have hno : ∀ e, e ∈ es.toList → e.key ≠ .int .i64 n := fun e he hk => by
  obtain ⟨k, y, h1, h2, _⟩ := h.key e he
  rw [hk] at h1; injection h1 with _ h1; subst h1
  exact mget_none hx y h2
 refine ⟨fun e he => ?_, fun p hp => ?_, ?_, ?_, mput_rise h.rise, fun e he => ?_, ?_⟩
 ·rw [Array.toList_push, List.mem_append, List.mem_singleton] at he
  rcases he with he | rfl
  ·obtain ⟨k, y, h1, h2, h3⟩ := h.key e he
   have hne : k ≠ n := by rintro rfl; exact hno e he h1
   exact ⟨k, y, h1, (mem_mput h.rise k y).2 (.inr ⟨hne, h2⟩), by rw [if_neg hne]; exact h3⟩
  ·exact ⟨n, V, rfl, (mem_mput h.rise n V).2 (.inl ⟨rfl, rfl⟩), by simp⟩
 ·obtain ⟨k, y⟩ := p
  rcases (mem_mput h.rise k y).1 hp with ⟨rfl, _⟩ | ⟨_, h2⟩
  ·exact ⟨_, by rw [Array.toList_push]; exact List.mem_append_right _ (List.mem_singleton.2 rfl), rfl⟩
  ·obtain ⟨e', he, hk'⟩ := h.has _ h2
   exact ⟨e', by rw [Array.toList_push]; exact List.mem_append_left _ he, hk'⟩
 ·rw [Array.toList_push, List.map_append, List.nodup_append]
  refine ⟨h.once, by simp, fun x hx y hy hxy => ?_⟩
  simp only [List.map_cons, List.map_nil, List.mem_singleton] at hy
  obtain ⟨e, he, hk⟩ := List.mem_map.1 hx
  exact hno e he (by rw [hk, hxy, hy])
 ·rw [Array.size_push, mput_length h.rise, hx, h.len]; rfl
 ·rw [Array.toList_push, List.mem_append, List.mem_singleton] at he
  rcases he with he | rfl
  ·exact Nat.lt_succ_of_lt (h.born e he)
  ·exact Nat.lt_succ_self _
 ·rw [Array.toList_push, List.map_append, List.nodup_append]
  refine ⟨h.nodup, by simp, fun x hx y hy hxy => ?_⟩
  simp only [List.map_cons, List.map_nil, List.mem_singleton] at hy
  obtain ⟨e, he, hk⟩ := List.mem_map.1 hx
  have := h.born e he
  omega
theorem map_del {es : Array MapEntry} {clk : Nat} {kvs : List (Int × AV)} {vals : Int → Value} (h : MapOK es clk kvs vals) {j : Nat} {e : MapEntry} {n : Int} (hj : es.toList[j]? = some e) (hk : e.key = .int .i64 n) :
  MapOK (es.eraseIdxIfInBounds j) clk (mdel kvs n) vals := by
 have hjl : j < es.size := by
  have := (List.getElem?_eq_some_iff.1 hj).1
  simpa using this
 have hL : (es.eraseIdxIfInBounds j).toList = es.toList.eraseIdx j := by
  unfold Array.eraseIdxIfInBounds
  rw [dif_pos hjl, Array.toList_eraseIdx]
 have hsub : (es.toList.eraseIdx j).Sublist es.toList := List.eraseIdx_sublist _ _
 have hne : ∀ e', e' ∈ es.toList.eraseIdx j → e'.key ≠ .int .i64 n := fun e' he hk' => by
  rw [List.mem_eraseIdx_iff_getElem?] at he
  obtain ⟨i, hi, hi2⟩ := he
  exact hi (nodup_idx h.once (by rw [List.getElem?_map, hi2, Option.map_some, hk']) (by rw [List.getElem?_map, hj, Option.map_some, hk]))
 refine ⟨fun e' he => ?_, fun p hp => ?_, ?_, ?_, mdel_rise h.rise, fun e' he => ?_, ?_⟩
 ·rw [hL] at he
  obtain ⟨k, y, h1, h2, h3⟩ := h.key e' (hsub.subset he)
  refine ⟨k, y, h1, List.mem_filter.2 ⟨h2, ?_⟩, h3⟩
  have : k ≠ n := by rintro rfl; exact hne e' he h1
  simpa using this
 ·obtain ⟨hp1, hp2⟩ := List.mem_filter.1 hp
  obtain ⟨e', he, hk'⟩ := h.has _ hp1
  refine ⟨e', ?_, hk'⟩
  rw [hL, List.mem_eraseIdx_iff_getElem?]
  obtain ⟨i, hi⟩ := List.getElem?_of_mem he
  refine ⟨i, ?_, hi⟩
  rintro rfl
  rw [hj] at hi; injection hi with hi; subst hi
  rw [hk] at hk'; injection hk' with _ hk'
  simp [hk'] at hp2
 ·rw [hL]; exact h.once.sublist (hsub.map _)
 ·have hmem : ∃ x, (n, x) ∈ kvs := by
   obtain ⟨k, x, h1, h2, _⟩ := h.key e (List.mem_of_getElem? hj)
   rw [hk] at h1; injection h1 with _ h1; subst h1
   exact ⟨x, h2⟩
  have hlen : ∀ (l : List (Int × AV)), l.Pairwise (fun a b => a.1 < b.1) → (∃ x, (n, x) ∈ l) → (mdel l n).length + 1 = l.length := by
   intro l
   induction l with
   | nil => rintro _ ⟨x, hx⟩; simp at hx
   | cons p r ih =>
    intro hs hx
    rw [List.pairwise_cons] at hs
    by_cases e1 : p.1 = n
    ·have : r.filter (fun p => !(p.1 == n)) = r := List.filter_eq_self.2 fun q hq => by
      have := hs.1 q hq
      have : q.1 ≠ n := by omega
      simpa using this
     simp [mdel, e1, this]
    ·have h2 : ∃ x, (n, x) ∈ r := by
      obtain ⟨x, hx⟩ := hx
      rcases List.mem_cons.1 hx with h | h
      ·exact absurd (by rw [← h]) e1
      ·exact ⟨x, h⟩
     have := ih hs.2 h2
     simp only [mdel] at this ⊢
     rw [List.filter_cons, if_pos (by simpa using e1)]
     simp [this]
  have h1 := hlen kvs h.rise hmem
  have h2 : (es.eraseIdxIfInBounds j).size + 1 = es.size := by
   rw [← Array.length_toList, hL, List.length_eraseIdx, if_pos (by simpa using hjl), Array.length_toList]; omega
  have := h.len
  omega
 ·rw [hL] at he; exact h.born e' (hsub.subset he)
 ·rw [hL]; exact h.nodup.sublist (hsub.map _)
theorem run_setObj {g : Nat} {o b : Obj} (hb : w.heap[g]? = some b) (hc : ∀ c e f, b ≠ .cells c e f) : ∃ w', (setObj g o).run P w = .ok () w' ∧ w'.os = w.os ∧ w'.tape = w.tape ∧ w'.output = w.output ∧ w'.heap.size = w.heap.size ∧ (∀ b, b ≠ g → w'.heap[b]? = w.heap[b]?) ∧ w'.heap[g]? = some o := by
 have h : g < w.heap.size := (Array.getElem?_eq_some_iff.1 hb).1
 refine ⟨{ w with heap := w.heap.setIfInBounds g o }, ?_, rfl, rfl, rfl, by simp, fun b hb => by simp [Ne.symm hb], by simp [h]⟩
 unfold setObj
 rw [Sem.run.eq_def]
 simp only [hb]
 cases b with
 | cells c e f => exact absurd rfl (hc c e f)
 | _ => rfl
theorem key_stays {n m : Int} (h : n = m) : (Instr.keyThatStays (.int .i64 n) (.int .i64 m)).run P w = .ok (.int .i64 m) w := by
 subst h
 unfold Instr.keyThatStays
 rw [show Instr.sameBits 10000 (.int .i64 n) (.int .i64 n) = true from by unfold Instr.sameBits; simp]
 rfl
theorem sound_put (hT : TabOK P T) (hi : Inv C μ S σ a w) {t : TypeId} {vx vk vv : Value} {x k v : AV} {p : Prop} {hp' : List (Nat × Blk)} (h : putOp T σ t x k v = some (p, hp')) (hp : p)
  (hvx : Rd μ S w vx x) (hvk : Rd μ S w vk k) (hvv : Rd μ S w vv v) : ∃ w', (Instr.mapUpdate t vx vk vv).run P w = .ok () w' ∧ Inv C μ S ⟨σ.tm, hp'⟩ a w' := by
 unfold putOp at h
 split at h
 ·rename_i kt e id n hu
  split at h
  ·rename_i kvs hb
   simp only [gL, gM] at h
   obtain ⟨rfl, rfl⟩ := h
   obtain ⟨hk, hd⟩ := hp
   have hk := i64_of hT hk
   have ht := hT.und t
   rw [hu] at ht
   simp only [KDOK] at ht
   obtain rfl := hvk.inv_int
   obtain ⟨g, hg, rfl⟩ := hvx.inv_mp
   obtain ⟨g', es, clk, vals, k1, k2, k3, k4⟩ := hi.hp _ _ hb
   rw [k1] at hg; injection hg with hg; subst hg
   have hgs : g' < w.heap.size := by
    by_cases h : g' < w.heap.size
    ·exact h
    ·rw [Array.getElem?_eq_none (by omega)] at k2; cases k2
   have hS : ¬ S g' := (hi.dom id g' k1).2.2.1
   have hdeep := hvv.deep hd
   have fin : ∀ (es' : Array MapEntry) (clk' : Nat), MapOK es' clk' (Zp kvs n v) (fun m => if m = n then vv else vals m) → (Instr.mapUpdate t (.map (some g')) (.int .i64 n) vv).run P w = (setObj g' (.map es' clk')).run P w →
     ∃ w', (Instr.mapUpdate t (.map (some g')) (.int .i64 n) vv).run P w = .ok () w' ∧ Inv C μ S ⟨σ.tm, Zh σ.hp id (.map (Zp kvs n v))⟩ a w' := fun es' clk' hm hrun => by
    obtain ⟨w', r1, r2, r3, r4, r5, r6, r7⟩ := run_setObj (P := P) (o := .map es' clk') k2 (fun _ _ _ h => nomatch h)
    have hw : SameOn S w w' := fun b hb => r6 b (by rintro rfl; exact hS hb)
    refine ⟨w', by rw [hrun, r1], hi.write id g' k1 r2 r3 r4 r5 r6 (by simp [Yr, r7, k2]) _ ⟨g', es', clk', _, k1, r7, hm, fun q hq => ?_⟩⟩
    obtain ⟨m, y⟩ := q
    rcases (mem_mput k3.rise m y).1 hq with ⟨rfl, rfl⟩ | ⟨hne, hin⟩
    ·simp only [if_true]; exact hdeep.mono hw (fun _ h => h)
    ·simp only [if_neg hne]; exact (k4 _ hin).mono hw (fun _ h => h)
   rcases k3.find n with ⟨j, en, y, q1, q2, q3, q4, q5⟩ | ⟨q1, q2, q3⟩
   ·refine fin _ clk (map_put k3 q1 q2 q4 vv v) ?_
    have q1' : es[j]? = some en := by rw [← Array.getElem?_toList]; exact q1
    simp [Instr.mapUpdate, run_underlying ht, run_checkKey hk, run_findKey (w := w) hk q5, run_getObj_map k2, q1', q2, key_stays]
   ·refine fin _ (clk + 1) (map_new k3 q1 vv v) ?_
    simp [Instr.mapUpdate, run_underlying ht, run_checkKey hk, run_findKey (w := w) hk q3, run_getObj_map k2]
  ·cases h
 ·cases h
def delOp (T : Tab) (σ : St) (t : TypeId) (x k : AV) : Option (Prop × List (Nat × Blk)) :=
 match T.und t, x, k with
 | .map kt _, .mp id, .int .i64 n =>
  match Yk σ.hp id with
  | some (.map kvs) => some ((T.und kt).isI64 = true, Zh σ.hp id (.map (mdel kvs n)))
  | _ => none
 | _, _, _ => none
theorem sound_del (hT : TabOK P T) (hi : Inv C μ S σ a w) {t u ty : TypeId} {vx vk : Value} {x k : AV} {p : Prop} {hp' : List (Nat × Blk)} (h : delOp T σ t x k = some (p, hp')) (hp : p)
  (hvx : Rd μ S w vx x) (hvk : Rd μ S w vk k) : ∃ w', (Builtin.delete_ #[t, u] ty #[vx, vk]).run P w = .ok (.tuple #[]) w' ∧ Inv C μ S ⟨σ.tm, hp'⟩ a w' := by
 unfold delOp at h
 split at h
 ·rename_i kt e id n hu
  split at h
  ·rename_i kvs hb
   simp only [gL, gM] at h
   obtain ⟨rfl, rfl⟩ := h
   have hk := i64_of hT hp
   have ht := hT.und t
   rw [hu] at ht
   simp only [KDOK] at ht
   obtain rfl := hvk.inv_int
   obtain ⟨g, hg, rfl⟩ := hvx.inv_mp
   obtain ⟨g', es, clk, vals, k1, k2, k3, k4⟩ := hi.hp _ _ hb
   rw [k1] at hg; injection hg with hg; subst hg
   have hgs : g' < w.heap.size := by
    by_cases h : g' < w.heap.size
    ·exact h
    ·rw [Array.getElem?_eq_none (by omega)] at k2; cases k2
   have hS : ¬ S g' := (hi.dom id g' k1).2.2.1
   have fin : ∀ (es' : Array MapEntry), MapOK es' clk (mdel kvs n) vals → (Builtin.delete_ #[t, u] ty #[.map (some g'), .int .i64 n]).run P w = ((setObj g' (.map es' clk)).run P w).andThen (fun _ w => .ok (.tuple #[]) w) →
     ∃ w', (Builtin.delete_ #[t, u] ty #[.map (some g'), .int .i64 n]).run P w = .ok (.tuple #[]) w' ∧ Inv C μ S ⟨σ.tm, Zh σ.hp id (.map (mdel kvs n))⟩ a w' := fun es' hm hrun => by
    obtain ⟨w', r1, r2, r3, r4, r5, r6, r7⟩ := run_setObj (P := P) (o := .map es' clk) k2 (fun _ _ _ h => nomatch h)
    have hw : SameOn S w w' := fun b hb => r6 b (by rintro rfl; exact hS hb)
    exact ⟨w', by rw [hrun, r1]; rfl, hi.write id g' k1 r2 r3 r4 r5 r6 (by simp [Yr, r7, k2]) _ ⟨g', es', clk, _, k1, r7, hm, fun q hq => (k4 q (List.mem_filter.1 hq).1).mono hw (fun _ h => h)⟩⟩
   rcases k3.find n with ⟨j, en, y, q1, q2, q3, q4, q5⟩ | ⟨q1, q2, q3⟩
   ·refine fin _ (map_del k3 q1 q2) ?_
    simp [Builtin.delete_, run_underlying ht, run_checkKey hk, run_findKey (w := w) hk q5, run_getObj_map k2]
   ·refine fin es (by
     have : mdel kvs n = kvs := List.filter_eq_self.2 fun q hq => by
      have : q.1 ≠ n := by rintro rfl; exact mget_none q1 q.2 hq
      simpa using this
     rw [this]; exact k3) ?_
    simp [Builtin.delete_, run_underlying ht, run_checkKey hk, run_findKey (w := w) hk q3, run_getObj_map k2]
  ·cases h
 ·cases h
end
end Go.Eng
namespace Go.Eng
section
variable {P : Program} {T : Tab} {C : Ctx} {σ σ' : St}
def stepOp (T : Tab) (σ : St) (d : Option Tmp) (op : Op) : Option (Prop × St) :=
 match op, d with
 | .build t parts, d => (buildAV T σ t parts.toList).map fun r => (r.1, σ.put d r.2)
 | .alloc t, some d =>
  some (T.siz t ≠ 0 ∧ (T.zer t).length = T.siz t ∧ (σ.room d).1,
   (⟨(σ.room d).2.tm, (d, .cells t (T.siz t) [T.zer t]) :: (σ.room d).2.hp⟩ : St).put (some d) (.ptr d (T.siz t) 0 0))
 | .box t x, some d =>
  match cellsAt T t (evS (σ.room d).2 x).2 with
  | some xs =>
   some ((evS (σ.room d).2 x).1 ∧ xs.length = T.siz t ∧ xs.all AV.leaf = true ∧ (σ.room d).1,
    (⟨(σ.room d).2.tm, (d, .cells t (T.siz t) [xs]) :: (σ.room d).2.hp⟩ : St).put (some d) (.ptr d (T.siz t) 0 0))
  | none => none
 | .buildSlice t n parts, some d =>
  match buildSliceOp T (σ.room d).2 t n parts.toList with
  | some (p, e, rows) =>
   some (p ∧ (σ.room d).1, (⟨(σ.room d).2.tm, (d, .cells e (T.siz e) rows) :: (σ.room d).2.hp⟩ : St).put (some d) (.osl d (T.siz e) 0 n))
  | none => none
 | .makeMap _ none, some d =>
  some ((σ.room d).1, (⟨(σ.room d).2.tm, (d, .map []) :: (σ.room d).2.hp⟩ : St).put (some d) (.mp d))
 | .store t x y, none => (storeOp T σ t (evS σ x).2 (evS σ y).2).map fun r => ((evS σ x).1 ∧ (evS σ y).1 ∧ r.1, ⟨σ.tm, r.2⟩)
 | .call { callee := .builtin .append, args, argTypes }, some d =>
  match args.toList, argTypes.toList with
  | [x, y], [t, u] =>
   if t = u then (appendOp T σ d t (evS σ x).2 (evS σ y).2).map fun r => ((evS σ x).1 ∧ (evS σ y).1 ∧ r.1, r.2.1.put (some d) r.2.2) else none
  | _, _ => none
 | .call { callee := .builtin .clear, args, argTypes }, d =>
  match args.toList, argTypes.toList with
  | [x], [t] => (clearOp T σ t (evS σ x).2).map fun r => ((evS σ x).1 ∧ r.1, (⟨σ.tm, r.2⟩ : St).put d (.tup []))
  | _, _ => none
 | .call { callee := .builtin .copy, args, argTypes }, d =>
  match args.toList, argTypes.toList with
  | [x, y], [t, _] => (copyOp T σ t (evS σ x).2 (evS σ y).2).map fun r => ((evS σ x).1 ∧ (evS σ y).1 ∧ r.1, (⟨σ.tm, r.2.1⟩ : St).put d r.2.2)
  | _, _ => none
 | .call { callee := .builtin .delete, args, argTypes }, d =>
  match args.toList, argTypes.toList with
  | [x, y], [t, _] => (delOp T σ t (evS σ x).2 (evS σ y).2).map fun r => ((evS σ x).1 ∧ (evS σ y).1 ∧ r.1, (⟨σ.tm, r.2⟩ : St).put d (.tup []))
  | _, _ => none
 | .mapUpdate t m k x, none => (putOp T σ t (evS σ m).2 (evS σ k).2 (evS σ x).2).map fun r => ((evS σ m).1 ∧ (evS σ k).1 ∧ (evS σ x).1 ∧ r.1, ⟨σ.tm, r.2⟩)
 | .insert t m k x, none => (putOp T σ t (evS σ m).2 (evS σ k).2 (evS σ x).2).map fun r => ((evS σ m).1 ∧ (evS σ k).1 ∧ (evS σ x).1 ∧ r.1, ⟨σ.tm, r.2⟩)
 | op, d => (pureOp T σ op).map fun r => (r.1, σ.put d r.2)
theorem trip_held {o : Oper} {H : List (Nat × Blk)} {x : AV} (h : ∀ μ S a w, Inv C μ S σ a w → ∃ u w', (execOp a.eval o).run P w = .ok (.value u) w' ∧ Inv C μ S ⟨σ.tm, H⟩ a w' ∧ Rd μ S w' u x) :
  Trip P C o σ ((⟨σ.tm, H⟩ : St).put o.dst x) := by
 intro a w K Q ⟨μ, S, hi⟩ hK
 obtain ⟨u, w', hr, hi', hu⟩ := h μ S a w hi
 unfold Oper.wp
 rw [hr]
 exact hK _ _ ⟨μ, S, hi'.put o.dst hu⟩
theorem trip_skip {o : Oper} (hd : o.dst = none) {H : List (Nat × Blk)} (h : ∀ μ S a w, Inv C μ S σ a w → ∃ w', (execOp a.eval o).run P w = .ok .skip w' ∧ Inv C μ S ⟨σ.tm, H⟩ a w') : Trip P C o σ ⟨σ.tm, H⟩ := by
 intro a w K Q ⟨μ, S, hi⟩ hK
 obtain ⟨w', hr, hi'⟩ := h μ S a w hi
 unfold Oper.wp
 rw [hr]
 show K (a.put o.dst undef) w'
 rw [hd]
 exact hK _ _ ⟨μ, S, hi'⟩
theorem trip_pure (hT : TabOK P T) {o : Oper} {p : Prop} {x : AV} (h : pureOp T σ o.op = some (p, x)) (hp : p) : Trip P C o σ (σ.put o.dst x) :=
 trip_value fun _ _ _ _ hi => sound_pure hT hi o h hp
theorem trip_of_new {o : Oper} {d : Tmp} (hd : o.dst = some d) {x : AV}
  (h : ∀ μ S a w, Inv C μ S σ a w → ∃ u w' μ' S', (execOp a.eval o).run P w = .ok (.value u) w' ∧ Inv C μ' S' σ' a w' ∧ Rd μ' S' w' u x) : Trip P C o σ (σ'.put (some d) x) := by
 intro a w K Q ⟨μ, S, hi⟩ hK
 obtain ⟨u, w', μ', S', hr, hi', hu⟩ := h μ S a w hi
 unfold Oper.wp
 rw [hr]
 show K (a.put o.dst u) w'
 rw [hd]
 exact hK _ _ ⟨μ', S', hi'.put (some d) hu⟩
theorem step_sound (hT : TabOK P T) (o : Oper) {p : Prop} (h : stepOp T σ o.dst o.op = some (p, σ')) (hp : p) : Trip P C o σ σ' := by
 have hpure : (pureOp T σ o.op).map (fun r => (r.1, σ.put o.dst r.2)) = some (p, σ') → Trip P C o σ σ' := fun h => by
  cases e : pureOp T σ o.op with
  | none => rw [e] at h; cases h
  | some q =>
   simp only [e, Option.map_some, gL, gM] at h
   obtain ⟨rfl, rfl⟩ := h
   exact trip_pure hT (p := q.1) (x := q.2) e hp
 unfold stepOp at h
 split at h
 ·rename_i t parts hop
  cases e : buildAV T σ t parts.toList with
  | none => rw [e] at h; cases h
  | some q =>
   simp only [e, Option.map_some, gL, gM] at h
   obtain ⟨rfl, rfl⟩ := h
   refine trip_value fun μ S a w hi => ?_
   obtain ⟨u, h1, h2⟩ := sound_build hT hi (p := q.1) (x := q.2) e hp
   exact ⟨u, by simp only [execOp, hop, Sem.run_bind, h1]; rfl, h2⟩
 ·rename_i t d hop hd
  simp only [gL, gM] at h
  obtain ⟨rfl, rfl⟩ := h
  obtain ⟨h1, h2, h3⟩ := hp
  refine trip_of_new hd fun μ S a w hi => ?_
  obtain ⟨μ1, hi1⟩ := hi.room d h3
  obtain ⟨w', r1, r2⟩ := sound_alloc (P := P) hT hi1 (room_free σ d) h1
  rw [h2] at r2
  exact ⟨_, w', _, S, by simp only [execOp, hop, Sem.run_bind, r1]; rfl, r2, by simpa using Rd.ptr d (T.siz t) 0 0 w.heap.size (by simp [upd])⟩
 ·rename_i t y d hop hd
  split at h
  ·rename_i xs hxs
   simp only [gL, gM] at h
   obtain ⟨rfl, rfl⟩ := h
   obtain ⟨h0, h1, h2, h3⟩ := hp
   refine trip_of_new hd fun μ S a w hi => ?_
   obtain ⟨μ1, hi1⟩ := hi.room d h3
   obtain ⟨c1, _, c3⟩ := cells_of hxs h2 (hi1.evS y h0)
   obtain ⟨w', r1, r2⟩ := sound_box (P := P) (t := t) hi1 (room_free σ d) ⟨c1, c3⟩
   rw [h1] at r2
   exact ⟨_, w', _, S, by simp only [execOp, hop, Sem.run_bind, r1]; rfl, r2, by simpa using Rd.ptr d (T.siz t) 0 0 w.heap.size (by simp [upd])⟩
  ·cases h
 ·rename_i t n parts d hop hd
  split at h
  ·rename_i q e rows hb
   simp only [gL, gM] at h
   obtain ⟨rfl, rfl⟩ := h
   obtain ⟨h1, h3⟩ := hp
   refine trip_of_new hd fun μ S a w hi => ?_
   obtain ⟨μ1, hi1⟩ := hi.room d h3
   obtain ⟨w', r1, r2, r3, r4⟩ := sound_buildSlice (P := P) hT hi1 (room_free σ d) hb h1
   refine ⟨_, w', _, S, by simp only [execOp, hop, Sem.run_bind, r1]; rfl, r2, .osl d (T.siz e) 0 n n _ (Nat.le_refl _) (.inr ⟨w.heap.size, e, n * T.siz e, by simp [upd], by simp, r4, by simp⟩)⟩
  ·cases h
 ·rename_i t d hop hd
  simp only [gL, gM] at h
  obtain ⟨rfl, rfl⟩ := h
  refine trip_of_new hd fun μ S a w hi => ?_
  obtain ⟨μ1, hi1⟩ := hi.room d hp
  obtain ⟨w', r1, r2⟩ := sound_makeMap (P := P) (t := t) hi1 (room_free σ d)
  exact ⟨_, w', _, S, by simp only [execOp, hop, Sem.run_bind, Option.map_none, r1]; rfl, r2, .mp d w.heap.size (by simp [upd])⟩
 ·rename_i t x y hop hd
  cases e : storeOp T σ t (evS σ x).2 (evS σ y).2 with
  | none => rw [e] at h; cases h
  | some q =>
   simp only [e, Option.map_some, gL, gM] at h
   obtain ⟨rfl, rfl⟩ := h
   obtain ⟨h1, h2, h3⟩ := hp
   intro a w K Q ⟨μ, S, hi⟩ hK
   obtain ⟨w', r1, r2⟩ := sound_store (P := P) hT hi (p := q.1) (hp' := q.2) e h3 (hi.evS x h1) (hi.evS y h2)
   unfold Oper.wp
   have : (execOp a.eval o).run P w = .ok .skip w' := by simp only [execOp, hop, Sem.run_bind, r1]; rfl
   rw [this]
   show K (a.put o.dst undef) w'
   rw [hd]
   exact hK _ _ ⟨μ, S, r2⟩
 ·rename_i args ats d hop hd
  split at h
  ·rename_i x y t u hx ht
   split at h
   ·rename_i htu
    subst htu
    cases e : appendOp T σ d t (evS σ x).2 (evS σ y).2 with
    | none => rw [e] at h; cases h
    | some q =>
     simp only [e, Option.map_some, gL, gM] at h
     obtain ⟨rfl, rfl⟩ := h
     obtain ⟨h1, h2, h3⟩ := hp
     have e1 : args = #[x, y] := by cases args; simp_all
     have e2 : ats = #[t, t] := by cases ats; simp_all
     subst e1 e2
     refine trip_of_new hd fun μ S a w hi => ?_
     obtain ⟨u, w', μ', r1, r2, r3⟩ := sound_append (P := P) (ty := o.type) hT hi (p := q.1) (σ' := q.2.1) (r := q.2.2) e h3 (hi.evS x h1) (hi.evS y h2)
     exact ⟨u, w', μ', S, by simp [execOp, hop, resolve, invoke, builtin, r1], r2, r3⟩
   ·cases h
  ·cases h
 ·rename_i args ats hop
  split at h
  ·rename_i x t hx ht
   cases e : clearOp T σ t (evS σ x).2 with
   | none => rw [e] at h; cases h
   | some q =>
    simp only [e, Option.map_some, gL, gM] at h
    obtain ⟨rfl, rfl⟩ := h
    have e1 : args = #[x] := congrArg List.toArray hx
    have e2 : ats = #[t] := congrArg List.toArray ht
    subst e1 e2
    refine trip_held fun μ S a w hi => ?_
    obtain ⟨w', r1, r2⟩ := sound_clear (P := P) (ty := o.type) hT hi (p := q.1) (hp' := q.2) e hp.2 (hi.evS x hp.1)
    exact ⟨_, w', by simp [execOp, hop, resolve, invoke, builtin, r1], r2, .tup #[] [] rfl (fun j x h => by simp at h)⟩
  ·cases h
 ·rename_i args ats hop
  split at h
  ·rename_i x y t u hx ht
   cases e : copyOp T σ t (evS σ x).2 (evS σ y).2 with
   | none => rw [e] at h; cases h
   | some q =>
    simp only [e, Option.map_some, gL, gM] at h
    obtain ⟨rfl, rfl⟩ := h
    have e1 : args = #[x, y] := congrArg List.toArray hx
    have e2 : ats = #[t, u] := congrArg List.toArray ht
    subst e1 e2
    refine trip_held fun μ S a w hi => ?_
    obtain ⟨v, w', r1, r2, r3⟩ := sound_copy (P := P) (u := u) (ty := o.type) hT hi (p := q.1) (hp' := q.2.1) (r := q.2.2) e hp.2.2 (hi.evS x hp.1) (hi.evS y hp.2.1)
    exact ⟨v, w', by simp [execOp, hop, resolve, invoke, builtin, r1], r2, r3⟩
  ·cases h
 ·rename_i args ats hop
  split at h
  ·rename_i x y t u hx ht
   cases e : delOp T σ t (evS σ x).2 (evS σ y).2 with
   | none => rw [e] at h; cases h
   | some q =>
    simp only [e, Option.map_some, gL, gM] at h
    obtain ⟨rfl, rfl⟩ := h
    have e1 : args = #[x, y] := congrArg List.toArray hx
    have e2 : ats = #[t, u] := congrArg List.toArray ht
    subst e1 e2
    refine trip_held fun μ S a w hi => ?_
    obtain ⟨w', r1, r2⟩ := sound_del (P := P) (u := u) (ty := o.type) hT hi (p := q.1) (hp' := q.2) e hp.2.2 (hi.evS x hp.1) (hi.evS y hp.2.1)
    exact ⟨_, w', by simp [execOp, hop, resolve, invoke, builtin, r1], r2, .tup #[] [] rfl (fun j x h => by simp at h)⟩
  ·cases h
 ·rename_i t m k x hop hd
  cases e : putOp T σ t (evS σ m).2 (evS σ k).2 (evS σ x).2 with
  | none => rw [e] at h; cases h
  | some q =>
   simp only [e, Option.map_some, gL, gM] at h
   obtain ⟨rfl, rfl⟩ := h
   refine trip_skip hd fun μ S a w hi => ?_
   obtain ⟨w', r1, r2⟩ := sound_put (P := P) hT hi (p := q.1) (hp' := q.2) e hp.2.2.2 (hi.evS m hp.1) (hi.evS k hp.2.1) (hi.evS x hp.2.2.1)
   exact ⟨w', by simp only [execOp, hop, Sem.run_bind, r1]; rfl, r2⟩
 ·rename_i t m k x hop hd
  cases e : putOp T σ t (evS σ m).2 (evS σ k).2 (evS σ x).2 with
  | none => rw [e] at h; cases h
  | some q =>
   simp only [e, Option.map_some, gL, gM] at h
   obtain ⟨rfl, rfl⟩ := h
   refine trip_skip hd fun μ S a w hi => ?_
   obtain ⟨w', r1, r2⟩ := sound_put (P := P) hT hi (p := q.1) (hp' := q.2) e hp.2.2.2 (hi.evS m hp.1) (hi.evS k hp.2.1) (hi.evS x hp.2.2.1)
   exact ⟨w', by simp only [execOp, hop, Sem.run_bind, r1]; rfl, r2⟩
 ·exact hpure h
def WpL (P : Program) (C : Ctx) (ops : Array Oper) (l : List Oper) (Q : Exit → Act → World → Prop) (σ : St) : Prop := ∀ a w, Rel C σ a w → wpList P ops Q l a w
def Yo (ops : Array Oper) (σ : St) (g : Option (Nat × Bool)) : Option Bool :=
 match g with
 | none => some true
 | some (j, want) =>
  match (ops[j]?).bind (·.dst) with
  | some d =>
   match σ.tm.getD d .any with
   | .bool b => some (b == want)
   | .cnd c (.bool b) => some (c && (b == want))
   | _ => none
  | none => none
theorem Zw {ops : Array Oper} {o : Oper} {c : Bool} {μ : Nat → Option Nat} {S : Nat → Prop} {a : Act} {w : World} (hi : Inv C μ S σ a w) (h : Yo ops σ o.guard = some c) :
  Region.wanted o (yielded ops a.tmps) = c := by
 unfold Region.wanted
 unfold Yo at h
 split at h
 ·rename_i hg
  injection h with h; subst h
  rw [hg]
 ·rename_i j want hg
  rw [hg]
  split at h
  ·rename_i d hd
   have hv := hi.ev (.tmp d)
   simp only [Act.eval, Eng.ev] at hv
   have hy : yielded ops a.tmps j = match a.tmps[d]? with | some (.bool b) => some b | _ => none := by
    unfold yielded; rw [hd]; rfl
   simp only [hy]
   split at h
   ·rename_i b hb
    injection h with h; subst h
    rw [hb] at hv
    have := hv.inv_bool
    rw [Array.getD_eq_getD_getElem?] at this
    cases e : a.tmps[d]? with
    | none => rw [e] at this; cases this
    | some v => rw [e] at this; simp only [Option.getD_some] at this; subst this; cases b <;> cases want <;> rfl
   ·rename_i g b hb
    injection h with h; subst h
    rw [hb] at hv
    rw [Array.getD_eq_getD_getElem?] at hv
    cases e : a.tmps[d]? with
    | none =>
     rw [e] at hv
     simp only [Option.getD_none] at hv
     cases g with
     | false => cases want <;> rfl
     | true =>
      cases hv with
      | pure h => cases h
      | cndT _ _ h => cases h.inv_bool
    | some v =>
     rw [e] at hv
     simp only [Option.getD_some] at hv
     cases hv with
     | pure h => cases h
     | cndT _ _ h => obtain rfl := h.inv_bool; cases b <;> cases want <;> rfl
     | cndF => cases want <;> rfl
   ·cases h
  ·cases h
theorem wpL_step {ops : Array Oper} {o : Oper} {l : List Oper} {Q : Exit → Act → World → Prop} (hg : Yo ops σ o.guard = some true) (ht : Trip P C o σ σ') (h : WpL P C ops l Q σ') : WpL P C ops (o :: l) Q σ := by
 intro a w hr
 unfold wpList
 obtain ⟨μ, S, hi⟩ := hr
 rw [Zw hi hg]
 exact .inl (ht a w _ Q ⟨μ, S, hi⟩ fun a' w' hr' => h a' w' hr')
theorem wpL_skip {ops : Array Oper} {o : Oper} {l : List Oper} {Q : Exit → Act → World → Prop} (hg : Yo ops σ o.guard = some false) (h : WpL P C ops l Q (σ.put o.dst .any)) : WpL P C ops (o :: l) Q σ := by
 intro a w hr
 unfold wpList
 obtain ⟨μ, S, hi⟩ := hr
 rw [Zw hi hg]
 exact h _ _ ⟨μ, S, hi.put o.dst (.any _)⟩
def mkc (c : Bool) : AV → AV
 | .cnd d y => .cnd (c && d) y
 | x => .cnd c x
theorem rd_mkc {μ : Nat → Option Nat} {S : Nat → Prop} {w : World} {v : Value} {c : Bool} {x : AV} (h : Rd μ S w v (.cnd c x)) : Rd μ S w v (mkc c x) := by
 unfold mkc
 split
 ·rename_i d y
  cases h with
  | pure h => cases h
  | cndT _ _ h =>
   cases h with
   | pure h => cases h
   | cndT _ _ h => exact .cndT _ _ h
   | cndF _ => exact .cndF _
  | cndF _ => exact .cndF _
 ·exact h
theorem wpL_cnd (hT : TabOK P T) {ops : Array Oper} {o : Oper} {l : List Oper} {Q : Exit → Act → World → Prop} {c : Bool} {p : Prop} {x : AV} (hg : Yo ops σ o.guard = some c) (hs : pureOp T σ o.op = some (p, x)) (hp : c = true → p)
  (h : WpL P C ops l Q (σ.put o.dst (mkc c x))) : WpL P C ops (o :: l) Q σ := by
 intro a w hr
 unfold wpList
 obtain ⟨μ, S, hi⟩ := hr
 rw [Zw hi hg]
 cases c with
 | false => exact h _ _ ⟨μ, S, hi.put o.dst (rd_mkc (.cndF x))⟩
 | true =>
  refine .inl ?_
  obtain ⟨u, h1, h2⟩ := sound_pure hT hi o hs (hp rfl)
  unfold Oper.wp
  rw [h1]
  exact h _ _ ⟨μ, S, hi.put o.dst (rd_mkc (.cndT u x h2))⟩
def isCall : Op → Bool
 | .call { callee := .value _, .. } => true
 | _ => false
def runL (T : Tab) (ops : Array Oper) : List Oper → St → Option (Prop × List Oper × St)
 | [], σ => some (True, [], σ)
 | o :: l, σ =>
  if isCall o.op then some (True, o :: l, σ) else
  match o.guard with
  | none =>
   match stepOp T σ o.dst o.op with
   | some (p, σ') => (runL T ops l σ').map fun r => (p ∧ r.1, r.2)
   | none => some (True, o :: l, σ)
  | some g =>
   match pureOp T σ o.op with
   | some (p, x) =>
    match Yo ops σ (some g) with
    | some c => (runL T ops l (σ.put o.dst (mkc c x))).map fun r => ((c = true → p) ∧ r.1, r.2)
    | none => some (True, o :: l, σ)
   | none =>
    match Yo ops σ (some g) with
    | some c =>
     if c = true then
      match stepOp T σ o.dst o.op with
      | some (p, σ') => (runL T ops l σ').map fun r => (p ∧ r.1, r.2)
      | none => some (True, o :: l, σ)
     else runL T ops l (σ.put o.dst .any)
    | none => some (True, o :: l, σ)
theorem runL_sound (hT : TabOK P T) (ops : Array Oper) {Q : Exit → Act → World → Prop} : ∀ (l : List Oper) (σ : St) {p : Prop} {l' : List Oper} {σ' : St}, runL T ops l σ = some (p, l', σ') → p → WpL P C ops l' Q σ' → WpL P C ops l Q σ
 | [], σ, p, l', σ', h, _, hK => by
  simp only [runL, gL, gM] at h
  obtain ⟨_, rfl, rfl⟩ := h
  exact hK
 | o :: l, σ, p, l', σ', h, hp, hK => by
  unfold runL at h
  split at h
  ·simp only [gL, gM] at h
   obtain ⟨_, rfl, rfl⟩ := h
   exact hK
  ·split at h
   ·rename_i hg
    split at h
    ·rename_i q σ1 hs
     cases e : runL T ops l σ1 with
     | none => rw [e] at h; cases h
     | some r =>
      obtain ⟨r1, r2, r3⟩ := r
      simp only [e, Option.map_some, gL, gM] at h
      obtain ⟨rfl, rfl, rfl⟩ := h
      exact wpL_step (by rw [hg]; rfl) (step_sound hT o hs hp.1) (runL_sound hT ops l σ1 e hp.2 hK)
    ·simp only [gL, gM] at h
     obtain ⟨_, rfl, rfl⟩ := h
     exact hK
   ·rename_i g hg
    split at h
    ·rename_i q x hs
     split at h
     ·rename_i c hc
      cases e : runL T ops l (σ.put o.dst (mkc c x)) with
      | none => rw [e] at h; cases h
      | some r =>
       obtain ⟨r1, r2, r3⟩ := r
       simp only [e, Option.map_some, gL, gM] at h
       obtain ⟨rfl, rfl, rfl⟩ := h
       exact wpL_cnd hT (by rw [hg]; exact hc) hs hp.1 (runL_sound hT ops l _ e hp.2 hK)
     ·simp only [gL, gM] at h
      obtain ⟨_, rfl, rfl⟩ := h
      exact hK
    ·split at h
     ·rename_i c hc
      split at h
      ·rename_i hct
       subst hct
       split at h
       ·rename_i q σ1 hs
        cases e : runL T ops l σ1 with
        | none => rw [e] at h; cases h
        | some r =>
         obtain ⟨r1, r2, r3⟩ := r
         simp only [e, Option.map_some, gL, gM] at h
         obtain ⟨rfl, rfl, rfl⟩ := h
         exact wpL_step (by rw [hg]; exact hc) (step_sound hT o hs hp.1) (runL_sound hT ops l σ1 e hp.2 hK)
       ·simp only [gL, gM] at h
        obtain ⟨_, rfl, rfl⟩ := h
        exact hK
      ·rename_i hct
       have hcf : c = false := by simpa using hct
       subst hcf
       exact wpL_skip (by rw [hg]; exact hc) (runL_sound hT ops l _ h hp hK)
     ·simp only [gL, gM] at h
      obtain ⟨_, rfl, rfl⟩ := h
      exact hK
theorem runL_then (hT : TabOK P T) (ops : Array Oper) (l2 : List Oper) {Q : Exit → Act → World → Prop} : ∀ (l : List Oper) (σ : St) {p : Prop} {l' : List Oper} {σ' : St}, runL T ops l σ = some (p, l', σ') → p → WpL P C ops (l' ++ l2) Q σ' → WpL P C ops (l ++ l2) Q σ
 | [], σ, p, l', σ', h, _, hK => by
  simp only [runL, gL, gM] at h
  obtain ⟨_, rfl, rfl⟩ := h
  exact hK
 | o :: l, σ, p, l', σ', h, hp, hK => by
  unfold runL at h
  split at h
  ·simp only [gL, gM] at h
   obtain ⟨_, rfl, rfl⟩ := h
   exact hK
  ·split at h
   ·rename_i hg
    split at h
    ·rename_i q σ1 hs
     cases e : runL T ops l σ1 with
     | none => rw [e] at h; cases h
     | some r =>
      obtain ⟨r1, r2, r3⟩ := r
      simp only [e, Option.map_some, gL, gM] at h
      obtain ⟨rfl, rfl, rfl⟩ := h
      exact wpL_step (by rw [hg]; rfl) (step_sound hT o hs hp.1) (runL_then hT ops l2 l σ1 e hp.2 hK)
    ·simp only [gL, gM] at h
     obtain ⟨_, rfl, rfl⟩ := h
     exact hK
   ·rename_i g hg
    split at h
    ·rename_i q x hs
     split at h
     ·rename_i c hc
      cases e : runL T ops l (σ.put o.dst (mkc c x)) with
      | none => rw [e] at h; cases h
      | some r =>
       obtain ⟨r1, r2, r3⟩ := r
       simp only [e, Option.map_some, gL, gM] at h
       obtain ⟨rfl, rfl, rfl⟩ := h
       exact wpL_cnd hT (by rw [hg]; exact hc) hs hp.1 (runL_then hT ops l2 l _ e hp.2 hK)
     ·simp only [gL, gM] at h
      obtain ⟨_, rfl, rfl⟩ := h
      exact hK
    ·split at h
     ·rename_i c hc
      split at h
      ·rename_i hct
       subst hct
       split at h
       ·rename_i q σ1 hs
        cases e : runL T ops l σ1 with
        | none => rw [e] at h; cases h
        | some r =>
         obtain ⟨r1, r2, r3⟩ := r
         simp only [e, Option.map_some, gL, gM] at h
         obtain ⟨rfl, rfl, rfl⟩ := h
         exact wpL_step (by rw [hg]; exact hc) (step_sound hT o hs hp.1) (runL_then hT ops l2 l σ1 e hp.2 hK)
       ·simp only [gL, gM] at h
        obtain ⟨_, rfl, rfl⟩ := h
        exact hK
      ·rename_i hct
       have hcf : c = false := by simpa using hct
       subst hcf
       exact wpL_skip (by rw [hg]; exact hc) (runL_then hT ops l2 l _ h hp hK)
     ·simp only [gL, gM] at h
      obtain ⟨_, rfl, rfl⟩ := h
      exact hK
end
end Go.Eng
namespace Go.Eng
section
variable {P : Program} {T : Tab} {C : Ctx} {σ σ' : St}
inductive It where
 | code (c : Code)
 | ops (all : Array Oper) (l : List Oper)
 | blk (id : Nat)
 | back (J : St → Prop)
def aft (R : Act → World → Prop) (s : (Act → World → Prop) × (Nat → Act → World → Prop)) : Exit → Act → World → Prop
 | .normal, a, w => s.1 a w
 | .ret, a, w => R a w
 | .exit id, a, w => s.2 id a w
 | _, _, _ => False
def sem (P : Program) (C : Ctx) (R : Act → World → Prop) : List It → (Act → World → Prop) × (Nat → Act → World → Prop)
 | [] => (R, fun _ _ _ => False)
 | .code c :: k => (fun a w => c.wp P (aft R (sem P C R k)) a w, (sem P C R k).2)
 | .ops all l :: k => (fun a w => wpList P all (aft R (sem P C R k)) l a w, (sem P C R k).2)
 | .blk id :: k => ((sem P C R k).1, fun i => if id = i then (sem P C R k).1 else (sem P C R k).2 i)
 | .back J :: k => (fun a w => ∃ σ', J σ' ∧ Rel C σ' a w, (sem P C R k).2)
def RetOf (C : Ctx) (Ret : St → Prop) : Act → World → Prop := fun a w => ∃ σ', Ret σ' ∧ Rel C σ' a w
def Cw (P : Program) (C : Ctx) (Ret : St → Prop) (k : List It) (σ : St) : Prop := ∀ a w, Rel C σ a w → (sem P C (RetOf C Ret) k).1 a w
def Le (C : Ctx) (σ σ' : St) : Prop := ∀ a w, Rel C σ a w → Rel C σ' a w
variable {Ret : St → Prop} {k : List It}
theorem Yl (hl : Le C σ σ') (h : Cw P C Ret k σ') : Cw P C Ret k σ := fun a w hr => h a w (hl a w hr)
theorem cw_nil (h : Ret σ) : Cw P C Ret [] σ := fun _ _ hr => ⟨σ, h, hr⟩
theorem cw_blk {id : Nat} (h : Cw P C Ret k σ) : Cw P C Ret (.blk id :: k) σ := h
theorem ZB {J : St → Prop} (h : J σ) : Cw P C Ret (.back J :: k) σ := fun _ _ hr => ⟨σ, h, hr⟩
theorem cw_skip (h : Cw P C Ret k σ) : Cw P C Ret (.code .skip :: k) σ := fun a w hr => wp_skip (h a w hr)
theorem cw_ret (h : Ret σ) : Cw P C Ret (.code .ret :: k) σ := fun _ _ hr => wp_ret ⟨σ, h, hr⟩
theorem cw_seq {x y : Code} (h : Cw P C Ret (.code x :: .code y :: k) σ) : Cw P C Ret (.code (.seq x y) :: k) σ := fun a w hr =>
 wp_seq (wp_mono (h a w hr) fun e a w q => by cases e <;> first | exact q | exact q.elim)
theorem cw_region {id : Nat} {ops : Array Oper} (h : Cw P C Ret (.ops ops ops.toList :: k) σ) : Cw P C Ret (.code (.region id ops false) :: k) σ := fun a w hr =>
 wp_region_list (h a w hr)
theorem cw_cond {c : Operand} {x y : Code} {b : Bool} {p : Prop} (hc : evS σ c = (p, .bool b)) (hp : p) (ht : b = true → Cw P C Ret (.code x :: k) σ) (hf : b = false → Cw P C Ret (.code y :: k) σ) :
  Cw P C Ret (.code (.cond c x y) :: k) σ := fun a w hr => by
 obtain ⟨μ, S, hi⟩ := hr
 have hv := hi.evS c (by rw [hc]; exact hp)
 rw [hc] at hv
 exact wp_cond_split hv.inv_bool (fun h => ht h a w ⟨μ, S, hi⟩) (fun h => hf h a w ⟨μ, S, hi⟩)
theorem cw_block {id : Nat} {c : Code} (h : Cw P C Ret (.code c :: .blk id :: k) σ) : Cw P C Ret (.code (.block id c) :: k) σ := fun a w hr =>
 wp_block (wp_mono (h a w hr) fun e a w q => by
  cases e with
  | exit i =>
   simp only [aft, sem] at q
   simp only [Exit.inBlock]
   by_cases e : id = i
   ·rw [if_pos e] at q; rw [if_pos e.symm]; exact q
   ·rw [if_neg e] at q; rw [if_neg (fun h => e h.symm)]; exact q
  | _ => first | exact q | exact q.elim)
def exitTo : Nat → List It → Option (List It)
 | id, .blk i :: k => if i = id then some k else exitTo id k
 | id, _ :: k => exitTo id k
 | _, [] => none
theorem sem_exit {R : Act → World → Prop} {id : Nat} : ∀ {k k' : List It}, exitTo id k = some k' → (sem P C R k).2 id = (sem P C R k').1
 | [], _, h => by cases h
 | .blk i :: k, k', h => by
  simp only [exitTo] at h
  simp only [sem]
  split at h
  ·rename_i e; injection h with h; subst h; rw [if_pos e]
  ·rename_i e; rw [if_neg e]; exact sem_exit h
 | .code c :: k, k', h => by simp only [sem]; exact sem_exit (k := k) (by simpa [exitTo] using h)
 | .ops a l :: k, k', h => by simp only [sem]; exact sem_exit (k := k) (by simpa [exitTo] using h)
 | .back J :: k, k', h => by simp only [sem]; exact sem_exit (k := k) (by simpa [exitTo] using h)
theorem cw_exit {id : Nat} {k' : List It} (he : exitTo id k = some k') (h : Cw P C Ret k' σ) : Cw P C Ret (.code (.exit id) :: k) σ := fun a w hr =>
 wp_exit (by show (sem P C _ k).2 id a w; rw [sem_exit he]; exact h a w hr)
theorem cw_ops_nil {all : Array Oper} (h : Cw P C Ret k σ) : Cw P C Ret (.ops all [] :: k) σ := fun a w hr => h a w hr
theorem cw_run (hT : TabOK P T) {all : Array Oper} {l l' : List Oper} {p : Prop} (h : runL T all l σ = some (p, l', σ')) (hp : p) (hk : Cw P C Ret (.ops all l' :: k) σ') : Cw P C Ret (.ops all l :: k) σ :=
 runL_sound hT all l σ h hp hk
theorem cw_step {all : Array Oper} {o : Oper} {l : List Oper} (hg : Yo all σ o.guard = some true) (ht : Trip P C o σ σ') (hk : Cw P C Ret (.ops all l :: k) σ') : Cw P C Ret (.ops all (o :: l) :: k) σ :=
 wpL_step hg ht hk
open Classical in
theorem least {p : Nat → Prop} (h : ∃ n, p n) : ∃ n, p n ∧ ∀ m, m < n → ¬ p m := by
 obtain ⟨n, hn⟩ := h
 induction n using Nat.strongRecOn with
 | _ n ih =>
  by_cases h' : ∃ m, m < n ∧ p m
  ·obtain ⟨m, h1, h2⟩ := h'
   exact ih m h1 h2
  ·exact ⟨n, hn, fun m hm hp => h' ⟨m, hm, hp⟩⟩
theorem cw_loop {ι : Type} (I : ι → St) (m : ι → Nat) (i0 : ι) {c : Code} (h0 : Le C σ (I i0))
  (round : ∀ i, Cw P C Ret (.code c :: .back (fun s => ∃ j, m j < m i ∧ Le C s (I j)) :: k) (I i)) : Cw P C Ret (.code (.loop c) :: k) σ := by
 classical
 intro a w hr
 let At (a : Act) (w : World) (n : Nat) : Prop := ∃ i, m i = n ∧ Rel C (I i) a w
 let M (a : Act) (w : World) : Nat := if h : ∃ n, At a w n then Classical.choose (least h) else 0
 have hM : ∀ a w, (∃ n, At a w n) → At a w (M a w) ∧ ∀ n, At a w n → M a w ≤ n := fun a w h => by
  have e : M a w = Classical.choose (least h) := dif_pos h
  obtain ⟨h1, h2⟩ := Classical.choose_spec (least h)
  rw [e]
  refine ⟨h1, fun n hn => ?_⟩
  rcases Nat.lt_or_ge n (Classical.choose (least h)) with h3 | h3
  ·exact absurd hn (h2 n h3)
  ·exact h3
 refine wp_loop (fun a w => ∃ i, Rel C (I i) a w) M ⟨i0, h0 a w hr⟩ fun a' w' ⟨i', hi'⟩ => ?_
 obtain ⟨⟨i, hi, hri⟩, _⟩ := hM a' w' ⟨m i', i', rfl, hi'⟩
 have := round i a' w' hri
 refine wp_mono this fun e a2 w2 q => ?_
 cases e with
 | normal =>
  obtain ⟨s, ⟨j, hj, hle⟩, hrs⟩ := q
  have hrj := hle a2 w2 hrs
  refine ⟨⟨j, hrj⟩, ?_⟩
  have := (hM a2 w2 ⟨m j, j, rfl, hrj⟩).2 (m j) ⟨j, rfl, hrj⟩
  omega
 | _ => first | exact q | exact q.elim
def resOne (T : Tab) (σ : St) : ResultVar → Option (Prop × AV)
 | .tmp t => some (True, σ.tm.getD t .any)
 | .cell a t => loadOp T σ t (σ.tm.getD a .any)
def resFun (a : Act) : ResultVar → Sem Value
 | .tmp t => pure (a.tmps.getD t undef)
 | .cell x t => do loadVar t (← asAddr (a.tmps.getD x undef))
theorem results_eq (fn : Func) (a : Act) : results fn a.tmps = (do
  let vs ← fn.results.mapM (resFun a)
  pure (if h : vs.size = 1 then vs[0] else .tuple vs)) := rfl
def resL (T : Tab) (σ : St) : List ResultVar → Option (Prop × List AV)
 | [] => some (True, [])
 | r :: rs =>
  match resOne T σ r, resL T σ rs with
  | some (p, x), some (q, l) => some (p ∧ q, x :: l)
  | _, _ => none
def one : List AV → AV
 | [x] => x
 | l => .tup l
def resAV (T : Tab) (σ : St) (rs : List ResultVar) : Option (Prop × AV) := (resL T σ rs).map fun r => (r.1, one r.2)
section
variable {μ : Nat → Option Nat} {S : Nat → Prop} {a : Act} {w : World}
theorem resL_sound (hT : TabOK P T) (hi : Inv C μ S σ a w) : ∀ (rs : List ResultVar) {p : Prop} {l : List AV}, resL T σ rs = some (p, l) → p →
  ∃ vs : List Value, (rs.mapM (resFun a)).run P w = .ok vs w ∧
   vs.length = l.length ∧ ∀ (j : Nat) x, l[j]? = some x → Rd μ S w (vs.getD j undef) x
 | [], p, l, h, _ => by
  simp only [resL, gL, gM] at h
  obtain ⟨_, rfl⟩ := h
  exact ⟨[], by simp, rfl, fun j x hx => by simp at hx⟩
 | r :: rs, p, l, h, hp => by
  unfold resL at h
  split at h
  ·rename_i p1 x q l' h1 h2
   simp only [gL, gM] at h
   obtain ⟨rfl, rfl⟩ := h
   obtain ⟨vs, k1, k2, k3⟩ := resL_sound hT hi rs h2 hp.2
   have key : ∃ u, (resFun a r).run P w = .ok u w ∧ Rd μ S w u x := by
    cases r with
    | tmp t =>
     simp only [resOne, gL, gM] at h1
     obtain ⟨_, rfl⟩ := h1
     exact ⟨_, rfl, hi.ev (.tmp t)⟩
    | cell b t =>
     simp only [resOne] at h1
     obtain ⟨u, j1, j2⟩ := sound_load hT hi h1 hp.1 (hi.ev (.tmp b))
     refine ⟨u, ?_, j2⟩
     have hv := hi.ev (.tmp b)
     simp only [Act.eval] at hv j1
     simp only [resFun, Instr.loadAt, Sem.run_bind] at j1 ⊢
     revert j1
     cases a.tmps.getD b undef <;> simp [Instr.sureAddr, asAddr]
     rename_i A
     cases A <;> simp
   obtain ⟨u, j1, j2⟩ := key
   refine ⟨u :: vs, ?_, by simp [k2], fun j y hy => ?_⟩
   ·rw [List.mapM_cons]
    simp only [Sem.run_bind, j1, Result.andThen_ok, k1, Sem.run_pure]
   ·cases j with
    | zero => simp only [List.getElem?_cons_zero, Option.some.injEq] at hy; subst hy; exact j2
    | succ j => simpa using k3 j y (by simpa using hy)
  ·cases h
theorem res_sound (hT : TabOK P T) (hi : Inv C μ S σ a w) {fn : Func} {p : Prop} {r : AV} (h : resAV T σ fn.results.toList = some (p, r)) (hp : p) :
  ∃ v, (results fn a.tmps).run P w = .ok v w ∧ Rd μ S w v r := by
 unfold resAV at h
 cases e : resL T σ fn.results.toList with
 | none => rw [e] at h; cases h
 | some q =>
  obtain ⟨q1, l⟩ := q
  simp only [e, Option.map_some, gL, gM] at h
  obtain ⟨rfl, rfl⟩ := h
  obtain ⟨vs, h1, h2, h3⟩ := resL_sound hT hi _ e hp
  refine ⟨if h : vs.toArray.size = 1 then vs.toArray[0] else .tuple vs.toArray, ?_, ?_⟩
  ·rw [results_eq]
   rw [Array.mapM_eq_mapM_toList]
   simp only [Sem.run_bind, Sem.run_map, h1, Result.andThen_ok, Sem.run_pure]
  ·match l, h2, h3 with
   | [], h2, h3 =>
    have : vs = [] := List.eq_nil_of_length_eq_zero h2
    subst this
    exact .tup #[] [] rfl (fun j x hx => by simp at hx)
   | [x], h2, h3 =>
    match vs, h2 with
    | [v], _ => simpa [one] using h3 0 x rfl
   | x :: y :: l, h2, h3 =>
    rw [dif_neg (by simp at h2 ⊢; omega)]
    exact .tup _ _ (by simpa using h2) (fun j z hz => by
     have := h3 j z hz
     rwa [Array.getD_eq_getD_getElem?, List.getElem?_toArray, ← List.getD_eq_getElem?_getD])
end
structure HpOK (μ : Nat → Option Nat) (S : Nat → Prop) (w : World) (H : List (Nat × Blk)) : Prop where
 blk : ∀ id b, Yk H id = some b → BlkOK μ S w id b
 dom : ∀ id g, μ id = some g → (∃ b, Yk H id = some b) ∧ ¬ S g ∧ g < w.heap.size
 inj : ∀ id id' g, μ id = some g → μ id' = some g → id = id'
 glob : GOK μ w
def FnOK (P : Program) (f : FuncId) (args : List AV) (H : List (Nat × Blk)) (post : AV → List (Nat × Blk) → Prop) : Prop :=
 ∀ (R0 : Nat → Prop) (μ : Nat → Option Nat) (w0 : World) (vs : List Value), vs.length = args.length → (∀ (j : Nat) x, args[j]? = some x → Rd μ R0 w0 (vs.getD j undef) x) →
  HpOK μ R0 w0 H → (∀ b, R0 b → b < w0.heap.size) →
  Calls P f vs.toArray w0 fun e w' => ∃ v r H' μ' S', e = .returned v ∧ post r H' ∧ Rd μ' S' w' v r ∧ HpOK μ' S' w' H' ∧ Frm (fun g => ∃ id, μ id = some g) w0 w' ∧
   (∀ id g, μ' id = some g → (∃ id', μ id' = some g) ∨ w0.heap.size ≤ g) ∧ (∀ b, S' b → b < w'.heap.size ∧ (R0 b ∨ (∃ id, μ id = some b) ∨ w0.heap.size ≤ b))
theorem fn_of_cw (hT : TabOK P T) {f : FuncId} {fn : Func} {c : Code} {args : List AV} {H : List (Nat × Blk)} {post : AV → List (Nat × Blk) → Prop}
  (hf : P.funcs[f]? = some fn) (hb : fn.body = some c)
  (h : ∀ C : Ctx, Cw P C (fun s => ∃ p r, resAV T s fn.results.toList = some (p, r) ∧ p ∧ post r s.hp) [.code c] ⟨args ++ List.replicate (fn.ntmps - args.length) .any, H⟩) : FnOK P f args H post := by
 intro R0 μ w0 vs hl hargs hH hR
 let C : Ctx := ⟨w0, fun g => ∃ id, μ id = some g, R0, hH.glob⟩
 refine calls_of_wp hf hb ?_
 have hrel : Rel C ⟨args ++ List.replicate (fn.ntmps - args.length) .any, H⟩ { tmps := vs.toArray ++ Array.replicate (fn.ntmps - vs.toArray.size) undef, defers := [] } w0 := by
  refine ⟨μ, R0, by simp [hl], rfl, fun t x hx => ?_, hH.blk, fun id g hg => ⟨(hH.dom id g hg).1, .inl ⟨id, hg⟩, (hH.dom id g hg).2⟩, hH.inj, Frm.refl _ _, fun b hb => ⟨hR b hb, .inl hb⟩⟩
  by_cases ht : t < args.length
  ·rw [List.getElem?_append_left ht] at hx
   have := hargs t x hx
   rw [List.getD_eq_getElem?_getD] at this
   rw [Array.getD_eq_getD_getElem?, Array.getElem?_append_left (by simpa [hl] using ht)]
   simpa using this
  ·rw [List.getElem?_append_right (by omega), List.getElem?_replicate] at hx
   split at hx
   ·injection hx with hx; subst hx; exact .any _
   ·cases hx
 have hw := h C _ _ hrel
 refine wp_mono hw fun ex a w q => ?_
 have key : RetOf C (fun s => ∃ p r, resAV T s fn.results.toList = some (p, r) ∧ p ∧ post r s.hp) a w → a.defers = [] ∧ ∃ v, (results fn a.tmps).run P w = .ok v w ∧
   ∃ v' r H' μ' S', Ending.returned v = .returned v' ∧ post r H' ∧ Rd μ' S' w v' r ∧ HpOK μ' S' w H' ∧ Frm (fun g => ∃ id, μ id = some g) w0 w ∧
   (∀ id g, μ' id = some g → (∃ id', μ id' = some g) ∨ w0.heap.size ≤ g) ∧ (∀ b, S' b → b < w.heap.size ∧ (R0 b ∨ (∃ id, μ id = some b) ∨ w0.heap.size ≤ b)) := by
  rintro ⟨s, ⟨p, r, h1, h2, h3⟩, μ', S', hi⟩
  obtain ⟨v, k1, k2⟩ := res_sound hT hi h1 h2
  exact ⟨hi.defers, v, k1, v, r, s.hp, μ', S', rfl, h3, k2, ⟨hi.hp, fun id g hg => ⟨(hi.dom id g hg).1, (hi.dom id g hg).2.2⟩, hi.inj, hi.gok⟩, hi.frm, fun id g hg => (hi.dom id g hg).2.1, hi.sb⟩
 cases ex with
 | normal => exact key q
 | ret => exact key q
 | exit id => exact q.elim
 | _ => exact q.elim
end
end Go.Eng
namespace Go.Eng
section
variable {P : Program} {T : Tab} {C : Ctx} {σ σ' : St}
def Callable (P : Program) (f : FuncId) : Prop := ∃ fn, P.funcs[f]? = some fn ∧ (fn.name == "runtime.NumGoroutine") = false ∧ fn.body.isSome = true
mutual
def AV.scalar : AV → Bool
 | .int .. | .bool _ | .str _ | .nilp | .nili | .ifc | .nils | .nilm => true
 | .tup vs => scalarL vs
 | .agg vs => scalarL vs
 | _ => false
def scalarL : List AV → Bool
 | [] => true
 | x :: r => x.scalar && scalarL r
end
theorem scalarL_mem {x : AV} : ∀ {l : List AV} {j : Nat}, scalarL l = true → l[j]? = some x → x.scalar = true
 | [], j, _, h => by simp at h
 | y :: r, j, hl, h => by
  simp only [scalarL, Bool.and_eq_true] at hl
  cases j with
  | zero => simp only [List.getElem?_cons_zero, Option.some.injEq] at h; subst h; exact hl.1
  | succ j => exact scalarL_mem hl.2 (by simpa using h)
theorem RdP.scalar {S S' : Nat → Prop} {w w' : World} {v : Value} {x : AV} (h : RdP S w v x) (hx : x.scalar = true) : RdP S' w' v x := by
 induction h with
 | int k n => exact .int k n
 | bool b => exact .bool b
 | str s l h => exact .str s l h
 | nilp => exact .nilp
 | nili => exact .nili
 | ifc t p => exact .ifc t p
 | nils => exact .nils
 | nilm => exact .nilm
 | agg cs cells hl hr ih => exact .agg cs cells hl (fun j x hj => ih j x hj (scalarL_mem (by simpa [AV.scalar] using hx) hj))
 | sl => cases hx
 | rp => cases hx
 | rm => cases hx
 | fn => cases hx
theorem Rd.scalar {μ μ' : Nat → Option Nat} {S S' : Nat → Prop} {w w' : World} {v : Value} {x : AV} (h : Rd μ S w v x) (hx : x.scalar = true) : Rd μ' S' w' v x := by
 induction h with
 | any => cases hx
 | pure h => exact .pure (h.scalar hx)
 | agg cs cells hl hr ih => exact .agg cs cells hl (fun j x hj => ih j x hj (scalarL_mem (by simpa [AV.scalar] using hx) hj))
 | tup cs cells hl hr ih => exact .tup cs cells hl (fun j x hj => ih j x hj (scalarL_mem (by simpa [AV.scalar] using hx) hj))
 | fn => cases hx
 | ptr => cases hx
 | osl => cases hx
 | mp => cases hx
 | exs => cases hx
 | cndT => cases hx
 | cndF => cases hx
theorem Rd.free {μ μ' : Nat → Option Nat} {S : Nat → Prop} {w : World} {v : Value} {x : AV} (h : Rd μ S w v x) (hx : refs x = []) : Rd μ' S w v x := by
 induction h with
 | any v => exact .any v
 | pure h => exact .pure h
 | agg cs cells hl hr ih => exact .agg cs cells hl (fun j x hj => ih j x hj (refsL_nil (by simpa [refs] using hx) hj))
 | tup cs cells hl hr ih => exact .tup cs cells hl (fun j x hj => ih j x hj (refsL_nil (by simpa [refs] using hx) hj))
 | fn f vals caps hl hr ih => exact .fn f vals caps hl (fun j x hj => ih j x hj (refsL_nil (by simpa [refs] using hx) hj))
 | ptr => simp [refs] at hx
 | osl => simp [refs] at hx
 | mp => simp [refs] at hx
 | exs => simp [refs] at hx
 | cndT v x h ih => exact .cndT v x (ih (by simpa [refs] using hx))
 | cndF x => exact .cndF x
where
 refsL_nil {x : AV} : ∀ {l : List AV} {j : Nat}, refsL l = [] → l[j]? = some x → refs x = []
  | [], j, _, h => by simp at h
  | y :: r, j, hl, h => by
   simp only [refsL, List.append_eq_nil_iff] at hl
   cases j with
   | zero => simp only [List.getElem?_cons_zero, Option.some.injEq] at h; subst h; exact hl.1
   | succ j => exact refsL_nil hl.2 (by simpa using h)
theorem Inv.called {μ : Nat → Option Nat} {S S' : Nat → Prop} {a : Act} {w w' : World} (hi : Inv C μ S σ a w) (hf : Frm (fun _ => False) w w')
  (hS : ∀ b, S' b → b < w'.heap.size ∧ (S b ∨ w.heap.size ≤ b)) : Inv C μ (fun b => S b ∨ S' b) σ a w' := by
 have hb : ∀ b, b < w.heap.size → w'.heap[b]? = w.heap[b]? := fun b h => hf.block b h (fun h => h)
 have hw : SameOn S w w' := fun b h => hb b (hi.sb b h).1
 have hz : ∀ i g, μ i = some g → Yr w' g = Yr w g := fun i g h => rowSize_same (hb g (hi.dom i g h).2.2.2)
 refine ⟨hi.size, hi.defers, fun t x hx => (hi.tm t x hx).mono hw (fun _ h => .inl h) (fun _ _ h => h) hz, fun i b h => (hi.hp i b h).mono hw (fun _ h => .inl h) (fun _ _ h => h) hz (fun h => h) (fun g h => hb g (hi.dom i g h).2.2.2), fun i g h => ?_, hi.inj, hi.frm.step (fun _ => False) hf (fun _ h => h.elim), fun b h => ?_⟩
 ·obtain ⟨h1, h2, h3, h4⟩ := hi.dom i g h
  refine ⟨h1, h2, ?_, Nat.lt_of_lt_of_le h4 hf.size⟩
  rintro (h | h)
  ·exact h3 h
  ·rcases (hS g h).2 with h | h
   ·exact h3 h
   ·omega
 ·rcases h with h | h
  ·exact ⟨Nat.lt_of_lt_of_le (hi.sb b h).1 hf.size, (hi.sb b h).2⟩
  ·refine ⟨(hS b h).1, ?_⟩
   rcases (hS b h).2 with h | h
   ·exact (hi.sb b h).2
   ·have := hi.frm.size
    exact .inr (.inr (by omega))
def Yc (σ : St) (c : Operand) (args : List Operand) : Option (Prop × FuncId × List AV) :=
 match evS σ c with
 | (p, .fn f caps) => some (p ∧ (evSL σ args).1, f, (evSL σ args).2 ++ caps)
 | _ => none
theorem exec_call {o : Oper} {c : Operand} {args : Array Operand} {ats : Array TypeId} {μ : Nat → Option Nat} {S : Nat → Prop} {a : Act} {w : World} (hi : Inv C μ S σ a w)
  (ho : o.op = .call { callee := .value c, args, argTypes := ats }) {p : Prop} {f : FuncId} {xs : List AV} (h : Yc σ c args.toList = some (p, f, xs)) (hp : p) (hc : Callable P f) :
  ∃ vs : List Value, vs.length = xs.length ∧ (∀ (j : Nat) x, xs[j]? = some x → Rd μ S w (vs.getD j undef) x) ∧ (execOp a.eval o).run P w = .ok (.enter f vs.toArray) w := by
 unfold Yc at h
 split at h
 ·rename_i q f' caps hev
  simp only [gL, gM] at h
  obtain ⟨rfl, rfl, rfl⟩ := h
  have hv := hi.evS c (by rw [hev]; exact hp.1)
  rw [hev] at hv
  obtain ⟨vals, he, hl, hr⟩ := hv.inv_fn
  obtain ⟨fn, hf, hn, hb⟩ := hc
  refine ⟨args.toList.map a.eval ++ vals.toList, by simp [evSL_len, hl], fun j x hx => ?_, ?_⟩
  ·by_cases hj : j < args.toList.length
   ·rw [List.getElem?_append_left (by rw [evSL_len]; exact hj)] at hx
    obtain ⟨o', ho', hr'⟩ := hi.evSL _ hp.2 j x hx
    rw [List.getD_eq_getElem?_getD, List.getElem?_append_left (by simpa using hj), List.getElem?_map, ho']
    exact hr'
   ·rw [List.getElem?_append_right (by rw [evSL_len]; omega), evSL_len] at hx
    have := hr _ x hx
    rw [List.getD_eq_getElem?_getD, List.getElem?_append_right (by simpa using hj)]
    rw [Array.getD_eq_getD_getElem?, ← Array.getElem?_toList] at this
    rw [List.length_map]
    exact this
  ·have hb' : ¬ fn.body = none := by intro e; rw [e] at hb; cases hb
   have hn' : ¬ fn.name = "runtime.NumGoroutine" := by simpa using hn
   have e1 : (#[] ++ args.map a.eval ++ vals) = (args.toList.map a.eval ++ vals.toList).toArray := by
    apply Array.ext'; simp
   simp [execOp, ho, resolve, he, Deferred.ofValue, invoke, callFunc, hf, hn', hb']
 ·cases h
theorem trip_call {o : Oper} {c : Operand} {args : Array Operand} {ats : Array TypeId} (ho : o.op = .call { callee := .value c, args, argTypes := ats }) {p : Prop} {f : FuncId} {xs : List AV}
  (h : Yc σ c args.toList = some (p, f, xs)) (hp : p) (hc : Callable P f) (hx : refsL xs = []) {r : AV} (hr : refs r = []) (hf : FnOK P f xs [] fun r' _ => r' = r) : Trip P C o σ (σ.put o.dst r) := by
 intro a w K Q ⟨μ, S, hi⟩ hK
 obtain ⟨vs, h1, h2, h3⟩ := exec_call hi ho h hp hc
 unfold Oper.wp
 rw [h3]
 refine (hf S (fun _ => none) w vs h1 (fun j x hj => (h2 j x hj).free (Rd.free.refsL_nil hx hj)) ⟨fun id b h => by simp [Yk] at h, fun id g h => (by cases h), fun id id' g h => (by cases h), hi.gok.nil⟩ (fun b hb => (hi.sb b hb).1)).mono ?_
 rintro e w' ⟨v, r', H', μ', S', rfl, rfl, k1, k2, k3, k4, k5⟩
 have hfr : Frm (fun _ => False) w w' := ⟨k3.os, k3.tape, k3.output, k3.size, fun b hb _ => k3.block b hb (by rintro ⟨id, h⟩; cases h)⟩
 have hi' := hi.called hfr (S' := S') (fun b hb => ⟨(k5 b hb).1, by
  rcases (k5 b hb).2 with h | ⟨id, h⟩ | h
  ·exact .inl h
  ·cases h
  ·exact .inr h⟩)
 exact hK _ _ ⟨μ, _, hi'.put o.dst ((k1.mono (SameOn.refl _ _) (fun _ h => .inr h) (fun _ _ h => h) (fun _ _ _ => rfl)).free hr)⟩
mutual
def view (h : List (Nat × Blk)) : AV → Option (Prop × AV)
 | .osl id s off len =>
  match Yk h id with
  | some (.cells _ s' rows) => if s = s' then some (off + len ≤ rows.length ∧ (rows.all fun row => row.all AV.pureB) = true, .sl ((rows.drop off).take len)) else none
  | _ => none
 | .ptr id s row off =>
  match Yk h id with
  | some (.cells _ s' rows) => if s = s' then some (row < rows.length ∧ ((rows.getD row []).all AV.pureB) = true, .rp (rows.getD row []) off) else none
  | _ => none
 | .mp id =>
  match Yk h id with
  | some (.map kvs) => some (True, .rm kvs)
  | _ => none
 | .fn f caps => (viewL h caps).map fun r => (r.1, .fn f r.2)
 | .agg cells => (viewL h cells).map fun r => (r.1, .agg r.2)
 | .any => none
 | .tup _ => none
 | .cnd .. => none
 | .exs .. => none
 | x => some (True, x)
def viewL (h : List (Nat × Blk)) : List AV → Option (Prop × List AV)
 | [] => some (True, [])
 | x :: r =>
  match view h x, viewL h r with
  | some (p, y), some (q, l) => some (p ∧ q, y :: l)
  | _, _ => none
end
theorem row_get {l : List (List AV)} {i : Nat} (h : i < l.length) : l[i]? = some (l.getD i []) := by
 rw [List.getD_eq_getElem?_getD, List.getElem?_eq_getElem h]; rfl
mutual
theorem view_sound {μ : Nat → Option Nat} {S : Nat → Prop} {a : Act} {w : World} (hi : Inv C μ S σ a w) : ∀ (x : AV) {p : Prop} {y : AV} {v : Value}, view σ.hp x = some (p, y) → p → Rd μ S w v x →
  RdP (fun b => S b ∨ ∃ id, μ id = some b) w v y
 | .osl id s off len, p, y, v, h, hp, hv => by
  simp only [view] at h
  split at h
  ·rename_i e s' rows hb
   split at h
   ·rename_i hs
    subst hs
    simp only [gL, gM] at h
    obtain ⟨rfl, rfl⟩ := h
    obtain ⟨hle, hpure⟩ := hp
    obtain ⟨A, cap, rfl, hc, hor⟩ := hv.inv_osl
    have hl : ((rows.drop off).take len).length = len := by simp; omega
    rcases hor with ⟨rfl, h2⟩ | ⟨g, e', n, h1, rfl, h3, h4⟩
    ·exact .sl A 0 cap _ s 0 0 (fun _ _ => undef) hl hc (fun row h => by simp at h) (fun h => by omega) (fun i j h => by omega) (fun i row h => by simp at h)
    ·rcases hi.hp id _ hb with ⟨_, k2⟩ | ⟨g', c, k1, k2, k3, k4, k5⟩
     ·rw [k2] at h1; cases h1
     ·rw [k1] at h1; injection h1 with h1; subst h1
      refine .sl _ len cap _ s g' (off * s) (fun i j => c.getD ((off + i) * s + j) undef) hl hc (fun row h => k4 row (List.mem_of_mem_drop (List.mem_of_mem_take h))) (fun _ => ⟨rfl, .inr ⟨id, k1⟩⟩) (fun i j hi' hj => ?_) (fun i row h j x hx => ?_)
      ·have hlt : (off + i) * s + s ≤ rows.length * s := by
        have := Nat.mul_le_mul_right s (show off + i + 1 ≤ rows.length by omega)
        rwa [Nat.succ_mul] at this
       rw [show off * s + (i * s + j) = (off + i) * s + j from by rw [Nat.add_mul]; omega, cell_of k2, Array.getD_eq_getD_getElem?, Array.getElem?_eq_getElem (by omega)]
       rfl
      ·rw [List.getElem?_take] at h
       split at h
       ·rw [List.getElem?_drop] at h
        exact ((k5 _ row h j x hx).toP (List.all_eq_true.1 (List.all_eq_true.1 hpure row (List.mem_of_getElem? h)) x (List.mem_of_getElem? hx))).mono (SameOn.refl _ _) (fun _ h => .inl h)
       ·cases h
   ·cases h
  ·cases h
 | .ptr id s row off, p, y, v, h, hp, hv => by
  simp only [view] at h
  split at h
  ·rename_i e s' rows hb
   split at h
   ·rename_i hs
    subst hs
    simp only [gL, gM] at h
    obtain ⟨rfl, rfl⟩ := h
    obtain ⟨hrow, hpure⟩ := hp
    obtain ⟨g, hg, rfl⟩ := hv.inv_ptr
    rcases hi.hp id _ hb with ⟨rfl, _⟩ | ⟨g', c, k1, k2, k3, k4, k5⟩
    ·simp at hrow
    ·rw [k1] at hg; injection hg with hg; subst hg
     have hr := row_get hrow
     have hlen := k4 _ (List.mem_of_getElem? hr)
     have hlt := row_lt (size := s) hr
     refine .rp g' (row * s) off _ (fun j => c.getD (row * s + j) undef) (.inr ⟨id, k1⟩) (fun j hj => ?_) (fun j x hx => ?_)
     ·rw [cell_of k2, Array.getD_eq_getD_getElem?, Array.getElem?_eq_getElem (by omega)]; rfl
     ·exact ((k5 _ _ hr j x hx).toP (List.all_eq_true.1 hpure x (List.mem_of_getElem? hx))).mono (SameOn.refl _ _) (fun _ h => .inl h)
   ·cases h
  ·cases h
 | .mp id, p, y, v, h, hp, hv => by
  simp only [view] at h
  split at h
  ·rename_i kvs hb
   simp only [gL, gM] at h
   obtain ⟨_, rfl⟩ := h
   obtain ⟨g, hg, rfl⟩ := hv.inv_mp
   obtain ⟨g', es, clk, vals, k1, k2, k3, k4⟩ := hi.hp id _ hb
   rw [k1] at hg; injection hg with hg; subst hg
   exact .rm g' es clk kvs vals (.inr ⟨id, k1⟩) k2 k3 (fun q hq => (k4 q hq).mono (SameOn.refl _ _) (fun _ h => .inl h))
  ·cases h
 | .fn f caps, p, y, v, h, hp, hv => by
  simp only [view] at h
  cases e : viewL σ.hp caps with
  | none => rw [e] at h; cases h
  | some q =>
   obtain ⟨q1, l⟩ := q
   simp only [e, Option.map_some, gL, gM] at h
   obtain ⟨rfl, rfl⟩ := h
   obtain ⟨vals, rfl, hl, hr⟩ := hv.inv_fn
   obtain ⟨h1, h2⟩ := viewL_sound hi caps e hp (fun j => vals.getD j undef) hr
   exact .fn f vals l (by rw [hl, h1]) h2
 | .agg cells, p, y, v, h, hp, hv => by
  simp only [view] at h
  cases e : viewL σ.hp cells with
  | none => rw [e] at h; cases h
  | some q =>
   obtain ⟨q1, l⟩ := q
   simp only [e, Option.map_some, gL, gM] at h
   obtain ⟨rfl, rfl⟩ := h
   obtain ⟨cs, rfl, hl, hr⟩ := hv.inv_agg
   obtain ⟨h1, h2⟩ := viewL_sound hi cells e hp (fun j => cs.getD j undef) hr
   exact .agg cs l (by rw [hl, h1]) h2
 | .any, p, y, v, h, _, _ => by simp [view] at h
 | .tup _, p, y, v, h, _, _ => by simp [view] at h
 | .cnd .., p, y, v, h, _, _ => by simp [view] at h
 | .exs .., p, y, v, h, _, _ => by simp [view] at h
 | .int k n, p, y, v, h, _, hv => by simp only [view, gL, gM] at h; obtain ⟨_, rfl⟩ := h; exact (hv.toP rfl).mono (SameOn.refl _ _) (fun _ h => .inl h)
 | .bool b, p, y, v, h, _, hv => by simp only [view, gL, gM] at h; obtain ⟨_, rfl⟩ := h; exact (hv.toP rfl).mono (SameOn.refl _ _) (fun _ h => .inl h)
 | .str s, p, y, v, h, _, hv => by simp only [view, gL, gM] at h; obtain ⟨_, rfl⟩ := h; exact (hv.toP rfl).mono (SameOn.refl _ _) (fun _ h => .inl h)
 | .nilp, p, y, v, h, _, hv => by simp only [view, gL, gM] at h; obtain ⟨_, rfl⟩ := h; exact (hv.toP rfl).mono (SameOn.refl _ _) (fun _ h => .inl h)
 | .nili, p, y, v, h, _, hv => by simp only [view, gL, gM] at h; obtain ⟨_, rfl⟩ := h; exact (hv.toP rfl).mono (SameOn.refl _ _) (fun _ h => .inl h)
 | .ifc, p, y, v, h, _, hv => by simp only [view, gL, gM] at h; obtain ⟨_, rfl⟩ := h; exact (hv.toP rfl).mono (SameOn.refl _ _) (fun _ h => .inl h)
 | .nils, p, y, v, h, _, hv => by simp only [view, gL, gM] at h; obtain ⟨_, rfl⟩ := h; exact (hv.toP rfl).mono (SameOn.refl _ _) (fun _ h => .inl h)
 | .nilm, p, y, v, h, _, hv => by simp only [view, gL, gM] at h; obtain ⟨_, rfl⟩ := h; exact (hv.toP rfl).mono (SameOn.refl _ _) (fun _ h => .inl h)
 | .sl rows, p, y, v, h, _, hv => by simp only [view, gL, gM] at h; obtain ⟨_, rfl⟩ := h; exact (hv.toP rfl).mono (SameOn.refl _ _) (fun _ h => .inl h)
 | .rp c o, p, y, v, h, _, hv => by simp only [view, gL, gM] at h; obtain ⟨_, rfl⟩ := h; exact (hv.toP rfl).mono (SameOn.refl _ _) (fun _ h => .inl h)
 | .rm kvs, p, y, v, h, _, hv => by simp only [view, gL, gM] at h; obtain ⟨_, rfl⟩ := h; exact (hv.toP rfl).mono (SameOn.refl _ _) (fun _ h => .inl h)
theorem viewL_sound {μ : Nat → Option Nat} {S : Nat → Prop} {a : Act} {w : World} (hi : Inv C μ S σ a w) : ∀ (l : List AV) {p : Prop} {l' : List AV}, viewL σ.hp l = some (p, l') → p → ∀ (f : Nat → Value),
  (∀ (j : Nat) x, l[j]? = some x → Rd μ S w (f j) x) → l.length = l'.length ∧ ∀ (j : Nat) x, l'[j]? = some x → RdP (fun b => S b ∨ ∃ id, μ id = some b) w (f j) x
 | [], p, l', h, _, f, _ => by
  simp only [viewL, gL, gM] at h
  obtain ⟨_, rfl⟩ := h
  exact ⟨rfl, fun j x hx => by simp at hx⟩
 | x :: r, p, l', h, hp, f, hf => by
  simp only [viewL] at h
  split at h
  ·rename_i p1 y q l hx hr
   simp only [gL, gM] at h
   obtain ⟨rfl, rfl⟩ := h
   have h1 := view_sound hi x hx hp.1 (hf 0 x rfl)
   obtain ⟨h2, h3⟩ := viewL_sound hi r hr hp.2 (fun j => f (j + 1)) (fun j z hz => hf (j + 1) z (by simpa using hz))
   refine ⟨by simp [h2], fun j z hz => ?_⟩
   cases j with
   | zero => simp only [List.getElem?_cons_zero, Option.some.injEq] at hz; subst hz; exact h1
   | succ j => exact h3 j z (by simpa using hz)
  ·cases h
end
theorem trip_view {o : Oper} {c : Operand} {args : Array Operand} {ats : Array TypeId} (ho : o.op = .call { callee := .value c, args, argTypes := ats }) {p q : Prop} {f : FuncId} {xs ys : List AV}
  (h : Yc σ c args.toList = some (p, f, xs)) (hp : p) (hv : viewL σ.hp xs = some (q, ys)) (hq : q) (hc : Callable P f) {r : AV} (hr : r.scalar = true) (hf : FnOK P f ys [] fun r' _ => r' = r) :
  Trip P C o σ (σ.put o.dst r) := by
 intro a w K Q ⟨μ, S, hi⟩ hK
 obtain ⟨vs, h1, h2, h3⟩ := exec_call hi ho h hp hc
 obtain ⟨g1, g2⟩ := viewL_sound hi xs hv hq (fun j => vs.getD j undef) h2
 unfold Oper.wp
 rw [h3]
 refine (hf (fun b => S b ∨ ∃ id, μ id = some b) (fun _ => none) w vs (by rw [h1, g1]) (fun j x hj => .pure (g2 j x hj)) ⟨fun id b h => by simp [Yk] at h, fun id g h => (by cases h), fun id id' g h => (by cases h), hi.gok.nil⟩ (fun b hb => by
  rcases hb with hb | ⟨id, hb⟩
  ·exact (hi.sb b hb).1
  ·exact (hi.dom id b hb).2.2.2)).mono ?_
 rintro e w' ⟨v, r', H', μ', S', rfl, rfl, k1, k2, k3, k4, k5⟩
 have hfr : Frm (fun _ => False) w w' := ⟨k3.os, k3.tape, k3.output, k3.size, fun b hb _ => k3.block b hb (by rintro ⟨id, h⟩; cases h)⟩
 have hi' := hi.called hfr (S' := fun _ => False) (fun b hb => hb.elim)
 exact hK _ _ ⟨μ, _, hi'.put o.dst (k1.scalar hr)⟩
end
end Go.Eng
