/- The abstract machine, part C: operations that yield a value and leave the world as it is: what they yield, and that it is so. No condition. -/
import Derived.Test.YtldpfleilffanaaEngB
import Derived.Laws.Strings
import Derived.Laws.Concat
import Derived.Laws.Cover1
namespace Go.Eng

/-- An operand, taken out of its guard. -/
def strip : AV → Prop × AV
  | .cnd g v => (g = true, v)
  | x => (True, x)

def evS (σ : St) (o : Operand) : Prop × AV := strip (ev σ o)

theorem Rd.strip {μ : Nat → Option Nat} {S : Nat → Prop} {w : World} {v : Value} {x : AV} (h : Rd μ S w v x) (hp : (Eng.strip x).1) : Rd μ S w v (Eng.strip x).2 := by
  cases x <;> try exact h
  rename_i g x
  simp only [Eng.strip] at hp ⊢
  subst hp
  cases h with
  | pure h => cases h
  | cndT _ _ h => exact h

theorem Inv.evS {C : Ctx} {μ : Nat → Option Nat} {S : Nat → Prop} {σ : St} {a : Act} {w : World} (h : Inv C μ S σ a w) (o : Operand) (hp : (Eng.evS σ o).1) : Rd μ S w (a.eval o) (Eng.evS σ o).2 :=
  (h.ev o).strip hp

def pickAV (c a b : AV) : Option (Prop × AV) :=
  match strip c with
  | (pc, .bool c) =>
    match strip a, strip b with
    | (pa, .bool x), (pb, .bool y) => some (pc ∧ (c = true → pa) ∧ (c = false → pb), .bool (cond c x y))
    | _, _ => none
  | _ => none

def loadOp (T : Tab) (σ : St) (t : TypeId) (x : AV) : Option (Prop × AV) :=
  match x with
  | .rp cells off => loadCells T t cells off
  | .ptr id size row off =>
    match hget σ.hp id with
    | some (.cells _ s rows) =>
      if s = size then (loadCells T t (rows.getD row []) off).map fun r => (row < rows.length ∧ r.1, r.2) else none
    | _ => none
  | _ => none

def KD.isBool : KD → Bool
  | .bool => true
  | _ => false

def binAV (T : Tab) (t : TypeId) (op : BinOp) (x y : AV) : Option AV :=
  match x, y with
  | .int k a, .int k' b => if k = k' then intBin op k a b else none
  | .bool a, .bool b =>
    if (T.und t).isBool then
      match op with
      | .eql => some (.bool (a == b))
      | .neq => some (.bool (a != b))
      | _ => none
    else none
  | .str a, .str b =>
    match op with
    | .eql => some (.bool (a == b))
    | .neq => some (.bool (!(a == b)))
    | .lss => some (.bool (Op.bytesLess a b))
    | .leq => some (.bool (Op.bytesLess a b || a == b))
    | .gtr => some (.bool (!(Op.bytesLess a b || a == b)))
    | .geq => some (.bool (!Op.bytesLess a b))
    | _ => none
  | _, _ => none

def addStr (op : BinOp) (x y : AV) : Option (Prop × AV) :=
  match op, x, y with
  | .add, .str a, .str b => some (a.length + b.length < 2 ^ 62, .str (a ++ b))
  | .shr, .int k a, .int _ b => some (0 ≤ b, .int k (a.fdiv (2 ^ (min b.toNat k.bits))))
  | .shl, .int k a, .int _ b => some (0 ≤ b, .int k (k.wrap (a * 2 ^ (min b.toNat k.bits))))
  | .and, .int k a, .int k' b => some (k = k', .int k (k.wrap (BitVec.ofInt k.bits a &&& BitVec.ofInt k.bits b).toNat))
  | .or, .int k a, .int k' b => some (k = k', .int k (k.wrap (BitVec.ofInt k.bits a ||| BitVec.ofInt k.bits b).toNat))
  | .quo, .int k a, .int k' b => some (k = k' ∧ b ≠ 0, .int k (k.wrap (a.tdiv b)))
  | .rem, .int k a, .int k' b => some (k = k' ∧ b ≠ 0, .int k (a.tmod b))
  | _, _, _ => none

/-- a key of a map, and what it leads to -/
def mget {α : Type} : List (Int × α) → Int → Option α
  | [], _ => none
  | p :: r, k => if p.1 = k then some p.2 else mget r k

/-- a map, as one reads it -/
def mapOf (σ : St) (x : AV) : Option (List (Int × AV)) :=
  match x with
  | .rm kvs => some kvs
  | .nilm => some []
  | .mp id =>
    match hget σ.hp id with
    | some (.map kvs) => some kvs
    | _ => none
  | _ => none

def zeroAV (T : Tab) (e : TypeId) : Option AV :=
  match (T.und e).isA with
  | some true => some (.agg (T.zer e))
  | some false => some ((T.zer e).getD 0 .any)
  | none => none

def KD.isI64 : KD → Bool
  | .int .i64 => true
  | _ => false

def lookAV (T : Tab) (σ : St) (t : TypeId) (x i : AV) (ok : Bool) : Option (Prop × AV) :=
  match T.und t, mapOf σ x, i with
  | .map k e, some kvs, .int .i64 n =>
    match zeroAV T e with
    | some z => some ((T.und k).isI64 = true ∧ T.siz e ≠ 0, bif ok then .tup [(mget kvs n).getD z, .bool (mget kvs n).isSome] else (mget kvs n).getD z)
    | none => none
  | _, _, _ => none

def unAV (op : UnOp) (x : AV) : Option AV :=
  match op, x with
  | .not, .bool b => some (.bool (!b))
  | .neg, .int k n => some (.int k (k.wrap (0 - n)))
  | _, _ => none

def fieldAddrAV (T : Tab) (t : TypeId) (x : AV) (j : Nat) : Option AV :=
  match T.fld t j, x with
  | some (_, o), .rp cells off => some (.rp cells (off + o))
  | some (_, o), .ptr id size row off => some (.ptr id size row (off + o))
  | _, _ => none

def fieldAV (T : Tab) (t : TypeId) (x : AV) (j : Nat) : Option (Prop × AV) :=
  match T.fld t j, x with
  | some (ft, o), .agg cells => loadCells T ft cells o
  | _, _ => none

def indexAddrAV (T : Tab) (t : TypeId) (x i : AV) : Option (Prop × AV) :=
  match T.und t, x, i with
  | .sl e, .sl rows, .int _ n => some (T.siz e ≠ 0 ∧ 0 ≤ n ∧ n.toNat < rows.length ∧ (rows.getD n.toNat []).length = T.siz e, .rp (rows.getD n.toNat []) 0)
  | .sl e, .osl id size off len, .int _ n => some (T.siz e = size ∧ size ≠ 0 ∧ 0 ≤ n ∧ n.toNat < len, .ptr id size (off + n.toNat) 0)
  | _, _, _ => none

def indexAV (T : Tab) (t : TypeId) (x i : AV) : Option (Prop × AV) :=
  match T.und t, x, i with
  | .str, .str s, .int _ n => some (0 ≤ n ∧ n.toNat < s.length, .int .u8 ((s.getD n.toNat 0).toNat))
  | _, _, _ => none

def natOf : Option AV → Nat → Option (Prop × Nat)
  | none, d => some (True, d)
  | some (.int _ n), _ => some (0 ≤ n, n.toNat)
  | some _, _ => none

def sliceAV (T : Tab) (t : TypeId) (x : AV) (lo hi : Option AV) : Option (Prop × AV) :=
  match T.und t, x with
  | .str, .str s =>
    match natOf lo 0, natOf hi s.length with
    | some (p, l), some (q, h) => some (p ∧ q ∧ l ≤ h ∧ h ≤ s.length, .str ((s.take h).drop l))
    | _, _ => none
  | .sl e, .sl rows =>
    match natOf lo 0, natOf hi rows.length with
    | some (p, l), some (q, h) => some (T.siz e ≠ 0 ∧ p ∧ q ∧ l ≤ h ∧ h ≤ rows.length ∧ (∀ row, row ∈ rows → row.length = T.siz e), .sl ((rows.take h).drop l))
    | _, _ => none
  | .sl e, .osl id size off len =>
    match natOf lo 0, natOf hi len with
    | some (p, l), some (q, h) => some (T.siz e = size ∧ size ≠ 0 ∧ p ∧ q ∧ l ≤ h ∧ h ≤ len, .osl id size (off + l) (h - l))
    | _, _ => none
  | _, _ => none

def lenAV (T : Tab) (σ : St) (t : TypeId) (x : AV) : Option AV :=
  match T.und t, x with
  | .str, .str s => some (.int .i64 s.length)
  | .sl _, .sl rows => some (.int .i64 rows.length)
  | .sl _, .nils => some (.int .i64 0)
  | .sl _, .osl _ _ _ len => some (.int .i64 len)
  | .map _ _, .nilm => some (.int .i64 0)
  | .map _ _, .rm kvs => some (.int .i64 kvs.length)
  | .map _ _, .mp id =>
    match hget σ.hp id with
    | some (.map kvs) => some (.int .i64 kvs.length)
    | _ => none
  | _, _ => none

def evSL (σ : St) : List Operand → Prop × List AV
  | [] => (True, [])
  | o :: r => ((evS σ o).1 ∧ (evSL σ r).1, (evS σ o).2 :: (evSL σ r).2)

/-- What an operation yields that leaves the world as it is, and under which condition. -/
def numOf : List AV → Int
  | [.int _ n] => n
  | _ => 0
def byteOf (row : List AV) : UInt8 := UInt8.ofNat (numOf row).toNat
def IsByte (row : List AV) : Prop := ∃ n, row = [.int .u8 n]

def convAV (T : Tab) (s t : TypeId) (x : AV) : Option (Prop × AV) :=
  match T.und s, T.und t, x with
  | .int _, .int k, .int _ n => some (True, .int k (k.wrap n))
  | .sl e, .str, .sl rows => some (T.und e = .int .u8 ∧ ∀ row, row ∈ rows → IsByte row, .str (rows.map byteOf))
  | .sl e, .str, .nils => some (T.und e = .int .u8, .str [])
  | _, _, _ => none

def pureOp (T : Tab) (σ : St) (op : Op) : Option (Prop × AV) :=
  match op with
  | .move x | .assign x => some (True, ev σ x)
  | .pick c a b => pickAV (ev σ c) (ev σ a) (ev σ b)
  | .load t x => (loadOp T σ t (evS σ x).2).map fun r => ((evS σ x).1 ∧ r.1, r.2)
  | .nilCheck x =>
    match (evS σ x).2 with
    | .ptr id size row off => some ((evS σ x).1, .ptr id size row off)
    | .rp cells off => some ((evS σ x).1, .rp cells off)
    | _ => none
  | .binOp op t x y _ =>
    match binAV T t op (evS σ x).2 (evS σ y).2 with
    | some r => some ((evS σ x).1 ∧ (evS σ y).1, r)
    | none => (addStr op (evS σ x).2 (evS σ y).2).map fun r => ((evS σ x).1 ∧ (evS σ y).1 ∧ r.1, r.2)
  | .unOp op _ x => (unAV op (evS σ x).2).map fun r => ((evS σ x).1, r)
  | .fieldAddr t x j => (fieldAddrAV T t (evS σ x).2 j).map fun r => ((evS σ x).1, r)
  | .field t x j => (fieldAV T t (evS σ x).2 j).map fun r => ((evS σ x).1 ∧ r.1, r.2)
  | .indexAddr t x i => (indexAddrAV T t (evS σ x).2 (evS σ i).2).map fun r => ((evS σ x).1 ∧ (evS σ i).1 ∧ r.1, r.2)
  | .index t x i => (indexAV T t (evS σ x).2 (evS σ i).2).map fun r => ((evS σ x).1 ∧ (evS σ i).1 ∧ r.1, r.2)
  | .slice t x lo hi none => (sliceAV T t (evS σ x).2 (lo.map fun o => (evS σ o).2) (hi.map fun o => (evS σ o).2)).map fun r =>
      ((evS σ x).1 ∧ (evSL σ lo.toList).1 ∧ (evSL σ hi.toList).1 ∧ r.1, r.2)
  | .extract x j =>
    match (evS σ x).2 with
    | .tup vs => some ((evS σ x).1 ∧ j < vs.length, vs.getD j .any)
    | _ => none
  | .makeFunc (.func f) first captured => if first.toList.isEmpty then some ((evSL σ captured.toList).1, .fn f (evSL σ captured.toList).2) else none
  | .call { callee := .builtin .len, args, argTypes } =>
    match args.toList, argTypes.toList with
    | [x], [t] => (lenAV T σ t (evS σ x).2).map fun r => ((evS σ x).1, r)
    | _, _ => none
  | .convert s t x => (convAV T s t (evS σ x).2).map fun r => ((evS σ x).1 ∧ r.1, r.2)
  | .lookup t x i ok => (lookAV T σ t (evS σ x).2 (evS σ i).2 ok).map fun r => ((evS σ x).1 ∧ (evS σ i).1 ∧ r.1, r.2)
  | _ => none

section sound
variable {P : Program} {T : Tab} {C : Ctx} {μ : Nat → Option Nat} {S : Nat → Prop} {σ : St} {a : Act} {w : World}

theorem isAgg_of (hT : TabOK P T) {t : TypeId} {b : Bool} (h : (T.und t).isA = some b) : (isAgg t).run P w = .ok b w := by
  have hk := hT.und t
  unfold isAgg
  cases e : T.und t <;> rw [e] at h hk <;> simp only [KD.isA, Option.some.injEq, reduceCtorEq] at h <;> subst h <;> simp only [KDOK] at hk
  case struct => obtain ⟨F, hF, _⟩ := hk; simp [run_underlying hF]
  case iface => obtain ⟨F, hF⟩ := hk; simp [run_underlying hF]
  case func => obtain ⟨a, b, c, hF⟩ := hk; simp [run_underlying hF]
  all_goals simp [run_underlying hk]

theorem sizeOf_of (hT : TabOK P T) {t : TypeId} (h : T.siz t ≠ 0) : (sizeOf t).run P w = .ok (T.siz t) w := by
  obtain ⟨i, hi, hs, _⟩ := hT.siz t h
  simp [sizeOf, typeInfo, hi, hs]

theorem add_plain (g o n : Nat) : Addr.add ⟨g, o, none⟩ n = ⟨g, o + n, none⟩ := Addr.add_lit g o n

/-- A load out of cells that are known. -/
theorem run_loadVar_of (hT : TabOK P T) {t : TypeId} {g o off : Nat} {cells : List AV} {vals : Nat → Value} {p : Prop} {x : AV}
    (h : loadCells T t cells off = some (p, x)) (hp : p)
    (hc : ∀ j, j < cells.length → w.cell? ⟨g, o + j, none⟩ = some (vals j)) (hr : ∀ (j : Nat) y, cells[j]? = some y → Rd μ S w (vals j) y) :
    ∃ u, (loadVar t ⟨g, o + off, none⟩).run P w = .ok u w ∧ Rd μ S w u x := by
  unfold loadCells at h
  cases e : (T.und t).isA with
  | none => simp [e] at h
  | some b =>
    cases b with
    | true =>
      simp only [e, Option.some.injEq, Prod.mk.injEq] at h
      obtain ⟨rfl, rfl⟩ := h
      obtain ⟨hz, hp⟩ := hp
      refine ⟨.agg ((List.range (T.siz t)).map fun j => vals (off + j)).toArray, ?_, ?_⟩
      · have := run_loadCells_list (P := P) (w := w) ⟨g, o + off, none⟩ ((List.range (T.siz t)).map fun j => vals (off + j)) (fun j v hv => by
          rw [List.getElem?_map] at hv
          rw [add_plain]
          have hj : j < T.siz t := by
            by_cases hj : j < T.siz t
            · exact hj
            · rw [List.getElem?_eq_none (by simpa using hj)] at hv; simp at hv
          rw [List.getElem?_range hj] at hv
          simp at hv
          rw [← hv, Nat.add_assoc]
          exact hc _ (by omega))
        simp only [List.length_map, List.length_range] at this
        simp [loadVar, isAgg_of hT e, sizeOf_of hT hz, this]
      · refine .agg _ _ (by simp; omega) (fun j y hy => ?_)
        rw [List.getElem?_take] at hy
        split at hy
        · rename_i hj
          rw [List.getElem?_drop] at hy
          have : (((List.range (T.siz t)).map fun j => vals (off + j)).toArray).getD j undef = vals (off + j) := by
            simp [Array.getD_eq_getD_getElem?, hj]
          rw [this]
          exact hr _ _ hy
        · cases hy
    | false =>
      simp only [e, Option.some.injEq, Prod.mk.injEq] at h
      obtain ⟨rfl, rfl⟩ := h
      refine ⟨vals off, ?_, ?_⟩
      · simp [loadVar, isAgg_of hT e, hc off hp]
      · refine hr off _ ?_
        rw [List.getD_eq_getElem?_getD, List.getElem?_eq_getElem hp]; rfl


theorem cell_of {g : Nat} {c : Array Value} {e : TypeId} {f : Nat × Nat} (h : w.heap[g]? = some (.cells c e f)) (k : Nat) : w.cell? ⟨g, k, none⟩ = c[k]? := by
  simp [World.cell?, h]

theorem sound_load (hT : TabOK P T) (hi : Inv C μ S σ a w) {t : TypeId} {v : Value} {x r : AV} {p : Prop} (h : loadOp T σ t x = some (p, r)) (hp : p) (hv : Rd μ S w v x) :
    ∃ u, (Instr.loadAt t v).run P w = .ok u w ∧ Rd μ S w u r := by
  cases x <;> simp only [loadOp, reduceCtorEq] at h
  case rp cells off =>
    obtain ⟨g, o, vals, rfl, hS, hc, hr⟩ := hv.inv_rp.inv_rp
    obtain ⟨u, h1, h2⟩ := run_loadVar_of (μ := μ) (S := S) (P := P) (w := w) hT h hp hc (fun j y hy => .pure (hr j y hy))
    exact ⟨u, by simpa [Instr.loadAt, Instr.sureAddr] using h1, h2⟩
  case ptr id size row off =>
    obtain ⟨g, hg, rfl⟩ := hv.inv_ptr
    split at h
    · rename_i e s rows hb
      split at h
      · rename_i hs
        subst hs
        cases hl : loadCells T t (rows.getD row []) off with
        | none => rw [hl] at h; cases h
        | some q =>
          obtain ⟨p', r'⟩ := q
          simp only [hl, Option.map_some, Option.some.injEq, Prod.mk.injEq] at h
          obtain ⟨rfl, rfl⟩ := h
          obtain ⟨hrow, hp'⟩ := hp
          have hbk := hi.hp id _ hb
          rcases hbk with ⟨rfl, h2⟩ | ⟨g', c, h1, h2, h3, h4, h5⟩
          · rw [h2] at hg; cases hg
          · rw [h1] at hg; injection hg with hg; subst hg
            have hrow' : rows[row]? = some (rows.getD row []) := by
              rw [List.getD_eq_getElem?_getD, List.getElem?_eq_getElem hrow]; rfl
            have hlen : (rows.getD row []).length = s := h4 _ (List.mem_of_getElem? hrow')
            have hle : row * s + s ≤ rows.length * s := by
              have := Nat.mul_le_mul_right s (Nat.succ_le_of_lt hrow)
              rwa [Nat.succ_mul] at this
            obtain ⟨u, k1, k2⟩ := run_loadVar_of (μ := μ) (S := S) (P := P) (w := w) (g := g') (o := row * s) (vals := fun j => c.getD (row * s + j) undef) hT hl hp'
              (fun j hj => by
                rw [cell_of h2, Array.getD_eq_getD_getElem?, Array.getElem?_eq_getElem (by omega)]; rfl)
              (fun j y hy => h5 row _ hrow' j y hy)
            exact ⟨u, by simpa [Instr.loadAt, Instr.sureAddr] using k1, k2⟩
      · cases h
    · cases h

theorem sound_fieldAddr (hT : TabOK P T) {t : TypeId} {v : Value} {x r : AV} {j : Nat} (h : fieldAddrAV T t x j = some r) (hv : Rd μ S w v x) :
    ∃ u, (Instr.fieldAt t v j).run P w = .ok u w ∧ Rd μ S w u r := by
  unfold fieldAddrAV at h
  split at h
  · rename_i q o cells off hf
    injection h with h; subst h
    obtain ⟨F, f, h1, h2, h3, h4, h5⟩ := hT.fld _ _ _ _ hf
    obtain ⟨g, o', vals, rfl, hS, hc, hr⟩ := hv.inv_rp.inv_rp
    refine ⟨.pointer (some ⟨g, o' + (off + o), none⟩), ?_, .pure (.rp g o' (off + o) cells vals hS hc hr)⟩
    simp [Instr.fieldAt, run_underlying h1, h2, Instr.sureAddr, fieldPlace, h3, sizeOf_of hT h5, h5, h4, add_plain, Nat.add_assoc]
  · rename_i q o id size row off hf
    injection h with h; subst h
    obtain ⟨F, f, h1, h2, h3, h4, h5⟩ := hT.fld _ _ _ _ hf
    obtain ⟨g, hg, rfl⟩ := hv.inv_ptr
    refine ⟨.pointer (some ⟨g, row * size + (off + o), none⟩), ?_, .ptr id size row (off + o) g hg⟩
    simp [Instr.fieldAt, run_underlying h1, h2, Instr.sureAddr, fieldPlace, h3, sizeOf_of hT h5, h5, h4, add_plain, Nat.add_assoc]
  · cases h

theorem part_of (hT : TabOK P T) {t : TypeId} {off : Nat} {cells : List AV} {cs : Array Value} {p : Prop} {x : AV} (h : loadCells T t cells off = some (p, x)) (hp : p)
    (hl : cs.size = cells.length) (hr : ∀ (j : Nat) y, cells[j]? = some y → Rd μ S w (cs.getD j undef) y) : ∃ u, (part t cs off).run P w = .ok u w ∧ Rd μ S w u x := by
  unfold loadCells at h
  cases e : (T.und t).isA with
  | none => simp [e] at h
  | some b =>
    cases b with
    | true =>
      simp only [e, Option.some.injEq, Prod.mk.injEq] at h
      obtain ⟨rfl, rfl⟩ := h
      obtain ⟨hz, hp⟩ := hp
      refine ⟨.agg (cs.extract off (off + T.siz t)), by simp [part, isAgg_of hT e, sizeOf_of hT hz], .agg _ _ (by simp; omega) (fun j y hy => ?_)⟩
      rw [List.getElem?_take] at hy
      split at hy
      · rename_i hj
        rw [List.getElem?_drop] at hy
        have : (cs.extract off (off + T.siz t)).getD j undef = cs.getD (off + j) undef := by
          simp only [Array.getD_eq_getD_getElem?, Array.getElem?_extract]
          rw [if_pos (by omega)]
        rw [this]
        exact hr _ _ hy
      · cases hy
    | false =>
      simp only [e, Option.some.injEq, Prod.mk.injEq] at h
      obtain ⟨rfl, rfl⟩ := h
      have hlt : off < cs.size := by omega
      refine ⟨cs[off], by simp [part, isAgg_of hT e, hlt], ?_⟩
      have := hr off (cells.getD off .any) (by rw [List.getD_eq_getElem?_getD, List.getElem?_eq_getElem hp]; rfl)
      rwa [Array.getD_eq_getD_getElem?, Array.getElem?_eq_getElem hlt] at this

theorem sound_field (hT : TabOK P T) {t : TypeId} {v : Value} {x r : AV} {j : Nat} {p : Prop} (h : fieldAV T t x j = some (p, r)) (hp : p) (hv : Rd μ S w v x) :
    ∃ u, (Instr.field t v j).run P w = .ok u w ∧ Rd μ S w u r := by
  unfold fieldAV at h
  split at h
  · rename_i ft o cells hf
    obtain ⟨F, f, h1, h2, h3, h4, h5⟩ := hT.fld _ _ _ _ hf
    obtain ⟨cs, rfl, hl, hr⟩ := hv.inv_agg
    obtain ⟨u, k1, k2⟩ := part_of (μ := μ) (S := S) (P := P) (w := w) hT h hp hl hr
    refine ⟨u, ?_, k2⟩
    simp [Instr.field, run_underlying h1, h2, asAgg, h3, h4, k1]
  · cases h

theorem sound_indexAddr (hT : TabOK P T) {t : TypeId} {v vi : Value} {x i r : AV} {p : Prop} (h : indexAddrAV T t x i = some (p, r)) (hp : p) (hv : Rd μ S w v x) (hvi : Rd μ S w vi i) :
    ∃ u, (Instr.indexAt t v vi).run P w = .ok u w ∧ Rd μ S w u r := by
  unfold indexAddrAV at h
  split at h
  · rename_i e rows k n hu
    simp only [Option.some.injEq, Prod.mk.injEq] at h
    obtain ⟨rfl, rfl⟩ := h
    obtain ⟨hz, h0, hn, hl⟩ := hp
    obtain rfl := hvi.inv_int
    have ht := hT.und t
    rw [hu] at ht
    obtain ⟨A, cap, size, g, off, vals, rfl, hc, hs, hA, hcell, hr⟩ := hv.inv_sl.inv_sl
    obtain ⟨rfl, hS⟩ := hA (by omega)
    have hrow : rows[n.toNat]? = some (rows.getD n.toNat []) := by
      rw [List.getD_eq_getElem?_getD, List.getElem?_eq_getElem hn]; rfl
    have hsz : size = T.siz e := by rw [← hl]; exact (hs _ (List.mem_of_getElem? hrow)).symm
    subst hsz
    refine ⟨.pointer (some ⟨g, off + n.toNat * T.siz e + 0, none⟩), ?_, .pure (.rp g (off + n.toNat * T.siz e) 0 _ (vals n.toNat) hS (fun j hj => ?_) (fun j y hy => hr _ _ hrow j y hy))⟩
    · simp only [KDOK] at ht
      simp [Instr.indexAt, asIntOf, run_underlying ht, sizeOf_of hT hz, add_plain, h0, show n < (rows.length : Int) by omega]
    · rw [Nat.add_assoc]
      exact hcell _ _ hn (by omega)
  · rename_i e id size off len k n hu
    simp only [Option.some.injEq, Prod.mk.injEq] at h
    obtain ⟨rfl, rfl⟩ := h
    obtain ⟨hz, hz0, h0, hn⟩ := hp
    obtain rfl := hvi.inv_int
    have ht := hT.und t
    rw [hu] at ht
    obtain ⟨A, cap, rfl, hc, h⟩ := hv.inv_osl
    rcases h with ⟨h1, h2⟩ | ⟨g, e', m, h1, rfl, h3, h4⟩
    · omega
    · refine ⟨.pointer (some ⟨g, (off + n.toNat) * size + 0, none⟩), ?_, .ptr id size (off + n.toNat) 0 g h1⟩
      simp only [KDOK] at ht
      simp [Instr.indexAt, asIntOf, run_underlying ht, sizeOf_of hT (by rw [hz]; exact hz0), add_plain, h0, show n < (len : Int) by omega, hz, Nat.add_mul]
  · cases h

theorem sound_index (hT : TabOK P T) {t : TypeId} {v vi : Value} {x i r : AV} {p : Prop} (h : indexAV T t x i = some (p, r)) (hp : p) (hv : Rd μ S w v x) (hvi : Rd μ S w vi i) :
    ∃ u, (Instr.index t v vi).run P w = .ok u w ∧ Rd μ S w u r := by
  unfold indexAV at h
  split at h
  · rename_i s k n hu
    simp only [Option.some.injEq, Prod.mk.injEq] at h
    obtain ⟨rfl, rfl⟩ := h
    obtain ⟨h0, hn⟩ := hp
    obtain rfl := hvi.inv_int
    obtain ⟨b, rfl, rfl⟩ := hv.inv_str
    have ht := hT.und t
    rw [hu] at ht
    simp only [KDOK] at ht
    have hlt : n.toNat < b.size := by simpa using hn
    have e : b[n.toNat]? = some (b.data.toList.getD n.toNat 0) := by
      rw [getElem?_pos b n.toNat hlt, List.getD_eq_getElem?_getD, List.getElem?_eq_getElem hn]
      rfl
    refine ⟨.int .u8 (b.data.toList.getD n.toNat 0).toNat, ?_, .pure (.int _ _)⟩
    simp [Instr.index, asIntOf, run_underlying ht, h0, hlt]
    rfl
  · cases h

/-- an operand that may be left out -/
def ORd (μ : Nat → Option Nat) (S : Nat → Prop) (w : World) : Option AV → Option Value → Prop
  | none, none => True
  | some x, some v => Rd μ S w v x
  | _, _ => False

def BoundIs (vo : Option Value) (d l : Nat) : Prop :=
  match vo with
  | none => l = d
  | some v => ∃ k, v = .int k (l : Int)

theorem natOf_some (o : Option AV) (vo : Option Value) (d l : Nat) (q : Prop) (h : natOf o d = some (q, l)) (hq : q)
    (ho : ORd μ S w o vo) :
    BoundIs vo d l := by
  unfold natOf at h
  cases vo with
  | none =>
    cases o with
    | none => simp only [Option.some.injEq, Prod.mk.injEq] at h; exact h.2.symm
    | some x => exact ho.elim
  | some v =>
    cases o with
    | none => exact ho.elim
    | some x =>
      cases x <;> simp only [Option.some.injEq, Prod.mk.injEq, reduceCtorEq] at h
      obtain ⟨rfl, rfl⟩ := h
      rename_i k n
      obtain rfl := Rd.inv_int ho
      exact ⟨k, by simp only [Value.int.injEq, true_and]; omega⟩

theorem run_bounds (isS : Bool) (len cap l h : Nat) (lo hi : Option Value) (hlo : BoundIs lo 0 l)
    (hhi : BoundIs hi len h) (hlh : l ≤ h) (hc : h ≤ cap) : (Instr.sliceBounds isS len cap lo hi none).run P w = .ok (l, h, cap) w := by
  cases lo with
  | none =>
    subst hlo
    cases hi with
    | none => subst hhi; simp [Instr.sliceBounds]
    | some v => obtain ⟨k, rfl⟩ := hhi; simp [Instr.sliceBounds, Instr.sliceBound, asIntOf, hc]
  | some u =>
    obtain ⟨k', rfl⟩ := hlo
    cases hi with
    | none => subst hhi; simp [Instr.sliceBounds, Instr.sliceBound, asIntOf, hlh]
    | some v => obtain ⟨k, rfl⟩ := hhi; simp [Instr.sliceBounds, Instr.sliceBound, asIntOf, hc, hlh]

theorem sound_slice (hT : TabOK P T) {t : TypeId} {v : Value} {x r : AV} {lo hi : Option AV} {vlo vhi : Option Value} {p : Prop} (h : sliceAV T t x lo hi = some (p, r)) (hp : p) (hv : Rd μ S w v x)
    (hlo : ORd μ S w lo vlo) (hhi : ORd μ S w hi vhi) :
    ∃ u, (Instr.sliceAt t v vlo vhi none).run P w = .ok u w ∧ Rd μ S w u r := by
  unfold sliceAV at h
  have ht := hT.und t
  split at h
  · rename_i s hu
    rw [hu] at ht
    simp only [KDOK] at ht
    obtain ⟨b, rfl, rfl⟩ := hv.inv_str
    cases e1 : natOf lo 0 with
    | none => rw [e1] at h; cases h
    | some q1 =>
      obtain ⟨q1, l⟩ := q1
      cases e2 : natOf hi b.data.toList.length with
      | none => rw [e1, e2] at h; cases h
      | some q2 =>
        obtain ⟨q2, m⟩ := q2
        simp only [e1, e2, Option.some.injEq, Prod.mk.injEq] at h
        obtain ⟨rfl, rfl⟩ := h
        obtain ⟨h1, h2, h3, h4⟩ := hp
        have hb : b.data.toList.length = b.size := by simp
        have k1 := natOf_some (μ := μ) (S := S) (w := w) lo vlo 0 l q1 e1 h1 hlo
        have k2 := natOf_some (μ := μ) (S := S) (w := w) hi vhi _ m q2 e2 h2 hhi
        rw [hb] at k2 h4
        refine ⟨.string (b.extract l m), ?_, .pure (.str _ _ ?_)⟩
        · simp [Instr.sliceAt, Instr.slice, run_underlying ht, run_bounds (P := P) (w := w) false b.size b.size l m vlo vhi k1 k2 h3 h4]
        · rw [ByteArray.data_extract, Array.toList_extract, List.extract_eq_take_drop, List.drop_take]
  · rename_i e rows hu
    rw [hu] at ht
    simp only [KDOK] at ht
    obtain ⟨A, cap, size, g, off, vals, rfl, hc, hs, hA, hcell, hr⟩ := hv.inv_sl.inv_sl
    cases e1 : natOf lo 0 with
    | none => rw [e1] at h; cases h
    | some q1 =>
      obtain ⟨q1, l⟩ := q1
      cases e2 : natOf hi rows.length with
      | none => rw [e1, e2] at h; cases h
      | some q2 =>
        obtain ⟨q2, m⟩ := q2
        simp only [e1, e2, Option.some.injEq, Prod.mk.injEq] at h
        obtain ⟨rfl, rfl⟩ := h
        obtain ⟨hz, h1, h2, h3, h4, h5⟩ := hp
        have k1 := natOf_some (μ := μ) (S := S) (w := w) lo vlo 0 l q1 e1 h1 hlo
        have k2 := natOf_some (μ := μ) (S := S) (w := w) hi vhi _ m q2 e2 h2 hhi
        have hlen : ((rows.take m).drop l).length = m - l := by simp; omega
        have hsz : rows ≠ [] → size = T.siz e := fun hne => by
          obtain ⟨row, hrow⟩ := List.exists_mem_of_ne_nil rows hne
          rw [← h5 row hrow, hs row hrow]
        have hrun : (Instr.sliceAt t (.slice A rows.length cap) vlo vhi none).run P w = .ok (.slice (if cap = l then A else A.map (·.add (l * T.siz e))) (m - l) (cap - l)) w := by
          simp [Instr.sliceAt, Instr.slice, run_underlying ht, run_bounds (P := P) (w := w) true rows.length cap l m vlo vhi k1 k2 h3 (by omega), sizeOf_of hT hz]
        refine ⟨_, hrun, .pure (.sl _ _ _ _ size g (off + l * size) (fun i j => vals (l + i) j) hlen (by omega) (fun row hrow => hs row (List.mem_of_mem_take (List.mem_of_mem_drop hrow))) (fun hpos => ?_) (fun i j hi hj => ?_) (fun i row hrow j y hy => ?_))⟩
        · have hne : rows ≠ [] := by intro e; subst e; simp at h4; omega
          obtain ⟨rfl, hS⟩ := hA (by omega)
          rw [if_neg (by omega)]
          exact ⟨by simp [add_plain, hsz hne], hS⟩
        · have := hcell (l + i) j (by omega) hj
          rw [Nat.add_mul] at this
          rw [← this]
          congr 2; omega
        · rw [List.getElem?_drop, List.getElem?_take] at hrow
          split at hrow
          · exact hr _ row hrow j y hy
          · cases hrow
  · rename_i e id size off len hu
    rw [hu] at ht
    simp only [KDOK] at ht
    obtain ⟨A, cap, rfl, hc, hor⟩ := hv.inv_osl
    cases e1 : natOf lo 0 with
    | none => rw [e1] at h; cases h
    | some q1 =>
      obtain ⟨q1, l⟩ := q1
      cases e2 : natOf hi len with
      | none => rw [e1, e2] at h; cases h
      | some q2 =>
        obtain ⟨q2, m⟩ := q2
        simp only [e1, e2, Option.some.injEq, Prod.mk.injEq] at h
        obtain ⟨rfl, rfl⟩ := h
        obtain ⟨hz, hz0, h1, h2, h3, h4⟩ := hp
        have k1 := natOf_some (μ := μ) (S := S) (w := w) lo vlo 0 l q1 e1 h1 hlo
        have k2 := natOf_some (μ := μ) (S := S) (w := w) hi vhi _ m q2 e2 h2 hhi
        have hrun : (Instr.sliceAt t (.slice A len cap) vlo vhi none).run P w = .ok (.slice (if cap = l then A else A.map (·.add (l * T.siz e))) (m - l) (cap - l)) w := by
          simp [Instr.sliceAt, Instr.slice, run_underlying ht, run_bounds (P := P) (w := w) true len cap l m vlo vhi k1 k2 h3 (by omega), sizeOf_of hT (by rw [hz]; exact hz0)]
        refine ⟨_, hrun, .osl id size (off + l) (m - l) (cap - l) _ (by omega) ?_⟩
        rcases hor with ⟨j1, j2⟩ | ⟨g, e', n, j1, rfl, j3, j4⟩
        · exact .inl ⟨by omega, by omega⟩
        · by_cases hcl : cap = l
          · exact .inl ⟨by omega, by omega⟩
          · refine .inr ⟨g, e', n, j1, ?_, j3, ?_⟩
            · rw [if_neg hcl]; simp [add_plain, hz, Nat.add_mul]
            · rw [show off + l + (cap - l) = off + cap from by omega]; exact j4
  · cases h

theorem isBool_of (hT : TabOK P T) {t : TypeId} (h : (T.und t).isBool = true) : P.underlying t = some .bool := by
  have hk := hT.und t
  cases e : T.und t <;> rw [e] at h hk <;> simp only [KD.isBool, Bool.false_eq_true] at h
  exact hk

theorem run_equal_bool {t : TypeId} (h : P.underlying t = some .bool) (a b : Bool) : (Op.equal t (.bool a) (.bool b)).run P w = .ok (a == b) w := by
  have e : ∀ d, (Op.equalIn (d + 1) t (.bool a) (.bool b)).run P w = .ok (a == b) w := fun d => by
    unfold Op.equalIn
    simp [run_underlying h]
  exact e 9999

theorem sound_bin (hT : TabOK P T) {op : BinOp} {t : TypeId} {ox oy : Operand} {v u : Value} {x y r : AV} (h : binAV T t op x y = some r) (hv : Rd μ S w v x) (hu : Rd μ S w u y) :
    ∃ q, (do eqGuard op t ox oy v u; binOp op t v u : Sem Value).run P w = .ok q w ∧ Rd μ S w q r := by
  unfold binAV at h
  split at h
  · rename_i k a k' b
    obtain rfl := hv.inv_int
    obtain rfl := hu.inv_int
    split at h
    · rename_i hk
      subst hk
      unfold intBin at h
      split at h <;> first
        | cases h; done
        | (injection h with h; subst h; refine ⟨_, by simp [eqGuard_at_int, binOp, Op.intArith, Op.intCmp]; rfl, .pure (by first | exact .int _ _ | exact .bool _)⟩)
    · cases h
  · rename_i a b
    obtain rfl := hv.inv_bool
    obtain rfl := hu.inv_bool
    split at h
    · rename_i hb
      have hb := isBool_of hT hb
      split at h <;> first
        | (cases h; done)
        | (injection h with h; subst h; refine ⟨_, by simp only [eqGuard_at_bool, binOp, pure_bind, Sem.run_bind, run_equal_bool hb]; rfl, .pure (.bool _)⟩)
    · cases h
  · rename_i a b
    obtain ⟨s, rfl, rfl⟩ := hv.inv_str
    obtain ⟨s', rfl, rfl⟩ := hu.inv_str
    split at h <;> first
      | cases h; done
      | (injection h with h; subst h; refine ⟨_, by simp only [eqGuard_at_string, binOp, Op.stringOp, ByteArray.toList_eq, pure_bind]; rfl, .pure (.bool _)⟩)
  · cases h

end sound
end Go.Eng
