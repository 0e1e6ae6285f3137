/- The abstract machine, part B: what types are, operands, and the operations that leave the world as it is. No condition. -/
import Derived.Test.YtldpfleilffanaaEngA
namespace Go.Eng

/-- What a type is. -/
inductive KD where
  | other | bool | int (k : IntKind) | str | sl (e : TypeId) | map (k e : TypeId) | ptr (e : TypeId) | struct | iface | func

def KDOK (P : Program) (t : TypeId) : KD → Prop
  | .other => True
  | .bool => P.underlying t = some .bool
  | .int k => P.underlying t = some (.int k)
  | .str => P.underlying t = some .string
  | .sl e => P.underlying t = some (.slice e)
  | .map k e => P.underlying t = some (.map k e)
  | .ptr e => P.underlying t = some (.pointer e)
  | .struct => ∃ F, P.underlying t = some (.struct F) ∧ ∀ f, f ∈ F → (P.info? f.type).isSome = true
  | .iface => ∃ ms, P.underlying t = some (.interface ms)
  | .func => ∃ a b c, P.underlying t = some (.func a b c)

def KD.isA : KD → Option Bool
  | .other => none
  | .struct => some true
  | _ => some false

def ofValue : Value → AV
  | .int k n => .int k n
  | .bool b => .bool b
  | .string s => .str s.data.toList
  | .pointer none => .nilp
  | .slice none 0 0 => .nils
  | .map none => .nilm
  | .nilIface => .nili
  | _ => .any

structure Tab where
  und : TypeId → KD
  siz : TypeId → Nat
  byt : TypeId → Nat
  zer : TypeId → List AV
  fld : TypeId → Nat → Option (TypeId × Nat)

structure TabOK (P : Program) (T : Tab) : Prop where
  und : ∀ t, KDOK P t (T.und t)
  siz : ∀ t, T.siz t ≠ 0 → ∃ i, P.info? t = some i ∧ i.size = T.siz t ∧ i.bytes = T.byt t ∧ ∃ z, i.zero = some z ∧ z.cells.toList.map ofValue = T.zer t ∧ z.cells.size = T.siz t ∧
    (T.und t).isA = some (match z with | .agg _ => true | _ => false)
  fld : ∀ t j ft off, T.fld t j = some (ft, off) → ∃ F f, P.underlying t = some (.struct F) ∧ F[j]? = some f ∧ f.type = ft ∧ f.offset = off ∧ T.siz ft ≠ 0

theorem rdp_ofValue (S : Nat → Prop) (w : World) (v : Value) (h : ofValue v ≠ .any) : RdP S w v (ofValue v) := by
  revert h
  unfold ofValue
  split <;> intro h <;> first | exact .int _ _ | exact .bool _ | exact .str _ _ rfl | exact .nilp | exact .nils | exact .nilm | exact .nili | exact absurd rfl h

theorem rd_ofValue (μ : Nat → Option Nat) (S : Nat → Prop) (w : World) (v : Value) : Rd μ S w v (ofValue v) := by
  by_cases h : ofValue v = .any
  · rw [h]; exact .any v
  · exact .pure (rdp_ofValue S w v h)

def ev (σ : St) : Operand → AV
  | .tmp t => σ.tm.getD t .any
  | .const v => ofValue v
  | .func f => .fn f []
  | .global _ => .any

theorem Inv.ev {C : Ctx} {μ : Nat → Option Nat} {S : Nat → Prop} {σ : St} {a : Act} {w : World} (h : Inv C μ S σ a w) (o : Operand) : Rd μ S w (a.eval o) (ev σ o) := by
  cases o with
  | tmp t =>
    simp only [Act.eval, Eng.ev]
    cases e : σ.tm[t]? with
    | none => rw [List.getD_eq_getElem?_getD, e]; exact .any _
    | some x => rw [List.getD_eq_getElem?_getD, e]; exact h.tm t x e
  | const v => exact rd_ofValue μ S w v
  | func f => exact .fn f #[] [] rfl (fun j x hx => by simp at hx)
  | global g => exact .any _

def St.put (σ : St) (d : Option Tmp) (x : AV) : St :=
  match d with
  | some t => { σ with tm := σ.tm.set t x }
  | none => σ

@[simp] theorem St.put_hp (σ : St) (d : Option Tmp) (x : AV) : (σ.put d x).hp = σ.hp := by cases d <;> rfl

theorem Inv.put {C : Ctx} {μ : Nat → Option Nat} {S : Nat → Prop} {σ : St} {a : Act} {w : World} (h : Inv C μ S σ a w) (d : Option Tmp) {u : Value} {x : AV} (hu : Rd μ S w u x) :
    Inv C μ S (σ.put d x) (a.put d u) w := by
  cases d with
  | none => exact h
  | some t =>
    refine { h with size := ?_, tm := ?_, defers := h.defers }
    · simp [Act.put, St.put, h.size]
    · intro i y hi
      simp only [St.put, List.getElem?_set] at hi
      by_cases e : t = i
      · subst e
        simp only [if_true] at hi
        split at hi
        · rename_i hl
          injection hi with hi; subst hi
          have : (a.put (some t) u).tmps.getD t undef = u := by
            simp only [Act.put]
            rw [Array.getD_eq_getD_getElem?, Array.getElem?_setIfInBounds_self_of_lt (by rw [h.size]; exact hl)]
            rfl
          rw [this]; exact hu
        · cases hi
      · rw [if_neg e] at hi
        have : (a.put (some t) u).tmps.getD i undef = a.tmps.getD i undef := by
          simp only [Act.put]
          rw [Array.getD_eq_getD_getElem?, Array.getElem?_setIfInBounds_ne e, ← Array.getD_eq_getD_getElem?]
        rw [this]; exact h.tm i y hi

/-- From every state that reads as 'σ' the operation leads to one that reads as 'σ''. -/
def Trip (P : Program) (C : Ctx) (o : Oper) (σ σ' : St) : Prop :=
  ∀ a w (K : Act → World → Prop) (Q : Exit → Act → World → Prop), Rel C σ a w → (∀ a' w', Rel C σ' a' w' → K a' w') → o.wp P a w K Q

theorem trip_value {P : Program} {C : Ctx} {o : Oper} {σ : St} {x : AV}
    (h : ∀ μ S a w, Inv C μ S σ a w → ∃ u, (execOp a.eval o).run P w = .ok (.value u) w ∧ Rd μ S w u x) : Trip P C o σ (σ.put o.dst x) := by
  intro a w K Q ⟨μ, S, hi⟩ hK
  obtain ⟨u, hr, hu⟩ := h μ S a w hi
  unfold Oper.wp
  rw [hr]
  exact hK _ _ ⟨μ, S, hi.put o.dst hu⟩

/-! ### Inversions -/
section inv
variable {μ : Nat → Option Nat} {S : Nat → Prop} {w : World} {v : Value}

theorem Rd.inv_int {k : IntKind} {n : Int} (h : Rd μ S w v (.int k n)) : v = .int k n := by cases h with | pure h => cases h; rfl
theorem Rd.inv_bool {b : Bool} (h : Rd μ S w v (.bool b)) : v = .bool b := by cases h with | pure h => cases h; rfl
theorem Rd.inv_str {l : List UInt8} (h : Rd μ S w v (.str l)) : ∃ s : ByteArray, v = .string s ∧ s.data.toList = l := by cases h with | pure h => cases h with | str s l h => exact ⟨s, rfl, h⟩
theorem Rd.inv_nilp (h : Rd μ S w v .nilp) : v = .pointer none := by cases h with | pure h => cases h; rfl
theorem Rd.inv_nili (h : Rd μ S w v .nili) : v = .nilIface := by cases h with | pure h => cases h; rfl
theorem Rd.inv_nils (h : Rd μ S w v .nils) : v = .slice none 0 0 := by cases h with | pure h => cases h; rfl
theorem Rd.inv_nilm (h : Rd μ S w v .nilm) : v = .map none := by cases h with | pure h => cases h; rfl
theorem Rd.inv_ptr {id size row off : Nat} (h : Rd μ S w v (.ptr id size row off)) : ∃ g, μ id = some g ∧ v = .pointer (some ⟨g, row * size + off, none⟩) := by
  cases h with
  | pure h => cases h
  | ptr _ _ _ _ g hg => exact ⟨g, hg, rfl⟩
theorem Rd.inv_mp {id : Nat} (h : Rd μ S w v (.mp id)) : ∃ g, μ id = some g ∧ v = .map (some g) := by
  cases h with
  | pure h => cases h
  | mp _ g hg => exact ⟨g, hg, rfl⟩
theorem Rd.inv_osl {id size off len : Nat} (h : Rd μ S w v (.osl id size off len)) : ∃ A cap, v = .slice A len cap ∧ len ≤ cap ∧
    ((len = 0 ∧ cap = 0) ∨ ∃ g e n, μ id = some g ∧ A = some ⟨g, off * size, none⟩ ∧ rowSize w g = some (e, n) ∧ (off + cap) * size = n) := by
  cases h with
  | pure h => cases h
  | osl _ _ _ _ cap A hc h => exact ⟨A, cap, rfl, hc, h⟩
theorem Rd.inv_agg {cells : List AV} (h : Rd μ S w v (.agg cells)) : ∃ cs : Array Value, v = .agg cs ∧ cs.size = cells.length ∧ ∀ j x, cells[j]? = some x → Rd μ S w (cs.getD j undef) x := by
  cases h with
  | pure h => cases h with | agg cs _ hl hr => exact ⟨cs, rfl, hl, fun j x hx => .pure (hr j x hx)⟩
  | agg cs _ hl hr => exact ⟨cs, rfl, hl, hr⟩
theorem Rd.inv_tup {xs : List AV} (h : Rd μ S w v (.tup xs)) : ∃ vs : Array Value, v = .tuple vs ∧ vs.size = xs.length ∧ ∀ j x, xs[j]? = some x → Rd μ S w (vs.getD j undef) x := by
  cases h with
  | pure h => cases h
  | tup vs _ hl hr => exact ⟨vs, rfl, hl, hr⟩
theorem Rd.inv_fn {f : FuncId} {caps : List AV} (h : Rd μ S w v (.fn f caps)) : ∃ vals : Array Value, v = .func (.func f) #[] vals ∧ vals.size = caps.length ∧ ∀ j x, caps[j]? = some x → Rd μ S w (vals.getD j undef) x := by
  cases h with
  | pure h => cases h with | fn _ vals _ hl hr => exact ⟨vals, rfl, hl, fun j x hx => .pure (hr j x hx)⟩
  | fn _ vals _ hl hr => exact ⟨vals, rfl, hl, hr⟩
theorem Rd.inv_sl {rows : List (List AV)} (h : Rd μ S w v (.sl rows)) : RdP S w v (.sl rows) := by cases h with | pure h => exact h
theorem Rd.inv_rp {cells : List AV} {off : Nat} (h : Rd μ S w v (.rp cells off)) : RdP S w v (.rp cells off) := by cases h with | pure h => exact h
theorem Rd.inv_rm {kvs : List (Int × AV)} (h : Rd μ S w v (.rm kvs)) : RdP S w v (.rm kvs) := by cases h with | pure h => exact h
theorem RdP.inv_sl {rows : List (List AV)} (h : RdP S w v (.sl rows)) : ∃ (A : Option Addr) (cap size g off : Nat) (vals : Nat → Nat → Value), v = .slice A rows.length cap ∧ rows.length ≤ cap ∧ (∀ row, row ∈ rows → row.length = size) ∧
    (0 < rows.length → A = some ⟨g, off, none⟩ ∧ S g) ∧ (∀ i j, i < rows.length → j < size → w.cell? ⟨g, off + (i * size + j), none⟩ = some (vals i j)) ∧
    (∀ (i : Nat) row, rows[i]? = some row → ∀ (j : Nat) x, row[j]? = some x → RdP S w (vals i j) x) := by
  cases h with
  | sl A len cap _ size g off vals hl hc hs hA hcell hr => subst hl; exact ⟨A, cap, size, g, off, vals, rfl, hc, hs, hA, hcell, hr⟩
theorem RdP.inv_rp {cells : List AV} {off : Nat} (h : RdP S w v (.rp cells off)) : ∃ (g o : Nat) (vals : Nat → Value), v = .pointer (some ⟨g, o + off, none⟩) ∧ S g ∧
    (∀ j, j < cells.length → w.cell? ⟨g, o + j, none⟩ = some (vals j)) ∧ ∀ (j : Nat) x, cells[j]? = some x → RdP S w (vals j) x := by
  cases h with
  | rp g o off _ vals hS hcell hr => exact ⟨g, o, vals, rfl, hS, hcell, hr⟩
theorem RdP.inv_rm {kvs : List (Int × AV)} (h : RdP S w v (.rm kvs)) : ∃ (g : Nat) (es : Array MapEntry) (clk : Nat) (vals : Int → Value), v = .map (some g) ∧ S g ∧
    w.heap[g]? = some (.map es clk) ∧ MapOK es clk kvs vals ∧ ∀ p, p ∈ kvs → RdP S w (vals p.1) p.2 := by
  cases h with
  | rm g es clk _ vals hS hg hm hr => exact ⟨g, es, clk, vals, rfl, hS, hg, hm, hr⟩
theorem MapOK.size_eq {es : Array MapEntry} {clk : Nat} {kvs : List (Int × AV)} {vals : Int → Value} (h : MapOK es clk kvs vals) : es.size = kvs.length := h.len
end inv

/-! ### Operations that yield a value and leave the world as it is

'pureOp' says what they yield, and under which condition. -/

/-- a slice that is only read, as its rows -/
def asRows : AV → Option (List (List AV))
  | .sl rows => some rows
  | .nils => some []
  | _ => none

def loadCells (T : Tab) (t : TypeId) (cells : List AV) (off : Nat) : Option (Prop × AV) :=
  match (T.und t).isA with
  | some true => some (T.siz t ≠ 0 ∧ off + T.siz t ≤ cells.length, .agg ((cells.drop off).take (T.siz t)))
  | some false => some (off < cells.length, cells.getD off .any)
  | none => none

def intBin (op : BinOp) (k : IntKind) (a b : Int) : Option AV :=
  match op with
  | .add => some (.int k (k.wrap (a + b)))
  | .sub => some (.int k (k.wrap (a - b)))
  | .mul => some (.int k (k.wrap (a * b)))
  | .eql => some (.bool (a == b))
  | .neq => some (.bool (a != b))
  | .lss => some (.bool (decide (a < b)))
  | .leq => some (.bool (decide (a ≤ b)))
  | .gtr => some (.bool (decide (a > b)))
  | .geq => some (.bool (decide (a ≥ b)))
  | _ => none

end Go.Eng
