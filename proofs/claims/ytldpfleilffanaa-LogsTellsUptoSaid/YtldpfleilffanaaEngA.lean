/- The abstract machine, part A: abstract values, what it means that a value of the model reads as one in a world, and that readings stay. No condition. -/
import Derived.Calls
import Derived.Orders
import Derived.Laws.World
import Derived.Laws.Cells
import Derived.Laws.Entries
namespace Go.Eng

/-- Abstract values. 'sl': a slice that reads so and is never written while it is looked at; 'osl', 'ptr', 'mp': into a block that is held. -/
inductive AV where
  | any
  | int (k : IntKind) (n : Int)
  | bool (b : Bool)
  | str (s : List UInt8)
  | nilp
  | nili
  | nils
  | nilm
  | sl (rows : List (List AV))
  | rp (cells : List AV) (off : Nat)
  | rm (kvs : List (Int × AV))
  | fn (f : FuncId) (caps : List AV)
  | agg (cells : List AV)
  | tup (vs : List AV)
  | ptr (id size row off : Nat)
  | osl (id size off len : Nat)
  | mp (id : Nat)
  | cnd (c : Bool) (v : AV)
  deriving Inhabited

def SameOn (S : Nat → Prop) (w w' : World) : Prop := ∀ b, S b → w'.heap[b]? = w.heap[b]?

theorem SameOn.refl (S : Nat → Prop) (w : World) : SameOn S w w := fun _ _ => rfl
theorem SameOn.trans {S : Nat → Prop} {a b c : World} (h : SameOn S a b) (k : SameOn S b c) : SameOn S a c := fun x hx => (k x hx).trans (h x hx)
theorem SameOn.sub {S T : Nat → Prop} {w w' : World} (h : SameOn T w w') (hs : ∀ b, S b → T b) : SameOn S w w' := fun b hb => h b (hs b hb)

theorem cell_same {w w' : World} {a : Addr} (h : w'.heap[a.block]? = w.heap[a.block]?) : w'.cell? a = w.cell? a := by
  unfold World.cell?
  rw [h]

/-- The entries of a map read so: keys of int, rising in 'kvs'; the values, by key. -/
structure MapOK (es : Array MapEntry) (clk : Nat) (kvs : List (Int × AV)) (vals : Int → Value) : Prop where
  key : ∀ e, e ∈ es.toList → ∃ k x, e.key = .int .i64 k ∧ (k, x) ∈ kvs ∧ e.val = vals k
  has : ∀ p, p ∈ kvs → ∃ e, e ∈ es.toList ∧ e.key = .int .i64 p.1
  once : (es.toList.map (·.key)).Nodup
  len : es.size = kvs.length
  rise : kvs.Pairwise fun a b => a.1 < b.1
  born : ∀ e, e ∈ es.toList → e.born < clk
  nodup : (es.toList.map (·.born)).Nodup

/-- 'v' reads as 'x' in world 'w', in blocks of S alone; nothing that is held. -/
inductive RdP (S : Nat → Prop) (w : World) : Value → AV → Prop
  | int (k : IntKind) (n : Int) : RdP S w (.int k n) (.int k n)
  | bool (b : Bool) : RdP S w (.bool b) (.bool b)
  | str (s : ByteArray) (l : List UInt8) (h : s.data.toList = l) : RdP S w (.string s) (.str l)
  | nilp : RdP S w (.pointer none) .nilp
  | nili : RdP S w .nilIface .nili
  | nils : RdP S w (.slice none 0 0) .nils
  | nilm : RdP S w (.map none) .nilm
  | sl (A : Option Addr) (len cap : Nat) (rows : List (List AV)) (size g off : Nat) (vals : Nat → Nat → Value)
      (hl : rows.length = len) (hc : len ≤ cap) (hs : ∀ row, row ∈ rows → row.length = size)
      (hA : 0 < len → A = some ⟨g, off, none⟩ ∧ S g)
      (hcell : ∀ i j, i < len → j < size → w.cell? ⟨g, off + (i * size + j), none⟩ = some (vals i j))
      (hr : ∀ i row, rows[i]? = some row → ∀ j x, row[j]? = some x → RdP S w (vals i j) x) : RdP S w (.slice A len cap) (.sl rows)
  | rp (g o off : Nat) (cells : List AV) (vals : Nat → Value) (hS : S g)
      (hcell : ∀ j, j < cells.length → w.cell? ⟨g, o + j, none⟩ = some (vals j))
      (hr : ∀ j x, cells[j]? = some x → RdP S w (vals j) x) : RdP S w (.pointer (some ⟨g, o + off, none⟩)) (.rp cells off)
  | rm (g : Nat) (es : Array MapEntry) (clk : Nat) (kvs : List (Int × AV)) (vals : Int → Value) (hS : S g)
      (hg : w.heap[g]? = some (.map es clk)) (hm : MapOK es clk kvs vals)
      (hr : ∀ p, p ∈ kvs → RdP S w (vals p.1) p.2) : RdP S w (.map (some g)) (.rm kvs)
  | fn (f : FuncId) (vals : Array Value) (caps : List AV) (hl : vals.size = caps.length)
      (hr : ∀ j x, caps[j]? = some x → RdP S w (vals.getD j undef) x) : RdP S w (.func (.func f) #[] vals) (.fn f caps)
  | agg (cs : Array Value) (cells : List AV) (hl : cs.size = cells.length)
      (hr : ∀ j x, cells[j]? = some x → RdP S w (cs.getD j undef) x) : RdP S w (.agg cs) (.agg cells)

theorem RdP.mono {S S' : Nat → Prop} {w w' : World} {v : Value} {x : AV} (h : RdP S w v x) (hw : SameOn S w w') (hs : ∀ b, S b → S' b) : RdP S' w' v x := by
  induction h with
  | int k n => exact .int k n
  | bool b => exact .bool b
  | str s l h => exact .str s l h
  | nilp => exact .nilp
  | nili => exact .nili
  | nils => exact .nils
  | nilm => exact .nilm
  | sl A len cap rows size g off vals hl hc hsz hA hcell hr ih =>
    refine .sl A len cap rows size g off vals hl hc hsz (fun h => ⟨(hA h).1, hs _ (hA h).2⟩) (fun i j hi hj => ?_) ih
    rw [cell_same (hw g (hA (by omega)).2)]
    exact hcell i j hi hj
  | rp g o off cells vals hS hcell hr ih =>
    refine .rp g o off cells vals (hs _ hS) (fun j hj => ?_) ih
    rw [cell_same (hw g hS)]
    exact hcell j hj
  | rm g es clk kvs vals hS hg hm hr ih => exact .rm g es clk kvs vals (hs _ hS) ((hw g hS).trans hg) hm ih
  | fn f vals caps hl hr ih => exact .fn f vals caps hl ih
  | agg cs cells hl hr ih => exact .agg cs cells hl ih

/-- A held block's shape: its size in cells is never changed by a store. -/
def rowSize (w : World) (g : Nat) : Option (TypeId × Nat) :=
  match w.heap[g]? with
  | some (.cells c e (0, 0)) => some (e, c.size)
  | _ => none

theorem rowSize_same {w w' : World} {g : Nat} (h : w'.heap[g]? = w.heap[g]?) : rowSize w' g = rowSize w g := by unfold rowSize; rw [h]

/-- 'v' reads as 'x': what is held by number is where 'μ' says. -/
inductive Rd (μ : Nat → Option Nat) (S : Nat → Prop) (w : World) : Value → AV → Prop
  | any (v : Value) : Rd μ S w v .any
  | pure {v : Value} {x : AV} (h : RdP S w v x) : Rd μ S w v x
  | agg (cs : Array Value) (cells : List AV) (hl : cs.size = cells.length)
      (hr : ∀ j x, cells[j]? = some x → Rd μ S w (cs.getD j undef) x) : Rd μ S w (.agg cs) (.agg cells)
  | tup (vs : Array Value) (xs : List AV) (hl : vs.size = xs.length)
      (hr : ∀ j x, xs[j]? = some x → Rd μ S w (vs.getD j undef) x) : Rd μ S w (.tuple vs) (.tup xs)
  | fn (f : FuncId) (vals : Array Value) (caps : List AV) (hl : vals.size = caps.length)
      (hr : ∀ j x, caps[j]? = some x → Rd μ S w (vals.getD j undef) x) : Rd μ S w (.func (.func f) #[] vals) (.fn f caps)
  | ptr (id size row off g : Nat) (hg : μ id = some g) : Rd μ S w (.pointer (some ⟨g, row * size + off, none⟩)) (.ptr id size row off)
  | osl (id size off len cap : Nat) (A : Option Addr) (hc : len ≤ cap)
      (h : (len = 0 ∧ cap = 0) ∨ ∃ g e n, μ id = some g ∧ A = some ⟨g, off * size, none⟩ ∧ rowSize w g = some (e, n) ∧ (off + cap) * size = n) :
      Rd μ S w (.slice A len cap) (.osl id size off len)
  | mp (id g : Nat) (hg : μ id = some g) : Rd μ S w (.map (some g)) (.mp id)
  | cndT (v : Value) (x : AV) (h : Rd μ S w v x) : Rd μ S w v (.cnd true x)
  | cndF (x : AV) : Rd μ S w undef (.cnd false x)

theorem Rd.mono {μ μ' : Nat → Option Nat} {S S' : Nat → Prop} {w w' : World} {v : Value} {x : AV} (h : Rd μ S w v x) (hw : SameOn S w w') (hs : ∀ b, S b → S' b)
    (hm : ∀ id g, μ id = some g → μ' id = some g) (hz : ∀ id g, μ id = some g → rowSize w' g = rowSize w g) : Rd μ' S' w' v x := by
  induction h with
  | any v => exact .any v
  | pure h => exact .pure (h.mono hw hs)
  | agg cs cells hl hr ih => exact .agg cs cells hl ih
  | tup vs xs hl hr ih => exact .tup vs xs hl ih
  | fn f vals caps hl hr ih => exact .fn f vals caps hl ih
  | ptr id size row off g hg => exact .ptr id size row off g (hm _ _ hg)
  | osl id size off len cap A hc h =>
    refine .osl id size off len cap A hc ?_
    rcases h with h | ⟨g, e, n, h1, h2, h3, h4⟩
    · exact .inl h
    · exact .inr ⟨g, e, n, hm _ _ h1, h2, (hz _ _ h1).trans h3, h4⟩
  | mp id g hg => exact .mp id g (hm _ _ hg)
  | cndT v x h ih => exact .cndT v x ih
  | cndF x => exact .cndF x

/-- What is held. -/
inductive Blk where
  | cells (elem : TypeId) (size : Nat) (rows : List (List AV))
  | map (kvs : List (Int × AV))
  /-- an iterator over a map that is read alone: the keys that it handed out -/
  | iter (kvs : List (Int × AV)) (seen : List Int)
  deriving Inhabited

/-- what an iterator over a map has handed out -/
structure IterOK (w : World) (S : Nat → Prop) (g : Nat) (kvs : List (Int × AV)) (seen : List Int) (es : Array MapEntry) (clk : Nat) (vals : Int → Value) (had : Array Nat) : Prop where
  lies : ∃ m, w.heap[g]? = some (.mapIter (some m) clk had clk) ∧ S m ∧ w.heap[m]? = some (.map es clk)
  map : MapOK es clk kvs vals
  had : ∀ e, e ∈ es.toList → ∀ k, e.key = .int .i64 k → (had.contains e.born = true ↔ k ∈ seen)

def BlkOK (μ : Nat → Option Nat) (S : Nat → Prop) (w : World) (id : Nat) : Blk → Prop
  | .cells e s rows => (rows = [] ∧ μ id = none) ∨ ∃ g c, μ id = some g ∧ w.heap[g]? = some (.cells c e (0, 0)) ∧ rows.length * s ≤ c.size ∧ (∀ row, row ∈ rows → row.length = s) ∧
      ∀ (i : Nat) row, rows[i]? = some row → ∀ (j : Nat) x, row[j]? = some x → Rd μ S w (c.getD (i * s + j) undef) x
  | .map kvs => ∃ g es clk vals, μ id = some g ∧ w.heap[g]? = some (.map es clk) ∧ MapOK es clk kvs vals ∧ ∀ p, p ∈ kvs → RdP S w (vals p.1) p.2
  | .iter kvs seen => ∃ g es clk vals had, μ id = some g ∧ IterOK w S g kvs seen es clk vals had ∧ ∀ p, p ∈ kvs → RdP S w (vals p.1) p.2

theorem BlkOK.mono {μ μ' : Nat → Option Nat} {S S' : Nat → Prop} {w w' : World} {id : Nat} {b : Blk} (h : BlkOK μ S w id b) (hw : SameOn S w w') (hs : ∀ b, S b → S' b)
    (hm : ∀ id g, μ id = some g → μ' id = some g) (hz : ∀ id g, μ id = some g → rowSize w' g = rowSize w g)
    (hn : μ id = none → μ' id = none) (hb : ∀ g, μ id = some g → w'.heap[g]? = w.heap[g]?) : BlkOK μ' S' w' id b := by
  cases b with
  | cells e s rows =>
    rcases h with ⟨h1, h2⟩ | ⟨g, c, h1, h2, h3, h4, h5⟩
    · exact .inl ⟨h1, hn h2⟩
    · exact .inr ⟨g, c, hm _ _ h1, (hb _ h1).trans h2, h3, h4, fun i row hi j x hj => (h5 i row hi j x hj).mono hw hs hm hz⟩
  | map kvs =>
    obtain ⟨g, es, clk, vals, h1, h2, h3, h4⟩ := h
    exact ⟨g, es, clk, vals, hm _ _ h1, (hb _ h1).trans h2, h3, fun p hi => (h4 p hi).mono hw hs⟩
  | iter kvs seen =>
    obtain ⟨g, es, clk, vals, had, h1, h2, h4⟩ := h
    obtain ⟨m, k1, k2, k3⟩ := h2.lies
    exact ⟨g, es, clk, vals, had, hm _ _ h1, ⟨⟨m, (hb _ h1).trans k1, hs _ k2, (hw m k2).trans k3⟩, h2.map, h2.had⟩, fun p hi => (h4 p hi).mono hw hs⟩

/-! ### States -/

structure St where
  tm : List AV
  hp : List (Nat × Blk)

def hget : List (Nat × Blk) → Nat → Option Blk
  | [], _ => none
  | (i, b) :: r, id => if i = id then some b else hget r id

def hset : List (Nat × Blk) → Nat → Blk → List (Nat × Blk)
  | [], id, b => [(id, b)]
  | (i, c) :: r, id, b => if i = id then (id, b) :: r else (i, c) :: hset r id b

def hdel : List (Nat × Blk) → Nat → List (Nat × Blk)
  | [], _ => []
  | (i, c) :: r, id => if i = id then hdel r id else (i, c) :: hdel r id

theorem hget_hset (h : List (Nat × Blk)) (id id' : Nat) (b : Blk) : hget (hset h id b) id' = if id = id' then some b else hget h id' := by
  induction h with
  | nil => simp [hset, hget]
  | cons p r ih =>
    obtain ⟨i, c⟩ := p
    simp only [hset]
    by_cases h1 : i = id
    · subst h1
      simp only [if_true, hget]
      split <;> simp_all
    · simp only [h1, if_false, hget, ih]
      by_cases h2 : i = id'
      · subst h2
        simp only [if_true]
        rw [if_neg (fun e => h1 e.symm)]
      · simp [h2]

theorem hget_hdel (h : List (Nat × Blk)) (id id' : Nat) : hget (hdel h id) id' = if id = id' then none else hget h id' := by
  induction h with
  | nil => simp [hdel, hget]
  | cons p r ih =>
    obtain ⟨i, c⟩ := p
    simp only [hdel]
    by_cases h1 : i = id
    · subst h1
      simp only [if_true, ih, hget]
      split <;> simp_all
    · simp only [h1, if_false, hget, ih]
      by_cases h2 : i = id'
      · subst h2
        simp only [if_true]
        rw [if_neg (fun e => h1 e.symm)]
      · simp [h2]

/-- What a call began with: its world, the blocks that it holds by its arguments, the blocks that it may read. -/
structure Ctx where
  w0 : World
  A0 : Nat → Prop
  R0 : Nat → Prop

structure Frm (A : Nat → Prop) (w w' : World) : Prop where
  os : w'.os = w.os
  tape : w'.tape = w.tape
  output : w'.output = w.output
  size : w.heap.size ≤ w'.heap.size
  block : ∀ b, b < w.heap.size → ¬ A b → w'.heap[b]? = w.heap[b]?

theorem Frm.refl (A : Nat → Prop) (w : World) : Frm A w w := ⟨rfl, rfl, rfl, Nat.le_refl _, fun _ _ _ => rfl⟩

/-- One step of the world: blocks of 'T' (by number) may change. -/
theorem Frm.step {A : Nat → Prop} {w0 w w' : World} (h : Frm A w0 w) (T : Nat → Prop) (k : Frm T w w') (ht : ∀ b, T b → A b ∨ w0.heap.size ≤ b) : Frm A w0 w' :=
  ⟨k.os.trans h.os, k.tape.trans h.tape, k.output.trans h.output, Nat.le_trans h.size k.size, fun b hb hA => by
    rw [k.block b (Nat.lt_of_lt_of_le hb h.size) (fun hT => by rcases ht b hT with h1 | h1; exact hA h1; omega)]
    exact h.block b hb hA⟩

structure Inv (C : Ctx) (μ : Nat → Option Nat) (S : Nat → Prop) (σ : St) (a : Act) (w : World) : Prop where
  size : a.tmps.size = σ.tm.length
  defers : a.defers = []
  tm : ∀ t x, σ.tm[t]? = some x → Rd μ S w (a.tmps.getD t undef) x
  hp : ∀ id b, hget σ.hp id = some b → BlkOK μ S w id b
  dom : ∀ id g, μ id = some g → (∃ b, hget σ.hp id = some b) ∧ (C.A0 g ∨ C.w0.heap.size ≤ g) ∧ ¬ S g ∧ g < w.heap.size
  inj : ∀ id id' g, μ id = some g → μ id' = some g → id = id'
  frm : Frm C.A0 C.w0 w
  sb : ∀ b, S b → b < w.heap.size ∧ (C.R0 b ∨ C.A0 b ∨ C.w0.heap.size ≤ b)

def Rel (C : Ctx) (σ : St) (a : Act) (w : World) : Prop := ∃ μ S, Inv C μ S σ a w

end Go.Eng
