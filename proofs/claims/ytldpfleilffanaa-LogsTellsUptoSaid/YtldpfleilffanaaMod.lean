/- The program's data, as Lean has them, and how they lie in cells. No condition. -/
import Derived.Test.YtldpfleilffanaaEngS
namespace La
open Go Go.Eng

structure Entry where
  name : List UInt8
  fid : Int
deriving DecidableEq, Inhabited

structure Node where
  fid : Int
  dir : Bool
  data : List UInt8
  entries : List Entry
  version : Int
deriving DecidableEq, Inhabited

structure Act where
  kind : Int
  fid : Int
  dir : Int
  name : List UInt8
  to : Int
  toName : List UInt8
  data : List UInt8
deriving DecidableEq, Inhabited

structure Rec where
  act : Act
  version : Int
  id : Int
deriving DecidableEq, Inhabited

def i (n : Int) : AV := .int .i64 n
def byteRow (b : UInt8) : List AV := [.int .u8 (b.toNat : Int)]
def bytesAV (d : List UInt8) : AV := .sl (d.map byteRow)
def intRow (n : Int) : List AV := [.int .i64 n]
def entryRow (e : Entry) : List AV := [.str e.name, .int .i64 e.fid]
def nodeRow (n : Node) : List AV := [.int .i64 n.fid, .bool n.dir, .sl (n.data.map byteRow), .sl (n.entries.map entryRow), .int .i64 n.version]
def actRow (a : Act) : List AV := [.int .i64 a.kind, .int .i64 a.fid, .int .i64 a.dir, .str a.name, .int .i64 a.to, .str a.toName, .sl (a.data.map byteRow)]
def recRow (r : Rec) : List AV := [.int .i64 r.act.kind, .int .i64 r.act.fid, .int .i64 r.act.dir, .str r.act.name, .int .i64 r.act.to, .str r.act.toName, .sl (r.act.data.map byteRow), .int .i64 r.version, .int .i64 r.id]

/-- rows of one form, of leaves that hold nothing -/
structure Fam {α : Type} (f : α → List AV) (n : Nat) : Prop where
  len : ∀ a, (f a).length = n
  leaf : ∀ a, (f a).all AV.leaf = true
  pure : ∀ a, (f a).all AV.pureB = true
  free : ∀ a, refsL (f a) = []

section
variable {α : Type} {f : α → List AV} {n : Nat}
theorem Fam.rowsOf (h : Fam f n) (l : List α) : Eng.rowsOf n (l.map f) := by
  intro row hr; obtain ⟨a, _, rfl⟩ := List.mem_map.1 hr; exact h.len a
theorem Fam.allLeaf (h : Fam f n) (l : List α) : ((l.map f).all fun row => row.all AV.leaf) = true := by
  rw [List.all_eq_true]; intro row hr; obtain ⟨a, _, rfl⟩ := List.mem_map.1 hr; exact h.leaf a
theorem Fam.allPure (h : Fam f n) (l : List α) : ((l.map f).all fun row => row.all AV.pureB) = true := by
  rw [List.all_eq_true]; intro row hr; obtain ⟨a, _, rfl⟩ := List.mem_map.1 hr; exact h.pure a
theorem Fam.noRef (h : Fam f n) (id : Nat) (l : List α) : ((l.map f).all fun row => row.all fun x => !(refs x).contains id) = true := by
  rw [List.all_eq_true]; intro row hr; obtain ⟨a, _, rfl⟩ := List.mem_map.1 hr
  rw [List.all_eq_true]; intro x hx
  obtain ⟨j, hj⟩ := List.getElem?_of_mem hx
  have : refs x = [] := by
    have h1 : ∀ i, i ∈ refs x → i ∈ refsL (f a) := fun i hi => refsL_mem hj hi
    rw [h.free a] at h1
    exact List.eq_nil_iff_forall_not_mem.2 fun i hi => by simpa using h1 i hi
  rw [this]; rfl
theorem Fam.refsB (h : Fam f n) (e s : Nat) (l : List α) : Eng.refsB (.cells e s (l.map f)) = [] := by
  simp only [Eng.refsB]
  induction l with
  | nil => rfl
  | cons a r ih => simp only [List.map_cons, List.flatMap_cons, h.free a, ih, List.nil_append]
theorem Fam.renL (h : ∀ a (off : Nat), Eng.renL off (f a) = f a) (off : Nat) (l : List α) : (l.map f).map (Eng.renL off) = l.map f := by
  induction l with
  | nil => rfl
  | cons a r ih => simp only [List.map_cons, h a off, ih]
theorem Fam.frzL (h : ∀ a (id s : Nat) (rows : List (List AV)), Eng.frzL id s rows (f a) = f a) (id s : Nat) (rows : List (List AV)) (l : List α) : (l.map f).map (Eng.frzL id s rows) = l.map f := by
  induction l with
  | nil => rfl
  | cons a r ih => simp only [List.map_cons, h a id s rows, ih]
end
@[go_sem, simp] theorem take_map_all {α : Type} (f : α → List AV) (l : List α) : (l.map f).take l.length = l.map f := List.take_of_length_le (by simp)

theorem take_succ_map {α : Type} [Inhabited α] (f : α → List AV) {l : List α} {i : Nat} (h : i < l.length) : (l.take (i + 1)).map f = (l.take i).map f ++ [f (l.getD i default)] := by
  rw [List.take_succ_eq_append_getElem h, List.map_append, List.getD_eq_getElem?_getD, List.getElem?_eq_getElem h]; rfl

theorem take_succ_getD {α : Type} [Inhabited α] {l : List α} {i : Nat} (h : i < l.length) : l.take (i + 1) = l.take i ++ [l.getD i default] := by
  rw [List.take_succ_eq_append_getElem h, List.getD_eq_getElem?_getD, List.getElem?_eq_getElem h]; rfl

theorem drop_getD {α : Type} [Inhabited α] {l : List α} {i : Nat} (h : i < l.length) : l.drop i = l.getD i default :: l.drop (i + 1) := by
  rw [List.drop_eq_getElem_cons h, List.getD_eq_getElem?_getD, List.getElem?_eq_getElem h]; rfl

/-- a place, as Go tells it -/
def idxI : Option Nat → Int
  | none => -1
  | some k => k

theorem findIdx_at {α : Type} {p : α → Bool} : ∀ {l : List α} {i : Nat} {x : α}, l[i]? = some x → (∀ y, y ∈ l.take i → p y = false) → p x = true → l.findIdx? p = some i
  | [], i, x, h, _, _ => by simp at h
  | y :: r, 0, x, h, _, hp => by
    simp only [List.getElem?_cons_zero, Option.some.injEq] at h
    subst h
    simp [List.findIdx?_cons, hp]
  | y :: r, i + 1, x, h, hn, hp => by
    have h0 := hn y (by simp)
    rw [List.findIdx?_cons, h0]
    simp only [Bool.false_eq_true, if_false]
    rw [findIdx_at (l := r) (i := i) (by simpa using h) (fun z hz => hn z (by simp [hz])) hp]
    rfl

/-- no list is long -/
def bigL : Nat := 100000000
structure Node.Small (n : Node) : Prop where
  data : n.data.length ≤ 100000000
  entries : n.entries.length ≤ 100000000
structure Small (l : List Node) : Prop where
  len : l.length ≤ 100000000
  each : ∀ n, n ∈ l → n.Small
theorem getD_mem {α : Type} [Inhabited α] {l : List α} {i : Nat} (h : i < l.length) : l.getD i default ∈ l := by
  rw [List.getD_eq_getElem?_getD, List.getElem?_eq_getElem h]; exact List.getElem_mem h

theorem Fam.getD {α : Type} [Inhabited α] {f : α → List AV} {l : List α} {i : Nat} (h : i < l.length) : (l.map f).getD i [] = f (l.getD i default) := by
  rw [List.getD_eq_getElem?_getD, List.getElem?_map, List.getD_eq_getElem?_getD, List.getElem?_eq_getElem h]; rfl

theorem fam_byteRow : Fam byteRow 1 := ⟨fun _ => rfl, fun _ => rfl, fun _ => rfl, fun _ => rfl⟩
@[go_sem, simp] theorem byteRow_rowsOf (l : List _) : Eng.rowsOf 1 (l.map byteRow) := fam_byteRow.rowsOf l
@[go_sem, simp] theorem byteRow_leaf (l : List _) : ((l.map byteRow).all fun row => row.all AV.leaf) = true := fam_byteRow.allLeaf l
@[go_sem, simp] theorem byteRow_pure (l : List _) : ((l.map byteRow).all fun row => row.all AV.pureB) = true := fam_byteRow.allPure l
@[go_sem, simp] theorem byteRow_noRef (id : Nat) (l : List _) : ((l.map byteRow).all fun row => row.all fun x => !(refs x).contains id) = true := fam_byteRow.noRef id l
@[go_sem, simp] theorem byteRow_refsB (e s : Nat) (l : List _) : refsB (.cells e s (l.map byteRow)) = [] := fam_byteRow.refsB e s l
@[go_sem, simp] theorem byteRow_renL (off : Nat) (l : List _) : (l.map byteRow).map (renL off) = l.map byteRow := Fam.renL (fun _ _ => rfl) off l
@[go_sem, simp] theorem byteRow_frzL (id s : Nat) (rows : List (List AV)) (l : List _) : (l.map byteRow).map (frzL id s rows) = l.map byteRow := Fam.frzL (fun _ _ _ _ => rfl) id s rows l
theorem fam_intRow : Fam intRow 1 := ⟨fun _ => rfl, fun _ => rfl, fun _ => rfl, fun _ => rfl⟩
@[go_sem, simp] theorem intRow_rowsOf (l : List _) : Eng.rowsOf 1 (l.map intRow) := fam_intRow.rowsOf l
@[go_sem, simp] theorem intRow_leaf (l : List _) : ((l.map intRow).all fun row => row.all AV.leaf) = true := fam_intRow.allLeaf l
@[go_sem, simp] theorem intRow_pure (l : List _) : ((l.map intRow).all fun row => row.all AV.pureB) = true := fam_intRow.allPure l
@[go_sem, simp] theorem intRow_noRef (id : Nat) (l : List _) : ((l.map intRow).all fun row => row.all fun x => !(refs x).contains id) = true := fam_intRow.noRef id l
@[go_sem, simp] theorem intRow_refsB (e s : Nat) (l : List _) : refsB (.cells e s (l.map intRow)) = [] := fam_intRow.refsB e s l
@[go_sem, simp] theorem intRow_renL (off : Nat) (l : List _) : (l.map intRow).map (renL off) = l.map intRow := Fam.renL (fun _ _ => rfl) off l
@[go_sem, simp] theorem intRow_frzL (id s : Nat) (rows : List (List AV)) (l : List _) : (l.map intRow).map (frzL id s rows) = l.map intRow := Fam.frzL (fun _ _ _ _ => rfl) id s rows l
theorem fam_entryRow : Fam entryRow 2 := ⟨fun _ => rfl, fun _ => rfl, fun _ => rfl, fun _ => rfl⟩
@[go_sem, simp] theorem entryRow_rowsOf (l : List _) : Eng.rowsOf 2 (l.map entryRow) := fam_entryRow.rowsOf l
@[go_sem, simp] theorem entryRow_leaf (l : List _) : ((l.map entryRow).all fun row => row.all AV.leaf) = true := fam_entryRow.allLeaf l
@[go_sem, simp] theorem entryRow_pure (l : List _) : ((l.map entryRow).all fun row => row.all AV.pureB) = true := fam_entryRow.allPure l
@[go_sem, simp] theorem entryRow_noRef (id : Nat) (l : List _) : ((l.map entryRow).all fun row => row.all fun x => !(refs x).contains id) = true := fam_entryRow.noRef id l
@[go_sem, simp] theorem entryRow_refsB (e s : Nat) (l : List _) : refsB (.cells e s (l.map entryRow)) = [] := fam_entryRow.refsB e s l
@[go_sem, simp] theorem entryRow_renL (off : Nat) (l : List _) : (l.map entryRow).map (renL off) = l.map entryRow := Fam.renL (fun _ _ => rfl) off l
@[go_sem, simp] theorem entryRow_frzL (id s : Nat) (rows : List (List AV)) (l : List _) : (l.map entryRow).map (frzL id s rows) = l.map entryRow := Fam.frzL (fun _ _ _ _ => rfl) id s rows l
theorem fam_nodeRow : Fam nodeRow 5 := ⟨fun _ => rfl, fun _ => rfl, fun _ => rfl, fun _ => rfl⟩
@[go_sem, simp] theorem nodeRow_rowsOf (l : List _) : Eng.rowsOf 5 (l.map nodeRow) := fam_nodeRow.rowsOf l
@[go_sem, simp] theorem nodeRow_leaf (l : List _) : ((l.map nodeRow).all fun row => row.all AV.leaf) = true := fam_nodeRow.allLeaf l
@[go_sem, simp] theorem nodeRow_pure (l : List _) : ((l.map nodeRow).all fun row => row.all AV.pureB) = true := fam_nodeRow.allPure l
@[go_sem, simp] theorem nodeRow_noRef (id : Nat) (l : List _) : ((l.map nodeRow).all fun row => row.all fun x => !(refs x).contains id) = true := fam_nodeRow.noRef id l
@[go_sem, simp] theorem nodeRow_refsB (e s : Nat) (l : List _) : refsB (.cells e s (l.map nodeRow)) = [] := fam_nodeRow.refsB e s l
@[go_sem, simp] theorem nodeRow_renL (off : Nat) (l : List _) : (l.map nodeRow).map (renL off) = l.map nodeRow := Fam.renL (fun _ _ => rfl) off l
@[go_sem, simp] theorem nodeRow_frzL (id s : Nat) (rows : List (List AV)) (l : List _) : (l.map nodeRow).map (frzL id s rows) = l.map nodeRow := Fam.frzL (fun _ _ _ _ => rfl) id s rows l
theorem fam_actRow : Fam actRow 7 := ⟨fun _ => rfl, fun _ => rfl, fun _ => rfl, fun _ => rfl⟩
@[go_sem, simp] theorem actRow_rowsOf (l : List _) : Eng.rowsOf 7 (l.map actRow) := fam_actRow.rowsOf l
@[go_sem, simp] theorem actRow_leaf (l : List _) : ((l.map actRow).all fun row => row.all AV.leaf) = true := fam_actRow.allLeaf l
@[go_sem, simp] theorem actRow_pure (l : List _) : ((l.map actRow).all fun row => row.all AV.pureB) = true := fam_actRow.allPure l
@[go_sem, simp] theorem actRow_noRef (id : Nat) (l : List _) : ((l.map actRow).all fun row => row.all fun x => !(refs x).contains id) = true := fam_actRow.noRef id l
@[go_sem, simp] theorem actRow_refsB (e s : Nat) (l : List _) : refsB (.cells e s (l.map actRow)) = [] := fam_actRow.refsB e s l
@[go_sem, simp] theorem actRow_renL (off : Nat) (l : List _) : (l.map actRow).map (renL off) = l.map actRow := Fam.renL (fun _ _ => rfl) off l
@[go_sem, simp] theorem actRow_frzL (id s : Nat) (rows : List (List AV)) (l : List _) : (l.map actRow).map (frzL id s rows) = l.map actRow := Fam.frzL (fun _ _ _ _ => rfl) id s rows l
theorem fam_recRow : Fam recRow 9 := ⟨fun _ => rfl, fun _ => rfl, fun _ => rfl, fun _ => rfl⟩
@[go_sem, simp] theorem recRow_rowsOf (l : List _) : Eng.rowsOf 9 (l.map recRow) := fam_recRow.rowsOf l
@[go_sem, simp] theorem recRow_leaf (l : List _) : ((l.map recRow).all fun row => row.all AV.leaf) = true := fam_recRow.allLeaf l
@[go_sem, simp] theorem recRow_pure (l : List _) : ((l.map recRow).all fun row => row.all AV.pureB) = true := fam_recRow.allPure l
@[go_sem, simp] theorem recRow_noRef (id : Nat) (l : List _) : ((l.map recRow).all fun row => row.all fun x => !(refs x).contains id) = true := fam_recRow.noRef id l
@[go_sem, simp] theorem recRow_refsB (e s : Nat) (l : List _) : refsB (.cells e s (l.map recRow)) = [] := fam_recRow.refsB e s l
@[go_sem, simp] theorem recRow_renL (off : Nat) (l : List _) : (l.map recRow).map (renL off) = l.map recRow := Fam.renL (fun _ _ => rfl) off l
@[go_sem, simp] theorem recRow_frzL (id s : Nat) (rows : List (List AV)) (l : List _) : (l.map recRow).map (frzL id s rows) = l.map recRow := Fam.frzL (fun _ _ _ _ => rfl) id s rows l
@[go_sem, simp] theorem byteRow_refsL (a) : refsL (byteRow a) = [] := fam_byteRow.free a
@[go_sem, simp] theorem intRow_refsL (a) : refsL (intRow a) = [] := fam_intRow.free a
@[go_sem, simp] theorem entryRow_refsL (a) : refsL (entryRow a) = [] := fam_entryRow.free a
@[go_sem, simp] theorem nodeRow_refsL (a) : refsL (nodeRow a) = [] := fam_nodeRow.free a
@[go_sem, simp] theorem actRow_refsL (a) : refsL (actRow a) = [] := fam_actRow.free a
@[go_sem, simp] theorem recRow_refsL (a) : refsL (recRow a) = [] := fam_recRow.free a
@[go_sem, simp] theorem bytes_of (l : List UInt8) : (l.map byteRow).map Eng.byteOf = l := by
  rw [List.map_map]
  have : Eng.byteOf ∘ byteRow = id := by
    funext b
    show UInt8.ofNat ((b.toNat : Int)).toNat = b
    simp
  rw [this, List.map_id]
@[go_sem, simp] theorem bytes_are (l : List UInt8) : ∀ row, row ∈ l.map byteRow → IsByte row := by
  intro row hr
  obtain ⟨b, _, rfl⟩ := List.mem_map.1 hr
  exact ⟨_, rfl⟩
@[go_sem, simp] theorem byteRow_is (b : UInt8) : IsByte (byteRow b) := ⟨_, rfl⟩
end La
