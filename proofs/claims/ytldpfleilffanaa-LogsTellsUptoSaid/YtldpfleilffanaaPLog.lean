/- Logs, plainly: what Add makes of a log, and that the document's answer is the same. No condition. -/
import Derived.Test.YtldpfleilffanaaMod
namespace La

def fids (a : Act) : List Int := if a.kind = 3 then [a.fid] else if a.kind = 5 then [a.fid, a.dir, a.to] else [a.fid, a.dir]
def Rec.names (r : Rec) (fid : Int) : Bool := (fids r.act).contains fid
def isMade (fid : Int) (r : Rec) : Bool := r.act.fid == fid && (r.act.kind == 1 || r.act.kind == 2)
def touches (a : Act) (dir : Int) (name : List UInt8) : Bool :=
  if a.kind = 1 ∨ a.kind = 2 ∨ a.kind = 4 then a.dir == dir && a.name == name
  else if a.kind = 5 then (a.dir == dir && a.name == name) || (a.to == dir && a.toName == name) else false
/-- a record behind the making one bars that both go -/
def bars (fid dir : Int) (name : List UInt8) (x : Rec) : Bool := (x.act.kind != 3 && x.names fid) || touches x.act dir name
def cancels (l : List Rec) (r : Rec) : Bool :=
  match l.findIdx? (isMade r.act.fid) with
  | none => false
  | some k => r.act.kind == 4 && (l.getD k default).act.dir == r.act.dir && (l.getD k default).act.name == r.act.name && !((l.drop (k + 1)).any (bars r.act.fid (l.getD k default).act.dir (l.getD k default).act.name))
def stored (r x : Rec) : Bool := x.act.kind == 3 && x.act.fid == r.act.fid
def unstored (l : List Rec) (r : Rec) : List Rec := if r.act.kind = 3 then l.filter fun x => !(stored r x) else l
/-- none: there is no room -/
def addLog (l : List Rec) (r : Rec) : Option (List Rec) :=
  if cancels l r then some (l.filter fun x => !(x.names r.act.fid))
  else if (unstored l r).length ≥ 20 then none else some (unstored l r ++ [r])

theorem unstored_sub (l : List Rec) (r : Rec) : (unstored l r).Sublist l := by
  unfold unstored
  split
  · exact List.filter_sublist
  · exact List.Sublist.refl _

/-! ### What the document's answer does: one pass, with a state -/

def addStep (r : Rec) (s : Int) (x : Rec) : Int :=
  if s = 0 then (if isMade r.act.fid x then (if x.act.dir = r.act.dir ∧ x.act.name = r.act.name then 1 else 2) else 0)
  else if s = 1 then (if bars r.act.fid r.act.dir r.act.name x then 2 else 1) else s

theorem addStep_two (r : Rec) : ∀ l : List Rec, l.foldl (addStep r) 2 = 2
  | [] => rfl
  | x :: l => by simp only [List.foldl_cons]; rw [show addStep r 2 x = 2 from by simp [addStep]]; exact addStep_two r l

theorem addStep_one (r : Rec) : ∀ l : List Rec, l.foldl (addStep r) 1 = if l.any (bars r.act.fid r.act.dir r.act.name) then 2 else 1
  | [] => rfl
  | x :: l => by
    simp only [List.foldl_cons, List.any_cons]
    by_cases h : bars r.act.fid r.act.dir r.act.name x = true
    · rw [show addStep r 1 x = 2 from by simp [addStep, h], addStep_two]; simp [h]
    · rw [show addStep r 1 x = 1 from by simp [addStep, h], addStep_one]; simp [h]

/-- the state at the end tells whether both go -/
theorem addStep_cancels (r : Rec) (hk : r.act.kind = 4) : ∀ l : List Rec, (l.foldl (addStep r) 0 == 1) = cancels l r
  | [] => rfl
  | x :: l => by
    have ih := addStep_cancels r hk l
    simp only [List.foldl_cons]
    unfold cancels at ih ⊢
    rw [List.findIdx?_cons]
    by_cases h : isMade r.act.fid x = true
    · simp only [h, if_true]
      by_cases h2 : x.act.dir = r.act.dir ∧ x.act.name = r.act.name
      · rw [show addStep r 0 x = 1 from by simp [addStep, h, h2], addStep_one]
        simp only [List.getD_cons_zero, h2.1, h2.2, hk, List.drop_succ_cons, List.drop_zero, Nat.zero_add]
        cases (l.any (bars r.act.fid r.act.dir r.act.name)) <;> simp
      · rw [show addStep r 0 x = 2 from by simp only [addStep, h, if_true, if_neg h2], addStep_two]
        simp only [List.getD_cons_zero]
        by_cases h3 : x.act.dir = r.act.dir
        · have h4 : ¬ x.act.name = r.act.name := fun e => h2 ⟨h3, e⟩
          simp [h4]
        · simp [h3]
    · rw [show addStep r 0 x = 0 from by simp [addStep, h], ih]
      simp only [h, if_false, Bool.false_eq_true]
      cases e : l.findIdx? (isMade r.act.fid) with
      | none => simp
      | some k => simp

/-- what the law LogsOrder asks -/
theorem addLog_order {l x : List Rec} {r : Rec} (h : addLog l r = some x) : (if x.getLast? = some r then x.dropLast else x).Sublist l := by
  unfold addLog at h
  split at h
  · simp only [Option.some.injEq] at h
    subst h
    split
    · exact (List.dropLast_sublist _).trans List.filter_sublist
    · exact List.filter_sublist
  · split at h
    · cases h
    · simp only [Option.some.injEq] at h
      subst h
      rw [if_pos (by simp), List.dropLast_concat]
      exact unstored_sub l r

theorem addLog_none {l : List Rec} {r : Rec} (h : addLog l r = none) : 20 ≤ l.length := by
  unfold addLog at h
  split at h
  · cases h
  · split at h
    · rename_i h2
      have := (unstored_sub l r).length_le
      omega
    · cases h

theorem addLog_short {l x : List Rec} {r : Rec} (h : addLog l r = some x) : x.length ≤ l.length + 1 := by
  unfold addLog at h
  split at h
  · simp only [Option.some.injEq] at h; subst h; have := List.length_filter_le (fun x => !(x.names r.act.fid)) l; omega
  · split at h
    · cases h
    · simp only [Option.some.injEq] at h; subst h
      have := (unstored_sub l r).length_le
      simp; omega
end La
