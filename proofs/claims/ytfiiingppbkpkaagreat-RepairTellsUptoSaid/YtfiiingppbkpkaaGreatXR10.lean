/- Texts of this claim, part 10: PLog, Fid, Logs, Srv, Srv2, Cach, Cach2, Unl, Maps, PJud, Jud, Jud2, Jud3, Take, PNames, PSplit, PBfs. No condition. -/
import Derived.Test.YtfiiingppbkpkaaGreatXR6
import Derived.Test.YtfiiingppbkpkaaGreatXR9
import Derived.Test.YtfiiingppbkpkaaGreatXR7
import Derived.Test.YtfiiingppbkpkaaGreatXR8
import Derived.Lib.SplitLaws
import Derived.Lib.Join
set_option maxRecDepth 10000
set_option maxHeartbeats 4000000
set_option linter.unusedSimpArgs false
set_option linter.unusedVariables false
namespace La
def fids (a : Act) : List Int := if a.kind = 3 then [a.fid] else if a.kind = 5 then [a.fid,a.dir,a.to] else [a.fid,a.dir]
def Rec.names (r : Rec) (fid : Int) : Bool := (fids r.act).contains fid
def isMade (fid : Int) (r : Rec) : Bool := r.act.fid == fid && (r.act.kind == 1 || r.act.kind == 2)
def touches (a : Act) (dir : Int) (name : List UInt8) : Bool :=
 if a.kind = 1 ∨ a.kind = 2 ∨ a.kind = 4 then a.dir == dir && a.name == name
 else if a.kind = 5 then (a.dir == dir && a.name == name) || (a.to == dir && a.toName == name) else false
def bars (fid dir : Int) (name : List UInt8) (x : Rec) : Bool := (x.act.kind != 3 && x.names fid) || touches x.act dir name
def cancels (l : List Rec) (r : Rec) : Bool :=
 match l.findIdx? (isMade r.act.fid) with
 | none => false
 | some k => r.act.kind == 4 && (l.getD k default).act.dir == r.act.dir && (l.getD k default).act.name == r.act.name && !((l.drop (k + 1)).any (bars r.act.fid (l.getD k default).act.dir (l.getD k default).act.name))
def stored (r x : Rec) : Bool := x.act.kind == 3 && x.act.fid == r.act.fid
def unstored (l : List Rec) (r : Rec) : List Rec := if r.act.kind = 3 then l.filter fun x => !(stored r x) else l
def addLog (l : List Rec) (r : Rec) : Option (List Rec) :=
 if cancels l r then some (l.filter fun x => !(x.names r.act.fid))
 else if (unstored l r).length ≥ 20 then none else some (unstored l r ++ [r])
theorem unstored_sub (l : List Rec) (r : Rec) : (unstored l r).Sublist l := by
 unfold unstored
 split
 ·exact List.filter_sublist
 ·exact List.Sublist.refl _
def addStep (r : Rec) (s : Int) (x : Rec) : Int :=
 if s = 0 then (if isMade r.act.fid x then (if x.act.dir = r.act.dir ∧ x.act.name = r.act.name then 1 else 2) else 0)
 else if s = 1 then (if bars r.act.fid r.act.dir r.act.name x then 2 else 1) else s
theorem addStep_two (r : Rec) : ∀ l : List Rec,l.foldl (addStep r) 2 = 2
 | [] => rfl
 | x :: l => by simp only [List.foldl_cons]; rw [show addStep r 2 x = 2 from by simp [addStep]]; exact addStep_two r l
theorem addStep_one (r : Rec) : ∀ l : List Rec,l.foldl (addStep r) 1 = if l.any (bars r.act.fid r.act.dir r.act.name) then 2 else 1
 | [] => rfl
 | x :: l => by
  simp only [List.foldl_cons,List.any_cons]
  by_cases h : bars r.act.fid r.act.dir r.act.name x = true
  ·rw [show addStep r 1 x = 2 from by simp [addStep,h],addStep_two]; simp [h]
  ·rw [show addStep r 1 x = 1 from by simp [addStep,h],addStep_one]; simp [h]
theorem addStep_cancels (r : Rec) (hk : r.act.kind = 4) : ∀ l : List Rec,(l.foldl (addStep r) 0 == 1) = cancels l r
 | [] => rfl
 | x :: l => by
  have ih := addStep_cancels r hk l
  simp only [List.foldl_cons]
  unfold cancels at ih ⊢
  rw [List.findIdx?_cons]
  by_cases h : isMade r.act.fid x = true
  ·simp only [h,if_true]
   by_cases h2 : x.act.dir = r.act.dir ∧ x.act.name = r.act.name
   ·rw [show addStep r 0 x = 1 from by simp [addStep,h,h2],addStep_one]
    simp only [List.getD_cons_zero,h2.1,h2.2,hk,List.drop_succ_cons,List.drop_zero,Nat.zero_add]
    cases (l.any (bars r.act.fid r.act.dir r.act.name)) <;> simp
   ·rw [show addStep r 0 x = 2 from by simp only [addStep,h,if_true,if_neg h2],addStep_two]
    simp only [List.getD_cons_zero]
    by_cases h3 : x.act.dir = r.act.dir
    ·have h4 : ¬ x.act.name = r.act.name := fun e => h2 ⟨h3,e⟩
     simp [h4]
    ·simp [h3]
  ·rw [show addStep r 0 x = 0 from by simp [addStep,h],ih]
   simp only [h,if_false,Bool.false_eq_true]
   cases e : l.findIdx? (isMade r.act.fid) with
   | none => simp
   | some k => simp
end La
namespace La
open Go Go.Eng Go.Proofs
theorem fids_ok (a : Act) : FnOK Tryz.prog 43 [.agg (ZA a)] [] (fun r _ => r = .sl ((fids a).map ZI)) := by
 unfold ZA
 refine ZF tK (Tryz.func43) rfl (fun C => ?_)
 simp only [Tryz.ntmps43,Tryz.results43,go_sem]
 refine wG tK ?_
 refine wD (fun h => ?_) (fun h => ?_)
 ·refine wG tK ?_
  refine ZZ 9 rfl (rfl) ?_
  simp only [go_sem]
  refine wT ?_
  simp [go_sem,fids,ZI,eq_of_beq h]
 ·refine wG tK ?_
  have h1 : a.kind ≠ 3 := by simpa using h
  refine wD (fun h => ?_) (fun h => ?_)
  ·refine wG tK ?_
   refine ZZ 18 rfl (rfl) ?_
   simp only [go_sem]
   refine wT ?_
   have h2 : a.kind = 5 := by simpa using h
   simp [go_sem,fids,ZI,h2]
  ·refine wG tK ?_
   refine ZZ 23 rfl (rfl) ?_
   simp only [go_sem]
   refine wT ?_
   have h2 : a.kind ≠ 5 := by simpa using h
   simp [go_sem,fids,ZI,h1,h2]
theorem fids_len (a : Act) : (fids a).length ≤ 3 := by
 unfold fids
 split
 ·simp
 ·split <;> simp
theorem index_ok (l : List Int) (hlen : l.length ≤ 100000000) (v : Int) : FnOK Tryz.prog 72 [.sl (l.map ZI),.int .i64 v] [] (fun r _ => r = .int .i64 (idxI (l.findIdx? (v == ·)))) := by
 refine ZF tK (Tryz.func72) rfl (fun C => ?_)
 simp only [Tryz.ntmps72,Tryz.results72,go_sem]
 refine wG tK ?_
 refine ZL (fun i : Nat => i ≤ l.length ∧ ∀ x,x ∈ l.take i → (v == x) = false) (fun i => l.length - i) (fun i => [(8,.int .i64 i),(5,.any),(9,.any),(10,.any),(11,.any),(12,.any),(13,.any),(14,.any),(15,.any),(16,.any),(17,.any),(18,.any)]) (fun _ => []) 0 ⟨by omega,by simp⟩ ?_ fun i hi => ?_
 ·simp only [go_sem]
  exact ZU (by simp [go_sem]) (by simp [go_sem]) (by simp only [go_sem])
 obtain ⟨hi,hno⟩ := hi
 simp only [go_sem]
 refine wG tK ?_
 refine wD (fun h => ?_) (fun h => ?_)
 ·have hlt : i < l.length := by simp at h; omega
  have hg : (l.map ZI).getD i [] = ZI (l.getD i default) := Fam.getD hlt
  have htk := ZT hlt
  have hgi : l[i]? = some (l.getD i default) := by rw [List.getD_eq_getElem?_getD,List.getElem?_eq_getElem hlt]; rfl
  generalize l.getD i default = n at hg htk hgi
  refine wGq tK ?_ ?_ (by simp only [go_sem,hg,ZI]; try exact rfl)
  ·simp [hlt]
  refine wD (fun h => ?_) (fun h => ?_)
  ·refine wG tK ?_
   refine wT ?_
   rw [findIdx_at hgi hno h]; rfl
  ·have hw : IntKind.i64.wrap ((i : Int) + 1) = (i : Int) + 1 := wrap_small (by omega) (by omega)
   refine wG tK ?_ (by simp only [go_sem,hw]; try exact rfl) (by simp [go_sem,hw])
   refine ZB ⟨i + 1,⟨by omega,?_⟩,by omega,ZU ?_ ?_ ?_⟩
   ·rw [htk]
    intro x hx
    rcases List.mem_append.1 hx with hx | hx
    ·exact hno x hx
    ·rw [List.mem_singleton.1 hx]; exact h
   ·simp [go_sem]
   ·simp [go_sem]
   ·simp only [go_sem]
 ·have e : i = l.length := by simp at h; omega
  refine wG tK ?_
  refine wT ?_
  rw [e,List.take_length] at hno
  rw [List.findIdx?_eq_none_iff.2 hno]; rfl
theorem contains_ok (l : List Int) (hlen : l.length ≤ 100000000) (v : Int) : FnOK Tryz.prog 48 [.sl (l.map ZI),.int .i64 v] [] (fun r _ => r = .bool (l.contains v)) := by
 refine ZF tK (Tryz.func48) rfl (fun C => ?_)
 simp only [Tryz.ntmps48,Tryz.results48,go_sem]
 refine wG tK ?_
 refine wC Tryz.func72 (hf := (index_ok l hlen v)) (hk := ?_)
 refine wG tK ?_
 refine wT ?_
 rw [idxI_any,List.contains_eq_any_beq]
theorem cond_and (a b : Bool) : (bif a then b else false) = (a && b) := by cases a <;> rfl
theorem cond_or (a b : Bool) : (bif a then true else b) = (a || b) := by cases a <;> rfl
def Act.Small (a : Act) : Prop := a.data.length ≤ 100000000
structure SmallL (l : List Rec) : Prop where
 len : l.length ≤ 100000000
 each : ∀ r,r ∈ l → r.act.Small
theorem acts_own (a : Act) (ha : a.Small) : FnOK Tryz.prog 35 [.agg (ZA a)] [] (fun r _ => r = .agg (ZA a)) := by
 unfold ZA
 refine ZF tK (Tryz.func35) rfl (fun C => ?_)
 simp only [Tryz.ntmps35,Tryz.results35,go_sem]
 refine wG tK ?_
 refine wC Tryz.func57 (hf := (clone_bytes _ ha)) (hk := ?_)
 refine wG tK ?_
 refine wT ?_
 rfl
theorem logs_ownH (l : List Rec) (hl : SmallL l) : FnOK Tryz.prog 46 [.sl (l.map ZR)] [] (fun r H => r = .osl 19 9 0 (l.map ZR).length ∧ ∀ i b,Yk [(19,.cells 56 9 (l.map ZR))] i = some b → Yk H i = some b) := by
 have hlen := hl.len
 refine ZF tK (Tryz.func46) rfl (fun C => ?_)
 simp only [Tryz.ntmps46,Tryz.results46,go_sem]
 refine wG tK ?_
 refine ZL (fun i : Nat => i ≤ l.length) (fun i => l.length - i) (fun i => [(3,.osl 19 9 0 i),(5,.any),(8,.int .i64 i),(9,.any),(10,.any),(11,.any),(12,.any),(13,.any),(14,.any),(15,.any),(16,.any),(17,.any),(18,.any),(19,.any),(20,.any)])
  (fun i => [(19,.cells 56 9 ((l.take i).map ZR))]) 0 (by omega) ?_ fun i hi => ?_
 ·simp only [go_sem]
  exact ZU (by simp [go_sem]) (by simp [go_sem]) (by simp only [go_sem])
 simp only [go_sem]
 refine wG tK ?_
 refine wD (fun h => ?_) (fun h => ?_)
 ·have hlt : i < l.length := by simp at h; omega
  have hn := hl.each _ (YG hlt)
  have hg : (l.map ZR).getD i [] = ZR (l.getD i default) := Fam.getD hlt
  have hs := take_succ_map ZR hlt
  generalize l.getD i default = n at hn hg hs
  refine wGq tK ?_ ?_ (by simp only [go_sem,hg,ZR]; try exact rfl)
  ·simp [hlt,ZR]
  refine wC Tryz.func35 (hf := (acts_own n.act hn)) (hk := ?_)
  have ht : List.take i (List.map ZR (List.take i l)) = List.map ZR (List.take i l) := List.take_of_length_le (by simp; omega)
  have hw : IntKind.i64.wrap ((i : Int) + 1) = (i : Int) + 1 := wrap_small (by omega) (by omega)
  refine wGq tK ?_ ?_ (by simp only [go_sem,ht,hw,ZA]; try exact rfl)
  ·simp [rowsOf]; omega
  refine ZB ⟨i + 1,by omega,by omega,ZU ?_ ?_ ?_⟩
  ·simp [go_sem]
  ·simp [go_sem,hs,ZR]
  ·simp only [go_sem]
 ·have e : i = l.length := by simp at h; omega
  subst e
  refine wG tK ?_
  refine wT ?_
  simp [go_sem]
theorem logs_own (l : List Rec) (hl : SmallL l) : FnOK Tryz.prog 46 [.sl (l.map ZR)] [] (fun r _ => r = .sl (l.map ZR)) := FnOK.read (logs_ownH l hl) (recRow_pure _)
structure Srv where
 tree : List Node
 next : Int
 past : List Past
def ZQ (s : Srv) : List AV := [.sl (s.tree.map ZN),.int .i64 s.next,.sl (s.past.map ZP)]
@[go_sem,simp] theorem srvRow_refsL (s : Srv) : refsL (ZQ s) = [] := rfl
theorem version_ok (s : Srv) (h : s.past.length ≤ 100000000) : FnOK Tryz.prog 14 [.agg (ZQ s)] [] (fun r _ => r = .int .i64 ((s.past.length + 1 : Nat) : Int)) := by
 have hw : IntKind.i64.wrap ((s.past.length : Int) + 1) = ((s.past.length + 1 : Nat) : Int) := by rw [Eng.wrap_small (by omega) (by omega)]; rfl
 unfold ZQ
 refine ZF tK (Tryz.func14) rfl (fun C => ?_)
 simp only [Tryz.ntmps14,Tryz.results14,go_sem]
 refine wG tK ?_ (by simp only [go_sem,hw]; try exact rfl) (by simp [go_sem,hw])
 refine wT ?_
 rfl
structure SmallP (l : List Past) : Prop where
 len : l.length ≤ 90000000
 each : ∀ p,p ∈ l → p.act.data.length ≤ 100000000
theorem sown_ok (s : Srv) (ht : Small s.tree) (hp : SmallP s.past) : FnOK Tryz.prog 13 [.agg (ZQ s)] [] (fun r _ => r = .agg (ZQ s)) := by
 have hlen := hp.len
 unfold ZQ
 refine ZF tK (Tryz.func13) rfl (fun C => ?_)
 simp only [Tryz.ntmps13,Tryz.results13,go_sem]
 refine wG tK ?_
 refine ZZ 1 rfl (rfl) ?_
 simp only [go_sem]
 refine ZW ZM ?_
 refine ZS rfl ?_
 refine sN tK 2 ?_
 refine sC Tryz.func38 (hf := (own_ok s.tree ht)) (hk := ?_)
 refine sN tK 2 ?_
 refine sB tK ?_
 refine sW tK ?_
 refine sE ?_
 refine dS tK ?_
 refine wKd ?_
 try simp only [go_sem,gA,gB,gC]
 refine wG tK ?_
 refine Yl (le_nilB 28 8 3 (by simp only [go_sem]; try exact rfl) (by simp only [go_sem]; try exact rfl)) ?_
 refine Yl (Ze 28 88 8 (by simp only [go_sem]; try exact rfl)) ?_
 simp only [go_sem]
 refine ZL (fun i : Nat => i ≤ s.past.length) (fun i => s.past.length - i) (fun i => [(5,.any),(15,.int .i64 i),(16,.any),(17,.any),(18,.any),(19,.any),(20,.any),(21,.any),(22,.any),(23,.any),(24,.any),(25,.any),(26,.any),(27,.any),(28,.any),(29,.any),(30,.any)])
  (fun i => [(3,.cells 31 3 [[.sl (s.tree.map ZN),.int .i64 s.next,.osl 28 8 0 i]]),(28,.cells 88 8 ((s.past.take i).map ZP))]) 0 (by omega) ?_ fun i hi => ?_
 ·simp only [go_sem]
  exact ZU (by simp [go_sem]) (by simp [go_sem]) (by simp only [go_sem])
 simp only [go_sem]
 refine wG tK ?_
 refine wD (fun h => ?_) (fun h => ?_)
 ·have hlt : i < s.past.length := by simp at h; omega
  have hw := wi1 (i := i) (by omega)
  have hg : (s.past.map ZP).getD i [] = ZP (s.past.getD i default) := Fam.getD hlt
  have hs := take_succ_map ZP hlt
  have ha := hp.each _ (YG hlt)
  generalize s.past.getD i default = x at *
  refine wGq tK ?_ ?_ (by simp only [go_sem,hg,ZP]; try exact rfl)
  ·simp [hg,ZP,hlt]
  refine ZZ 5 rfl (rfl) ?_
  simp only [go_sem]
  refine ZW ZM ?_
  refine ZS rfl ?_
  refine sN tK 6 ?_
  refine sC Tryz.func35 (hf := (acts_own x.act ha)) (hk := ?_)
  simp only [go_sem,ZA]
  refine sB tK ?_
  refine sW tK ?_
  refine sE ?_
  refine draw_le (le_killB 28 3 (by simp only [go_sem]; exact rfl) (by simp only [go_sem,kill]; exact rfl)) ?_
  simp only [go_sem]
  refine dSq tK ?_ ?_
  ·simp [go_sem,rowsOf]
   refine ⟨by omega,by omega,fun x hx y hy hr => ?_⟩
   have h1 := List.mem_of_mem_take (List.mem_of_mem_take hx)
   have := List.all_eq_true.1 (List.all_eq_true.1 (pastRow_noRef 28 s.past) x h1) y hy
   simp only [Bool.not_eq_true',List.contains_eq_mem,decide_eq_false_iff_not] at this
   exact this hr
  simp only [go_sem]
  refine dS tK ?_
  refine dS tK ?_
  refine wKd ?_
  try simp only [go_sem,gA,gB,gC]
  refine wG tK ?_ (by simp only [go_sem,hw]; try exact rfl) (by simp [go_sem,hw])
  refine ZB ⟨i + 1,by omega,by omega,ZU ?_ ?_ ?_⟩
  ·simp [go_sem]
  ·simp [go_sem,hs,ZP,List.take_take]
  ·simp only [go_sem]
 ·have e : i = s.past.length := by simp at h; omega
  subst e
  refine wG tK ?_
  refine ZZ 28 rfl (pastRow_pure _) ?_
  simp only [go_sem]
  refine wT ?_
  simp
theorem sown_okH (s : Srv) (ht : Small s.tree) (hp : SmallP s.past) : FnOK Tryz.prog 13 [.agg (ZQ s)] [] (fun r H => r = .agg [.sl (s.tree.map ZN),.int .i64 s.next,.osl 28 8 0 s.past.length] ∧ ∀ i b,Yk [(28,.cells 88 8 (s.past.map ZP))] i = some b → Yk H i = some b) := by
 have hlen := hp.len
 unfold ZQ
 refine ZF tK (Tryz.func13) rfl (fun C => ?_)
 simp only [Tryz.ntmps13,Tryz.results13,go_sem]
 refine wG tK ?_
 refine ZZ 1 rfl (rfl) ?_
 simp only [go_sem]
 refine ZW ZM ?_
 refine ZS rfl ?_
 refine sN tK 2 ?_
 refine sC Tryz.func38 (hf := (own_ok s.tree ht)) (hk := ?_)
 refine sN tK 2 ?_
 refine sB tK ?_
 refine sW tK ?_
 refine sE ?_
 refine dS tK ?_
 refine wKd ?_
 try simp only [go_sem,gA,gB,gC]
 refine wG tK ?_
 refine Yl (le_nilB 28 8 3 (by simp only [go_sem]; try exact rfl) (by simp only [go_sem]; try exact rfl)) ?_
 refine Yl (Ze 28 88 8 (by simp only [go_sem]; try exact rfl)) ?_
 simp only [go_sem]
 refine ZL (fun i : Nat => i ≤ s.past.length) (fun i => s.past.length - i) (fun i => [(5,.any),(15,.int .i64 i),(16,.any),(17,.any),(18,.any),(19,.any),(20,.any),(21,.any),(22,.any),(23,.any),(24,.any),(25,.any),(26,.any),(27,.any),(28,.any),(29,.any),(30,.any)])
  (fun i => [(3,.cells 31 3 [[.sl (s.tree.map ZN),.int .i64 s.next,.osl 28 8 0 i]]),(28,.cells 88 8 ((s.past.take i).map ZP))]) 0 (by omega) ?_ fun i hi => ?_
 ·simp only [go_sem]
  exact ZU (by simp [go_sem]) (by simp [go_sem]) (by simp only [go_sem])
 simp only [go_sem]
 refine wG tK ?_
 refine wD (fun h => ?_) (fun h => ?_)
 ·have hlt : i < s.past.length := by simp at h; omega
  have hw := wi1 (i := i) (by omega)
  have hg : (s.past.map ZP).getD i [] = ZP (s.past.getD i default) := Fam.getD hlt
  have hs := take_succ_map ZP hlt
  have ha := hp.each _ (YG hlt)
  generalize s.past.getD i default = x at *
  refine wGq tK ?_ ?_ (by simp only [go_sem,hg,ZP]; try exact rfl)
  ·simp [hg,ZP,hlt]
  refine ZZ 5 rfl (rfl) ?_
  simp only [go_sem]
  refine ZW ZM ?_
  refine ZS rfl ?_
  refine sN tK 6 ?_
  refine sC Tryz.func35 (hf := (acts_own x.act ha)) (hk := ?_)
  simp only [go_sem,ZA]
  refine sB tK ?_
  refine sW tK ?_
  refine sE ?_
  refine draw_le (le_killB 28 3 (by simp only [go_sem]; exact rfl) (by simp only [go_sem,kill]; exact rfl)) ?_
  simp only [go_sem]
  refine dSq tK ?_ ?_
  ·simp [go_sem,rowsOf]
   refine ⟨by omega,by omega,fun x hx y hy hr => ?_⟩
   have h1 := List.mem_of_mem_take (List.mem_of_mem_take hx)
   have := List.all_eq_true.1 (List.all_eq_true.1 (pastRow_noRef 28 s.past) x h1) y hy
   simp only [Bool.not_eq_true',List.contains_eq_mem,decide_eq_false_iff_not] at this
   exact this hr
  simp only [go_sem]
  refine dS tK ?_
  refine dS tK ?_
  refine wKd ?_
  try simp only [go_sem,gA,gB,gC]
  refine wG tK ?_ (by simp only [go_sem,hw]; try exact rfl) (by simp [go_sem,hw])
  refine ZB ⟨i + 1,by omega,by omega,ZU ?_ ?_ ?_⟩
  ·simp [go_sem]
  ·simp [go_sem,hs,ZP,List.take_take]
  ·simp only [go_sem]
 ·have e : i = s.past.length := by simp at h; omega
  subst e
  refine wG tK ?_
  refine wT ?_
  simp [go_sem]
def Zm (a : Act) : Bool := a.kind == 1 || a.kind == 2
def doA (s : Srv) (a : Act) : Act := if Zm a then { a with fid := s.next } else a
noncomputable def doE (s : Srv) (a : Act) : Int := Yb s.tree (doA s a)
noncomputable def doS (s : Srv) (c : Int) (a : Act) : Srv := ⟨Yj s.tree (doA s a) ((s.past.length + 1 : Nat) : Int),if Zm a then s.next + 1 else s.next,s.past ++ [⟨c,doA s a⟩]⟩
structure SmallK (l : List Kept) : Prop where
 len : l.length ≤ 100000000
 each : ∀ k,k ∈ l → k.node.Small
def kplace (l : List Kept) (fid : Int) : Option Nat := l.findIdx? fun k => k.node.fid == fid
def hasK (l : List Kept) (fid : Int) : Bool := l.any fun k => k.node.fid == fid
def staleK (at_ : List Node) (k : Kept) : Bool := !k.dirty && (!isAt at_ k.node.fid || !(((Yf at_ k.node.fid).getD Yz).version == k.node.version))
def mapUpto (f : Nat → Int) (g : Nat → AV) : Nat → List (Int × AV)
 | 0 => []
 | i + 1 => Zp (mapUpto f g i) (f i) (g i)
theorem mapUpto_rise (f : Nat → Int) (g : Nat → AV) : ∀ i,(mapUpto f g i).Pairwise fun a b => a.1 < b.1
 | 0 => List.Pairwise.nil
 | i + 1 => mput_rise (mapUpto_rise f g i)
theorem mapUpto_none {f : Nat → Int} {g : Nat → AV} {k : Int} : ∀ {i},(∀ j,j < i → f j ≠ k) → Zg (mapUpto f g i) k = none
 | 0,_ => rfl
 | i + 1,h => by
  rw [mapUpto,mget_mput (mapUpto_rise f g i),if_neg (fun e => h i (by omega) e.symm)]
  exact mapUpto_none fun j hj => h j (by omega)
theorem mapUpto_some {f : Nat → Int} {g : Nat → AV} {k : Int} : ∀ {i j},j < i → f j = k → (∀ m,j < m → m < i → f m ≠ k) → Zg (mapUpto f g i) k = some (g j)
 | 0,_,h,_,_ => by omega
 | i + 1,j,h,he,hl => by
  rw [mapUpto,mget_mput (mapUpto_rise f g i)]
  by_cases hj : j = i
  ·subst hj; rw [if_pos he.symm]
  ·rw [if_neg (fun e => hl i (by omega) (by omega) e.symm)]
   exact mapUpto_some (by omega) he fun m h1 h2 => hl m h1 (by omega)
def fidK (l : List Kept) (i : Nat) : Int := (l.getD i default).node.fid
def UnlikeN (l : List Kept) (n : Nat) : Prop := ∀ i,i < n → ∀ j,j < i → fidK l j ≠ fidK l i
instance (l : List Kept) (n : Nat) : Decidable (UnlikeN l n) := by unfold UnlikeN; infer_instance
def fidN (l : List Node) (i : Nat) : Int := (l.getD i default).fid
def mapUN (l : List Node) (i : Nat) : List (Int × AV) := mapUpto (fidN l) (fun i => .agg (ZN (l.getD i default))) i
def mapN (l : List Node) : List (Int × AV) := mapUN l l.length
theorem mapN_get {l : List Node} (h : Up l) (k : Int) : Zg (mapN l) k = (Yf l k).map fun n => .agg (ZN n) := by
 unfold mapN mapUN
 cases e : Yf l k with
 | none =>
  have hn := (findN_none h).1 e
  exact mapUpto_none fun j hj => hn _ (YG hj)
 | some n =>
  obtain ⟨hm,hf⟩ := (ZO h).1 e
  obtain ⟨j,hj⟩ := List.getElem?_of_mem hm
  have hjl : j < l.length := (List.getElem?_eq_some_iff.1 hj).1
  have hjd := getD_of hj
  rw [mapUpto_some (j := j) hjl (by unfold fidN; rw [hjd]; exact hf) fun m h1 h2 h3 => by
   have := h.lt h1 h2
   unfold fidN at h3
   rw [hjd,hf,h3] at this
   omega]
  simp only [Option.map_some,hjd]
theorem mget_map {α β : Type} (g : α → β) : ∀ (m : List (Int × α)) (f : Int),Zg (m.map fun p => (p.1,g p.2)) f = (Zg m f).map g
 | [],_ => rfl
 | p :: r,f => by
  simp only [List.map_cons,Zg,mget_map g r f]
  split <;> rfl
theorem mput_map {α β : Type} (g : α → β) : ∀ (m : List (Int × α)) (f : Int) (v : α),Zp (m.map fun p => (p.1,g p.2)) f (g v) = (Zp m f v).map fun p => (p.1,g p.2)
 | [],_,_ => rfl
 | p :: r,f,v => by
  simp only [List.map_cons,Zp,mput_map g r f v]
  split
  ·rfl
  ·split <;> rfl
theorem mdel_map {α β : Type} (g : α → β) (m : List (Int × α)) (f : Int) : mdel (m.map fun p => (p.1,g p.2)) f = (mdel m f).map fun p => (p.1,g p.2) := by
 unfold mdel; rw [List.filter_map]; rfl
def mI (m : List (Int × Int)) : List (Int × AV) := m.map fun p => (p.1,.int .i64 p.2)
def mB (m : List (Int × Bool)) : List (Int × AV) := m.map fun p => (p.1,.bool p.2)
def getB (m : List (Int × Bool)) (f : Int) : Bool := (Zg m f).getD false
def getI (m : List (Int × Int)) (f : Int) : Int := (Zg m f).getD 0
def hasI (m : List (Int × Int)) (f : Int) : Bool := (Zg m f).isSome
@[go_sem] theorem mI_get (m : List (Int × Int)) (f : Int) : (Zg (mI m) f).getD (.int .i64 0) = .int .i64 (getI m f) := by
 unfold mI getI; rw [mget_map (fun x => AV.int .i64 x)]; cases Zg m f <;> rfl
@[go_sem] theorem mI_has (m : List (Int × Int)) (f : Int) : (Zg (mI m) f).isSome = hasI m f := by
 unfold mI hasI; rw [mget_map (fun x => AV.int .i64 x)]; cases Zg m f <;> rfl
@[go_sem] theorem mI_put (m : List (Int × Int)) (f x : Int) : Zp (mI m) f (.int .i64 x) = mI (Zp m f x) := mput_map (fun x => AV.int .i64 x) m f x
@[go_sem] theorem mI_del (m : List (Int × Int)) (f : Int) : mdel (mI m) f = mI (mdel m f) := mdel_map (fun x => AV.int .i64 x) m f
@[go_sem] theorem mB_get (m : List (Int × Bool)) (f : Int) : (Zg (mB m) f).getD (.bool false) = .bool (getB m f) := by
 unfold mB getB; rw [mget_map AV.bool]; cases Zg m f <;> rfl
@[go_sem] theorem mB_put (m : List (Int × Bool)) (f : Int) (x : Bool) : Zp (mB m) f (.bool x) = mB (Zp m f x) := mput_map AV.bool m f x
def mN (m : List (Int × Node)) : List (Int × AV) := m.map fun p => (p.1,.agg (ZN p.2))
theorem mN_get (m : List (Int × Node)) (k : Int) : Zg (mN m) k = (Zg m k).map fun n => .agg (ZN n) := mget_map (fun n => AV.agg (ZN n)) m k
theorem mN_put (m : List (Int × Node)) (k : Int) (n : Node) : Zp (mN m) k (.agg (ZN n)) = mN (Zp m k n) := mput_map (fun n => AV.agg (ZN n)) m k n
def RiseM {α : Type} (m : List (Int × α)) : Prop := m.Pairwise fun a b => a.1 < b.1
theorem getB_put {m : List (Int × Bool)} (h : RiseM m) (f : Int) (b : Bool) (x : Int) : getB (Zp m f b) x = if x = f then b else getB m x := by
 unfold getB; rw [mget_mput h]; split <;> rfl
structure JS where
 l : List Node
 next : Int
 version : Int
 own : List (Int × Int)
 ours : List (Int × Bool)
 lost : List (Int × Bool)
def atF (m : List (Int × Int)) (f : Int) : Int := if hasI m f = true then getI m f else f
def restsB (j : JS) (a : Act) : Bool := (fids a).any (getB j.lost)
def staleB (j : JS) (r : Rec) (a : Act) : Bool :=
 if ((a.kind ≠ 3 ∧ a.kind ≠ 4) ∨ r.version < 0) ∨ getB j.ours a.fid = true then false
 else match Yf j.l a.fid with
  | none => true
  | some n => n.version != r.version
def own1 (j : JS) (r : Rec) : List (Int × Int) := if Zm r.act = true then Zp j.own r.act.fid j.next else j.own
def actJ (j : JS) (r : Rec) : Act := { r.act with fid := atF (own1 j r) r.act.fid,dir := atF (own1 j r) r.act.dir,to := if r.act.kind = 5 then atF (own1 j r) r.act.to else r.act.to }
noncomputable def oneE (j : JS) (r : Rec) : Int :=
 if restsB j r.act = true then 14
 else if Zm r.act = true ∧ (hasI j.own r.act.fid = true ∨ r.act.fid ≥ 0) then 2
 else if staleB { j with own := own1 j r } r (actJ j r) = true then 13
 else Yb j.l (actJ j r)
noncomputable def oneJ (j : JS) (r : Rec) : JS :=
 if restsB j r.act = true then j
 else if Zm r.act = true ∧ (hasI j.own r.act.fid = true ∨ r.act.fid ≥ 0) then j
 else if staleB { j with own := own1 j r } r (actJ j r) = true then { j with own := own1 j r }
 else if Yb j.l (actJ j r) ≠ 0 then { j with own := if Zm r.act = true then mdel (own1 j r) r.act.fid else own1 j r }
 else { j with l := Yj j.l (actJ j r) j.version,next := if Zm r.act = true then j.next + 1 else j.next,version := j.version + 1,own := own1 j r }
def oneA (j : JS) (r : Rec) : Act :=
 if restsB j r.act = true then r.act
 else if Zm r.act = true ∧ (hasI j.own r.act.fid = true ∨ r.act.fid ≥ 0) then r.act
 else actJ j r
noncomputable def oneV (j : JS) (r : Rec) : Verdict := ⟨oneE j r,if oneE j r = 0 then (actJ j r).fid else 0⟩
structure JG where
 j : JS
 vs : List Verdict
 done : List Act
def lose (j : JS) (f : Int) : JS := { j with lost := Zp j.lost f true }
def oursP (m : List (Int × Bool)) (l : List Int) : List (Int × Bool) := l.foldl (fun m f => Zp m f true) m
noncomputable def stepJ (s : JG) (r : Rec) : JG :=
 if oneE s.j r = 0 then ⟨{ oneJ s.j r with ours := oursP (oneJ s.j r).ours (fids (oneA s.j r)) },s.vs ++ [oneV s.j r],s.done ++ [oneA s.j r]⟩
 else ⟨lose (oneJ s.j r) r.act.fid,s.vs ++ [oneV s.j r],s.done⟩
def startJ (l : List Node) (next version : Int) : JG := ⟨⟨l,next,version,[],[],[]⟩,[],[]⟩
noncomputable def judgeJ (l : List Node) (next version : Int) (log : List Rec) : JG := log.foldl stepJ (startJ l next version)
noncomputable def takeS (s : Srv) (c : Int) (log : List Rec) : Srv :=
 ⟨(judgeJ s.tree s.next ((s.past.length + 1 : Nat) : Int) log).j.l,(judgeJ s.tree s.next ((s.past.length + 1 : Nat) : Int) log).j.next,s.past ++ (judgeJ s.tree s.next ((s.past.length + 1 : Nat) : Int) log).done.map fun a => ⟨c,a⟩⟩
inductive Hist : List Past → List Node → Prop
 | nil : Hist [] [rootN]
 | snoc {p : List Past} {t : List Node} (c : Int) (a : Act) (h : Hist p t) (ha : ActFit a) (he : Yb t a = 0) : Hist (p ++ [⟨c,a⟩]) (Yj t a ((p.length + 1 : Nat) : Int))
theorem Hist.good {p : List Past} {t : List Node} (h : Hist p t) : Good t := by
 induction h with
 | nil => exact good_root
 | snoc c a h ha he ih => exact good_apply ih _ _ he
theorem Hist.st {p : List Past} {t : List Node} (h : Hist p t) : ∃ st : Nat → List Node,st 0 = [rootN] ∧ st p.length = t ∧
  ∀ i,i < p.length → Good (st i) ∧ ActFit (p.getD i default).act ∧ Yb (st i) (p.getD i default).act = 0 ∧ st (i + 1) = Yj (st i) (p.getD i default).act ((i + 1 : Nat) : Int) := by
 induction h with
 | nil => exact ⟨fun _ => [rootN],rfl,rfl,fun i hi => by simp at hi⟩
 | @snoc p t c a h ha he ih =>
  obtain ⟨st,h0,h1,h2⟩ := ih
  refine ⟨fun i => if i ≤ p.length then st i else Yj t a ((p.length + 1 : Nat) : Int),?_,?_,fun i hi => ?_⟩
  ·simp [h0]
  ·show (if (p ++ [(⟨c,a⟩ : Past)]).length ≤ p.length then _ else _) = _
   rw [if_neg (by simp)]
  ·have hl : (p ++ [(⟨c,a⟩ : Past)]).length = p.length + 1 := by simp
   rw [hl] at hi
   by_cases e : i < p.length
   ·have hg : (p ++ [(⟨c,a⟩ : Past)]).getD i default = p.getD i default := by
     rw [List.getD_eq_getElem?_getD,List.getElem?_append_left e,List.getD_eq_getElem?_getD]
    rw [hg]
    simp only [show i ≤ p.length by omega,if_true,show i + 1 ≤ p.length by omega]
    exact h2 i e
   ·have e2 : i = p.length := by omega
    subst e2
    have hg : (p ++ [(⟨c,a⟩ : Past)]).getD p.length default = ⟨c,a⟩ := by
     rw [List.getD_eq_getElem?_getD,List.getElem?_append_right (Nat.le_refl _)]; simp
    rw [hg]
    simp only [Nat.le_refl,if_true,show ¬ p.length + 1 ≤ p.length by omega,if_false,h1]
    exact ⟨h.good,ha,he,trivial⟩
theorem actJ_fit {j : JS} {r : Rec} (h : ActFit r.act) : ActFit (actJ j r) := ⟨h.name,h.toName,h.data⟩
structure JInv (p : List Past) (c : Int) (k : Nat) (n0 : Int) (s : JG) : Prop where
 hist : Hist (p ++ s.done.map fun a => ⟨c,a⟩) s.j.l
 version : s.j.version = ((p.length + s.done.length + 1 : Nat) : Int)
 len : s.done.length ≤ k
 vlen : s.vs.length = k
 next : n0 ≤ s.j.next ∧ s.j.next ≤ n0 + k
theorem JInv.step {p : List Past} {c : Int} {k : Nat} {n0 : Int} {s : JG} (h : JInv p c k n0 s) {r : Rec} (hr : ActFit r.act) : JInv p c (k + 1) n0 (stepJ s r) := by
 unfold stepJ
 have h1 := h.next
 have h2 := h.len
 have h3 := h.vlen
 by_cases he : oneE s.j r = 0
 ·rw [if_pos he]
  unfold oneE at he
  split at he
  ·omega
  ·rename_i c1
   split at he
   ·omega
   ·rename_i c2
    split at he
    ·omega
    ·rename_i c3
     have hJ : oneJ s.j r = { s.j with l := Yj s.j.l (actJ s.j r) s.j.version,next := if Zm r.act = true then s.j.next + 1 else s.j.next,version := s.j.version + 1,own := own1 s.j r } := by
      unfold oneJ; rw [if_neg c1,if_neg c2,if_neg c3,if_neg (by simp [he])]
     have hA : oneA s.j r = actJ s.j r := by unfold oneA; rw [if_neg c1,if_neg c2]
     rw [hJ,hA]
     refine ⟨?_,?_,?_,?_,?_⟩
     ·have := Hist.snoc c (actJ s.j r) h.hist (actJ_fit hr) he
      rw [List.length_append,List.length_map,← h.version] at this
      simpa using this
     ·have := h.version
      simp only [List.length_append,List.length_cons,List.length_nil]
      omega
     ·simp only [List.length_append,List.length_cons,List.length_nil]; omega
     ·simp only [List.length_append,List.length_cons,List.length_nil]; omega
     ·simp only
      split <;> omega
 ·rw [if_neg he]
  have hJ : (oneJ s.j r).l = s.j.l ∧ (oneJ s.j r).next = s.j.next ∧ (oneJ s.j r).version = s.j.version := by
   unfold oneJ
   unfold oneE at he
   split
   ·exact ⟨rfl,rfl,rfl⟩
   ·rename_i c1
    rw [if_neg c1] at he
    split
    ·exact ⟨rfl,rfl,rfl⟩
    ·rename_i c2
     rw [if_neg c2] at he
     split
     ·exact ⟨rfl,rfl,rfl⟩
     ·rename_i c3
      rw [if_neg c3] at he
      rw [if_pos he]
      exact ⟨rfl,rfl,rfl⟩
  obtain ⟨j1,j2,j3⟩ := hJ
  refine ⟨?_,?_,?_,?_,?_⟩
  ·show Hist _ (oneJ s.j r).l
   rw [j1]; exact h.hist
  ·show (oneJ s.j r).version = _
   rw [j3]; exact h.version
  ·show s.done.length ≤ k + 1; omega
  ·simp only [List.length_append,List.length_cons,List.length_nil]; omega
  ·show n0 ≤ (oneJ s.j r).next ∧ (oneJ s.j r).next ≤ n0 + ((k + 1 : Nat) : Int)
   rw [j2]; omega
theorem JInv.start {p : List Past} {t : List Node} (h : Hist p t) (c n0 : Int) : JInv p c 0 n0 (startJ t n0 ((p.length + 1 : Nat) : Int)) :=
 ⟨by simpa [startJ] using h,by simp [startJ],by simp [startJ],by simp [startJ],by simp [startJ]⟩
theorem JInv.judge {p : List Past} {t : List Node} (h : Hist p t) (c n0 : Int) (log : List Rec) (hl : ∀ r,r ∈ log → ActFit r.act) : JInv p c log.length n0 (judgeJ t n0 ((p.length + 1 : Nat) : Int) log) := by
 have key : ∀ (l : List Rec) (k : Nat) (s : JG),(∀ r,r ∈ l → ActFit r.act) → JInv p c k n0 s → JInv p c (k + l.length) n0 (l.foldl stepJ s) := fun l => by
  induction l with
  | nil => exact fun k s _ h => h
  | cons r l ih =>
   intro k s hl h
   have := ih (k + 1) (stepJ s r) (fun x hx => hl x (List.mem_cons_of_mem _ hx)) (h.step (hl r List.mem_cons_self))
   rw [List.foldl_cons,List.length_cons,show k + (l.length + 1) = k + 1 + l.length by omega]
   exact this
 have := key log 0 _ hl (JInv.start h c n0)
 rwa [Nat.zero_add] at this
structure SrvOK (k : Nat) (s : Srv) : Prop where
 hist : Hist s.past s.tree
 len : s.past.length ≤ k
 next : 1 ≤ s.next ∧ s.next ≤ 1 + k
theorem SrvOK.new : SrvOK 0 ⟨[rootN],1,[]⟩ := ⟨.nil,by simp,by simp⟩
theorem SrvOK.mono {k m : Nat} {s : Srv} (h : SrvOK k s) (hk : k ≤ m) : SrvOK m s := ⟨h.hist,by have := h.len; omega,by have := h.next; omega⟩
theorem SrvOK.step {k : Nat} {s : Srv} (h : SrvOK k s) (c : Int) {a : Act} (ha : ActFit a) (he : doE s a = 0) : SrvOK (k + 1) (doS s c a) := by
 have h1 := h.len
 have h2 := h.next
 have hf : ActFit (doA s a) := by unfold doA; split; exact ⟨ha.name,ha.toName,ha.data⟩; exact ha
 refine ⟨Hist.snoc c _ h.hist hf he,by simp [doS]; omega,?_⟩
 show 1 ≤ (if Zm a = true then s.next + 1 else s.next) ∧ (if Zm a = true then s.next + 1 else s.next) ≤ 1 + ((k + 1 : Nat) : Int)
 split <;> omega
theorem SrvOK.take {k : Nat} {s : Srv} (h : SrvOK k s) (c : Int) {log : List Rec} (hl : ∀ r,r ∈ log → ActFit r.act) : SrvOK (k + log.length) (takeS s c log) := by
 have h1 := h.len
 have h2 := h.next
 have hj := JInv.judge h.hist c s.next log hl
 have h3 := hj.len
 have h4 := hj.next
 exact ⟨hj.hist,by simp only [takeS,List.length_append,List.length_map]; omega,by show 1 ≤ (judgeJ s.tree s.next _ log).j.next ∧ (judgeJ s.tree s.next _ log).j.next ≤ _; omega⟩
def jRow (j : JS) : List AV := [.sl (j.l.map ZN),.int .i64 j.next,.int .i64 j.version,.mp 25,.mp 26,.mp 27]
def jB (j : JS) : List (Nat × Blk) := [(29,.cells 139 6 [jRow j]),(27,.map (mB j.lost)),(26,.map (mB j.ours)),(25,.map (mI j.own))]
def jH (j : JS) (G Y N : Nat → Nat) : List (Nat × Blk) := jB j ++ Yx [29,25,26,27] G Y N
def jcH (j : JS) (G Y N : Nat → Nat) : List (Nat × Blk) := ([(2,.cells 136 1 [[.ptr 29 6 0 0]])] ++ jB j) ++ Yx [29,25,26,27,2] G Y N
def jaH (j : JS) (a : Act) (G Y N : Nat → Nat) : List (Nat × Blk) := ([(6,.cells 26 7 [ZA a])] ++ jB j) ++ Yx [29,25,26,27,6] G Y N
def Holds (L H : List (Nat × Blk)) : Prop := ∀ i b,Yk L i = some b → Yk H i = some b
theorem YH (H : List (Nat × Blk)) : Holds [] H := fun _ _ h => nomatch h
theorem ZH {L H : List (Nat × Blk)} {k : Nat} {B : Blk} (h : Yk H k = some B) (hL : Holds L H) : Holds ((k,B) :: L) H := fun i b hb => by
 simp only [Yk] at hb
 split at hb
 ·rename_i e; subst e; rw [h]; exact hb
 ·exact hL i b hb
theorem fid_ok (j : JS) (f : Int) (G Y N : Nat → Nat) : FnOK Tryz.prog 98 [.ptr 29 6 0 0,.int .i64 f] (jH j G Y N) (fun r H => r = .int .i64 (atF j.own f) ∧ Holds (jH j G Y N) H) := by
 unfold jH jB jRow atF
 refine ZF tK (Tryz.func98) rfl (fun C => ?_)
 simp only [Tryz.ntmps98,Tryz.results98,go_sem]
 refine wR ?_
 refine wN tK 1 ?_
 refine wR ?_
 refine wN tK 5 ?_
 refine wG tK ?_
 cases e : hasI j.own f with
 | true =>
  refine wDT (hb := by simp [e]) (hk := ?_)
  refine wG tK ?_
  refine wT ?_
  exact ⟨rfl,fun i b hb => hb⟩
 | false =>
  refine wDF (hb := by simp [e]) (hk := ?_)
  refine wG tK ?_
  refine wT ?_
  exact ⟨rfl,fun i b hb => hb⟩
theorem lost_ok (j : JS) (f : Int) (G Y N : Nat → Nat) : FnOK Tryz.prog 122 [.int .i64 f,.ptr 2 1 0 0] (jcH j G Y N) (fun r H => r = .bool (getB j.lost f) ∧ Holds (jcH j G Y N) H) := by
 unfold jcH jB jRow
 refine ZF tK (Tryz.func122) rfl (fun C => ?_)
 simp only [Tryz.ntmps122,Tryz.results122,go_sem]
 refine wG tK ?_
 refine wT ?_
 exact ⟨rfl,fun i b hb => hb⟩
theorem lostIdx_ok (j : JS) (l : List Int) (hlen : l.length ≤ 100000000) (G Y N : Nat → Nat) : FnOK Tryz.prog 70 [.sl (l.map ZI),.fn 122 [.ptr 2 1 0 0]] (jcH j G Y N)
  (fun r H => r = .int .i64 (idxI (l.findIdx? (getB j.lost))) ∧ Holds (jcH j G Y N) H) := by
 unfold jcH jB jRow
 refine ZF tK (Tryz.func70) rfl (fun C => ?_)
 simp only [Tryz.ntmps70,Tryz.results70,go_sem]
 refine wG tK ?_
 refine ZL (fun i : Nat => i ≤ l.length ∧ ∀ x,x ∈ l.take i → getB j.lost x = false) (fun i => l.length - i) (fun i => [(8,.int .i64 i),(5,.any),(9,.any),(10,.any),(11,.any),(12,.any),(13,.any),(14,.any),(15,.any),(16,.any),(17,.any),(18,.any)]) (fun _ => []) 0 ⟨by omega,by simp⟩ ?_ fun i hi => ?_
 ·simp only [go_sem]
  exact ZU (by simp [go_sem]) (by simp [go_sem]) (by simp [go_sem])
 obtain ⟨hi,hno⟩ := hi
 simp only [go_sem]
 refine wG tK ?_
 refine wD (fun h => ?_) (fun h => ?_)
 ·have hlt : i < l.length := by simp at h; omega
  have hg : (l.map ZI).getD i [] = ZI (l.getD i default) := Fam.getD hlt
  have htk := ZT hlt
  have hgi : l[i]? = some (l.getD i default) := by rw [List.getD_eq_getElem?_getD,List.getElem?_eq_getElem hlt]; rfl
  have hc := lost_ok j (l.getD i default)
  unfold jcH jB jRow at hc
  generalize l.getD i default = n at hg htk hgi hc
  refine wGq tK ?_ ?_ (by simp only [go_sem,hg,ZI]; try exact rfl)
  ·simp [hlt,ZI]
  refine wP [29,25,26,27,2] Tryz.func122 (hf := (hc)) (hk := ?_)
  refine wG tK ?_
  refine wD (fun h => ?_) (fun h => ?_)
  ·refine wG tK ?_
   refine wU ?_ ?_
   ·rw [findIdx_at hgi hno h]; rfl
   ·skip
    simp only [Yx,gH,gI,gJ,gK]
    repeat' refine ZH ?_ ?_
    all_goals first | exact YH _ | rfl | simp [go_sem]
  ·have hw : IntKind.i64.wrap ((i : Int) + 1) = (i : Int) + 1 := wrap_small (by omega) (by omega)
   refine wG tK ?_ (by simp only [go_sem,hw]; try exact rfl) (by simp [go_sem,hw])
   refine ZB ⟨i + 1,⟨by omega,?_⟩,by omega,ZU ?_ ?_ ?_⟩
   ·rw [htk]
    intro x hx
    rcases List.mem_append.1 hx with hx | hx
    ·exact hno x hx
    ·rw [List.mem_singleton.1 hx]; exact h
   ·simp [go_sem]
   ·simp [go_sem]
   ·simp [go_sem]
 ·have e : i = l.length := by simp at h; omega
  refine wG tK ?_
  refine wU ?_ ?_
  ·rw [e,List.take_length] at hno
   rw [List.findIdx?_eq_none_iff.2 hno]; rfl
  ·skip
   simp only [Yx,gH,gI,gJ,gK]
   repeat' refine ZH ?_ ?_
   all_goals first | exact YH _ | rfl | simp [go_sem]
theorem lostAny_ok (j : JS) (l : List Int) (hlen : l.length ≤ 100000000) (G Y N : Nat → Nat) : FnOK Tryz.prog 42 [.sl (l.map ZI),.fn 122 [.ptr 2 1 0 0]] (jcH j G Y N)
  (fun r H => r = .bool (l.any (getB j.lost)) ∧ Holds (jcH j G Y N) H) := by
 have hc := lostIdx_ok j l hlen
 unfold jcH jB jRow at hc ⊢
 refine ZF tK (Tryz.func42) rfl (fun C => ?_)
 simp only [Tryz.ntmps42,Tryz.results42,go_sem]
 refine wG tK ?_
 refine wP [29,25,26,27,2] Tryz.func70 (hf := (hc)) (hk := ?_)
 refine wG tK ?_
 refine wU ?_ ?_
 ·rw [idxI_any]
 ·skip
  simp only [Yx,gH,gI,gJ,gK]
  repeat' refine ZH ?_ ?_
  all_goals first | exact YH _ | rfl | simp [go_sem]
theorem rests_ok (j : JS) (a : Act) (G Y N : Nat → Nat) : FnOK Tryz.prog 97 [.ptr 29 6 0 0,.ptr 6 7 0 0] (jaH j a G Y N) (fun r H => r = .bool (restsB j a) ∧ Holds (jaH j a G Y N) H) := by
 have hc := lostAny_ok j (fids a) (by have := fids_len a; omega)
 have hf := fids_ok a
 unfold restsB
 generalize (fids a).any (getB j.lost) = z at hc ⊢
 generalize fids a = l at hc hf
 unfold jcH jB jRow at hc
 unfold ZA at hf
 unfold jaH jB jRow ZA
 refine ZF tK (Tryz.func97) rfl (fun C => ?_)
 simp only [Tryz.ntmps97,Tryz.results97,go_sem]
 refine wG tK ?_
 refine wC Tryz.func43 (hf := (hf)) (hk := ?_)
 refine wG tK ?_
 refine wP [29,25,26,27,2] Tryz.func42 (hf := (hc)) (hk := ?_)
 refine wG tK ?_
 refine wU ?_ ?_
 ·rfl
 ·skip
  simp only [Yx,gH,gI,gJ,gK]
  repeat' refine ZH ?_ ?_
  all_goals first | exact YH _ | rfl | simp [go_sem]
theorem stale_ok (j : JS) (r : Rec) (a : Act) (hl : Small j.l) (G Y N : Nat → Nat) : FnOK Tryz.prog 99 [.ptr 29 6 0 0,.rp (ZR r) 0,.ptr 6 7 0 0] (jaH j a G Y N) (fun x H => x = .bool (staleB j r a) ∧ Holds (jaH j a G Y N) H) := by
 have hf := find_ok j.l a.fid hl
 unfold staleB
 unfold jaH jB jRow ZA ZR
 refine ZF tK (Tryz.func99) rfl (fun C => ?_)
 simp only [Tryz.ntmps99,Tryz.results99,go_sem]
 refine wG tK ?_
 refine ZW ZM ?_
 refine ZS rfl ?_
 refine sN tK 12 ?_
 refine seg_name 20 (by simp only [go_sem]; exact rfl) (fun c20 h20 => ?_)
 simp only [go_sem]
 refine sN tK 7 ?_
 refine seg_name 27 (by simp only [go_sem]; exact rfl) (fun c27 h27 => ?_)
 simp only [go_sem]
 refine sG tK ?_
 refine sE ?_
 refine wKd ?_
 try simp only [go_sem,gA,gB,gC]
 refine wR ?_
 refine Yn 38 (by simp only [go_sem]; exact rfl) (fun c38 h38 => ?_)
 simp only [go_sem]
 have hst : (((a.kind ≠ 3 ∧ a.kind ≠ 4) ∨ r.version < 0) ∨ getB j.ours a.fid = true) ↔ c38 = true := by
  subst h38 h27 h20
  simp [cond_and,cond_or]
 clear h38 h27 h20
 cases c38 with
 | true =>
  rw [if_pos (hst.2 rfl)]
  refine Vt rfl ?_
  refine wG tK ?_
  refine wU ?_ ?_
  ·rfl
  ·skip
   simp only [Yx,gH,gI,gJ,gK]
   repeat' refine ZH ?_ ?_
   all_goals first | exact YH _ | rfl | simp [go_sem]
 | false =>
  rw [if_neg (fun h => nomatch hst.1 h)]
  refine Vf rfl ?_
  refine wG tK ?_
  refine ZW ZM ?_
  refine ZS rfl ?_
  refine sN tK 8 ?_
  refine sC Tryz.func47 (hf := (hf)) (hk := ?_)
  simp only [go_sem,findR]
  rw [isAt_eq]
  cases Yf j.l a.fid with
  | none =>
   simp only [Option.getD_none,Option.isSome_none]
   refine sG tK ?_
   refine sW tK ?_
   simp only [go_sem,ZN,Yz]
   refine sT tK ?_
   refine sE ?_
   refine dS tK ?_
   refine wKd ?_
   try simp only [go_sem,gA,gB,gC]
   refine wG tK ?_
   refine ZW ZM ?_
   refine ZS rfl ?_
   refine sG tK ?_
   refine sE ?_
   refine wKd ?_
   try simp only [go_sem,gA,gB,gC]
   refine wG tK ?_
   refine wU ?_ ?_
   ·rfl
   ·skip
    simp only [Yx,gH,gI,gJ,gK]
    repeat' refine ZH ?_ ?_
    all_goals first | exact YH _ | rfl | simp [go_sem]
  | some n =>
   simp only [Option.getD_some,Option.isSome_some]
   refine sG tK ?_
   refine sW tK ?_
   simp only [go_sem,ZN]
   refine sT tK ?_
   refine sE ?_
   refine dS tK ?_
   refine wKd ?_
   try simp only [go_sem,gA,gB,gC]
   refine wG tK ?_
   refine ZW ZM ?_
   refine ZS rfl ?_
   refine sG tK ?_
   refine sE ?_
   refine wKd ?_
   try simp only [go_sem,gA,gB,gC]
   refine wG tK ?_
   refine wU ?_ ?_
   ·rfl
   ·skip
    simp only [Yx,gH,gI,gJ,gK]
    repeat' refine ZH ?_ ?_
    all_goals first | exact YH _ | rfl | simp [go_sem]
theorem one_rests {j : JS} {r : Rec} (h : restsB j r.act = true) : oneV j r = ⟨14,0⟩ ∧ oneA j r = r.act ∧ oneJ j r = j := by
 simp [oneV,oneA,oneJ,oneE,h]
theorem one_form {j : JS} {r : Rec} (h : restsB j r.act = false) (h1 : Zm r.act = true) (h2 : hasI j.own r.act.fid = true ∨ r.act.fid ≥ 0) : oneV j r = ⟨2,0⟩ ∧ oneA j r = r.act ∧ oneJ j r = j := by
 simp [oneV,oneA,oneJ,oneE,h,h1,h2]
theorem one_stale {j : JS} {r : Rec} (h : restsB j r.act = false) (h1 : ¬ (Zm r.act = true ∧ (hasI j.own r.act.fid = true ∨ r.act.fid ≥ 0))) (h2 : staleB { j with own := own1 j r } r (actJ j r) = true) :
  oneV j r = ⟨13,0⟩ ∧ oneA j r = actJ j r ∧ oneJ j r = { j with own := own1 j r } := by
 simp [oneV,oneA,oneJ,oneE,h,h1,h2]
theorem one_err {j : JS} {r : Rec} (h : restsB j r.act = false) (h1 : ¬ (Zm r.act = true ∧ (hasI j.own r.act.fid = true ∨ r.act.fid ≥ 0))) (h2 : staleB { j with own := own1 j r } r (actJ j r) = false) (h3 : Yb j.l (actJ j r) ≠ 0) :
  oneV j r = ⟨Yb j.l (actJ j r),0⟩ ∧ oneA j r = actJ j r ∧ oneJ j r = { j with own := if Zm r.act = true then mdel (own1 j r) r.act.fid else own1 j r } := by
 simp [oneV,oneA,oneJ,oneE,h,h1,h2,h3]
theorem one_done {j : JS} {r : Rec} (h : restsB j r.act = false) (h1 : ¬ (Zm r.act = true ∧ (hasI j.own r.act.fid = true ∨ r.act.fid ≥ 0))) (h2 : staleB { j with own := own1 j r } r (actJ j r) = false) (h3 : Yb j.l (actJ j r) = 0) :
  oneV j r = ⟨0,(actJ j r).fid⟩ ∧ oneA j r = actJ j r ∧ oneJ j r = { j with l := Yj j.l (actJ j r) j.version,next := if Zm r.act = true then j.next + 1 else j.next,version := j.version + 1,own := own1 j r } := by
 simp [oneV,oneA,oneJ,oneE,h,h1,h2,h3]
theorem one_ok (j : JS) (r : Rec) (hg : Good j.l) (hr : ActFit r.act) (hn : j.next.natAbs ≤ 90000000) (hv : j.version.natAbs ≤ 90000000) (G Y N : Nat → Nat) : FnOK Tryz.prog 68 [.ptr 29 6 0 0,.rp (ZR r) 0] (jH j G Y N)
  (fun x H => x = .tup [.agg (ZV (oneV j r)),.agg (ZA (oneA j r))] ∧ Holds (jH (oneJ j r) G Y N) H) := by
 have how := acts_own r.act hr.data
 have hre := rests_ok j r.act
 have q0 := @one_rests j r
 have q1 := @one_form j r
 have q2 := @one_stale j r
 have q3 := @one_err j r
 have q4 := @one_done j r
 have hfid : ∀ f (G Y N : Nat → Nat),FnOK Tryz.prog 98 [.ptr 29 6 0 0,.int .i64 f] (jH { j with own := own1 j r } G Y N) (fun x H => x = .int .i64 (atF (own1 j r) f) ∧ Holds (jH { j with own := own1 j r } G Y N) H) := fun f => fid_ok { j with own := own1 j r } f
 unfold jH jB jRow at hfid
 simp only at hfid
 have hst := stale_ok { j with own := own1 j r } r (actJ j r) hg.small
 have hap := apply_good hg (actJ j r) j.version (actJ_fit hr)
 have hwn : IntKind.i64.wrap (j.next + 1) = j.next + 1 := Eng.wrap_small (by omega) (by omega)
 have hwv : IntKind.i64.wrap (j.version + 1) = j.version + 1 := Eng.wrap_small (by omega) (by omega)
 unfold jaH jB jRow at hst
 unfold applyR at hap
 generalize staleB { j with own := own1 j r } r (actJ j r) = st at *
 generalize Yb j.l (actJ j r) = E at *
 generalize Yj j.l (actJ j r) j.version = L at *
 simp only [ZA,actJ] at hst hap
 generalize oneV j r = V at *
 generalize oneA j r = A at *
 generalize oneJ j r = J at *
 unfold jaH jB jRow ZA at hre
 unfold ZA at how
 unfold jH jB jRow ZR
 refine ZF tK (Tryz.func68) rfl (fun C => ?_)
 simp only [Tryz.ntmps68,Tryz.results68,go_sem]
 refine wG tK ?_
 refine wC Tryz.func35 (hf := (how)) (hk := ?_)
 refine wG tK ?_
 refine wP [29,25,26,27,6] Tryz.func97 (hf := (hre)) (hk := ?_)
 cases h0 : restsB j r.act with
 | true =>
  obtain ⟨e1,e2,e3⟩ := q0 h0
  refine wG tK ?_
  refine Vt rfl ?_
  refine wG tK ?_
  refine ZW ZM ?_
  refine ZS rfl ?_
  refine sB tK ?_
  refine sN tK 1 ?_
  refine sT tK ?_
  refine sT tK ?_
  refine sE ?_
  refine wKd ?_
  try simp only [go_sem,gA,gB,gC]
  refine wG tK ?_
  refine wU ?_ ?_
  ·simp [ZV,ZA,e1,e2]
  ·rw [e3]
   simp only [Yx,gH,gI,gJ,gK]
   repeat' refine ZH ?_ ?_
   all_goals first | exact YH _ | rfl | simp [go_sem]
 | false =>
  clear q0
  refine wG tK ?_
  refine Vf rfl ?_
  refine wR ?_
  refine wN tK 8 ?_
  refine Yn 28 (by simp only [go_sem]; exact rfl) (fun c28 h28 => ?_)
  simp only [go_sem]
  have h28' : c28 = Zm r.act := by rw [← h28,cond_or]; rfl
  clear h28
  subst h28'
  refine wG tK ?_
  cases h1 : Zm r.act with
  | true =>
   refine Vt rfl ?_
   refine wG tK ?_
   refine ZW ZM ?_
   refine ZS rfl ?_
   refine sG tK ?_
   refine sE ?_
   refine wKd ?_
   try simp only [go_sem,gA,gB,gC]
   refine wG tK ?_
   cases h2 : (hasI j.own r.act.fid || decide (r.act.fid ≥ 0)) with
   | true =>
    obtain ⟨e1,e2,e3⟩ := q1 h0 h1 (by simpa using h2)
    refine wDT (hb := by simpa [cond_or] using h2) (hk := ?_)
    refine wG tK ?_
    refine ZW ZM ?_
    refine ZS rfl ?_
    refine sB tK ?_
    refine sN tK 1 ?_
    refine sT tK ?_
    refine sT tK ?_
    refine sE ?_
    refine wKd ?_
    try simp only [go_sem,gA,gB,gC]
    refine wG tK ?_
    refine wU ?_ ?_
    ·simp [ZV,ZA,e1,e2]
    ·rw [e3]
     simp only [Yx,gH,gI,gJ,gK]
     repeat' refine ZH ?_ ?_
     all_goals first | exact YH _ | rfl | simp [go_sem]
   | false =>
    refine wDF (hb := by simpa [cond_or] using h2) (hk := ?_)
    refine wG tK ?_
    refine ZW ZM ?_
    refine ZS rfl ?_
    refine sN tK 10 ?_
    refine sE ?_
    refine dS tK ?_
    refine wKd ?_
    try simp only [go_sem,gA,gB,gC]
    refine wG tK ?_
    have ho : own1 j r = Zp j.own r.act.fid j.next := by unfold own1; rw [if_pos h1]
    rw [← ho]
    have hnf : ¬ (Zm r.act = true ∧ (hasI j.own r.act.fid = true ∨ r.act.fid ≥ 0)) := fun hh => by
     have := hh.2
     simp only [Bool.or_eq_false_iff,decide_eq_false_iff_not] at h2
     rcases this with h | h
     ·rw [h2.1] at h; cases h
     ·exact h2.2 h
    clear h2
    have hk5 : ¬ r.act.kind = 5 := fun e => by simp [Zm,e] at h1
    have hT : (if r.act.kind = 5 then atF (own1 j r) r.act.to else r.act.to) = r.act.to := if_neg hk5
    rw [hT] at hst hap
    -- the fids as they are here
    refine ZW ZM ?_
    refine ZS rfl ?_
    refine sN tK 3 ?_
    refine seg_callK rfl rfl (by simp only [go_sem]; try exact rfl) (by simp [go_sem]) ⟨_,Tryz.func98,by kernel_rfl,rfl⟩ [29,25,26,27] (by simp only [go_sem,Bool.false_or,Bool.or_true,Bool.true_or,Bool.or_false,↓reduceIte]; try exact rfl) (by simp [go_sem]) (by simp) (by simp [go_sem]) (by simp [go_sem]) (hfid r.act.fid) (by simp only [go_sem]; exact rfl) (by simp only [go_sem,Bool.false_or,Bool.or_true,Bool.true_or,Bool.or_false,↓reduceIte]; exact rfl) ?_
    refine sN tK 3 ?_
    refine seg_callK rfl rfl (by simp only [go_sem]; try exact rfl) (by simp [go_sem]) ⟨_,Tryz.func98,by kernel_rfl,rfl⟩ [29,25,26,27] (by simp only [go_sem,Bool.false_or,Bool.or_true,Bool.true_or,Bool.or_false,↓reduceIte]; try exact rfl) (by simp [go_sem]) (by simp) (by simp [go_sem]) (by simp [go_sem]) (hfid r.act.dir) (by simp only [go_sem]; exact rfl) (by simp only [go_sem,Bool.false_or,Bool.or_true,Bool.true_or,Bool.or_false,↓reduceIte]; exact rfl) ?_
    refine sN tK 1 ?_
    refine sT tK ?_
    refine sN tK 1 ?_
    refine sT tK ?_
    refine sE ?_
    refine wKd ?_
    try simp only [go_sem,gA,gB,gC]
    refine wG tK ?_
    refine wDF (hb := by simp [hk5]) (hk := ?_)
    refine wG tK ?_
    refine wP [29,25,26,27,6] Tryz.func99 (hf := (hst)) (hk := ?_)
    refine wG tK ?_
    cases st with
    | true =>
     obtain ⟨e1,e2,e3⟩ := q2 h0 hnf rfl
     refine Vt rfl ?_
     refine wG tK ?_
     refine ZW ZM ?_
     refine ZS rfl ?_
     refine sB tK ?_
     refine sN tK 1 ?_
     refine sT tK ?_
     refine sT tK ?_
     refine sE ?_
     refine wKd ?_
     try simp only [go_sem,gA,gB,gC]
     refine wG tK ?_
     refine wU ?_ ?_
     ·simp [ZV,ZA,e1,e2,actJ,hk5]
     ·rw [e3]
      simp only [Yx,gH,gI,gJ,gK]
      repeat' refine ZH ?_ ?_
      all_goals first | exact YH _ | rfl | simp [go_sem]
    | false =>
     refine Vf rfl ?_
     refine wG tK ?_
     by_cases hE : E = 0
     ·obtain ⟨e1,e2,e3⟩ := q4 h0 hnf rfl hE
      subst hE
      rw [h1] at e3
      simp only [if_true,Bool.false_eq_true,if_false] at hap e3
      refine ZW ZM ?_
      refine ZS rfl ?_
      refine sN tK 9 ?_
      refine sC Tryz.func34 (hf := (hap)) (hk := ?_)
      refine sG tK ?_
      refine sE ?_
      refine wKd ?_
      try simp only [go_sem,gA,gB,gC]
      refine wG tK ?_
      refine wDF (hb := by simp) (hk := ?_)
      refine wG tK ?_ (by simp only [go_sem,hwn,hwv]; try exact rfl) (by simp [go_sem,hwn,hwv])
      refine wDT (hb := by simp) (hk := ?_)
      refine wG tK ?_ (by simp only [go_sem,hwn,hwv]; try exact rfl) (by simp [go_sem,hwn,hwv])
      refine ZW ZM ?_
      refine ZS rfl ?_
      refine sN tK 2 ?_
      refine sB tK ?_
      refine sN tK 1 ?_
      refine sT tK ?_
      refine sT tK ?_
      refine sE ?_
      refine wKd ?_
      try simp only [go_sem,gA,gB,gC]
      refine wG tK ?_
      refine wU ?_ ?_
      ·simp [ZV,ZA,e1,e2,actJ,hk5]
      ·rw [e3]
       simp only [Yx,gH,gI,gJ,gK]
       repeat' refine ZH ?_ ?_
       all_goals first | exact YH _ | rfl | simp [go_sem]
     ·obtain ⟨e1,e2,e3⟩ := q3 h0 hnf rfl hE
      rw [h1] at e3
      simp only [hE,if_true,Bool.false_eq_true,if_false] at hap e3
      refine ZW ZM ?_
      refine ZS rfl ?_
      refine sN tK 9 ?_
      refine sC Tryz.func34 (hf := (hap)) (hk := ?_)
      refine sG tK ?_
      refine sE ?_
      refine wKd ?_
      try simp only [go_sem,gA,gB,gC]
      refine wG tK ?_
      refine wDT (hb := by simp [hE]) (hk := ?_)
      refine wG tK ?_
      refine wDT (hb := by simp) (hk := ?_)
      refine wG tK ?_
      refine ZW ZM ?_
      refine ZS rfl ?_
      refine sN tK 9 ?_
      refine sE ?_
      refine dS tK ?_
      refine wKd ?_
      try simp only [go_sem,gA,gB,gC]
      refine wG tK ?_
      refine ZW ZM ?_
      refine ZS rfl ?_
      refine sN tK 1 ?_
      refine sB tK ?_
      refine sN tK 1 ?_
      refine sT tK ?_
      refine sT tK ?_
      refine sE ?_
      refine wKd ?_
      try simp only [go_sem,gA,gB,gC]
      refine wG tK ?_
      refine wU ?_ ?_
      ·simp [ZV,ZA,e1,e2,actJ,hk5]
      ·rw [e3]
       simp only [Yx,gH,gI,gJ,gK]
       repeat' refine ZH ?_ ?_
       all_goals first | exact YH _ | rfl | simp [go_sem]
  | false =>
   refine Vf rfl ?_
   refine wG tK ?_
   have ho : own1 j r = j.own := by unfold own1; rw [h1]; rfl
   have hnf : ¬ (Zm r.act = true ∧ (hasI j.own r.act.fid = true ∨ r.act.fid ≥ 0)) := fun hh => by rw [h1] at hh; cases hh.1
   rw [← ho]
   -- the fids as they are here
   refine ZW ZM ?_
   refine ZS rfl ?_
   refine sN tK 3 ?_
   refine seg_callK rfl rfl (by simp only [go_sem]; try exact rfl) (by simp [go_sem]) ⟨_,Tryz.func98,by kernel_rfl,rfl⟩ [29,25,26,27] (by simp only [go_sem,Bool.false_or,Bool.or_true,Bool.true_or,Bool.or_false,↓reduceIte]; try exact rfl) (by simp [go_sem]) (by simp) (by simp [go_sem]) (by simp [go_sem]) (hfid r.act.fid) (by simp only [go_sem]; exact rfl) (by simp only [go_sem,Bool.false_or,Bool.or_true,Bool.true_or,Bool.or_false,↓reduceIte]; exact rfl) ?_
   refine sN tK 3 ?_
   refine seg_callK rfl rfl (by simp only [go_sem]; try exact rfl) (by simp [go_sem]) ⟨_,Tryz.func98,by kernel_rfl,rfl⟩ [29,25,26,27] (by simp only [go_sem,Bool.false_or,Bool.or_true,Bool.true_or,Bool.or_false,↓reduceIte]; try exact rfl) (by simp [go_sem]) (by simp) (by simp [go_sem]) (by simp [go_sem]) (hfid r.act.dir) (by simp only [go_sem]; exact rfl) (by simp only [go_sem,Bool.false_or,Bool.or_true,Bool.true_or,Bool.or_false,↓reduceIte]; exact rfl) ?_
   refine sN tK 1 ?_
   refine sT tK ?_
   refine sN tK 1 ?_
   refine sT tK ?_
   refine sE ?_
   refine wKd ?_
   try simp only [go_sem,gA,gB,gC]
   refine wG tK ?_
   by_cases hk5 : r.act.kind = 5
   ·have hT : (if r.act.kind = 5 then atF (own1 j r) r.act.to else r.act.to) = atF (own1 j r) r.act.to := if_pos hk5
    rw [hT] at hst hap
    refine wDT (hb := by simp [hk5]) (hk := ?_)
    refine wG tK ?_
    refine wP [29,25,26,27] Tryz.func98 (hf := (hfid r.act.to)) (hk := ?_)
    refine wG tK ?_
    refine wP [29,25,26,27,6] Tryz.func99 (hf := (hst)) (hk := ?_)
    refine wG tK ?_
    cases st with
    | true =>
     obtain ⟨e1,e2,e3⟩ := q2 h0 hnf rfl
     refine Vt rfl ?_
     refine wG tK ?_
     refine ZW ZM ?_
     refine ZS rfl ?_
     refine sB tK ?_
     refine sN tK 1 ?_
     refine sT tK ?_
     refine sT tK ?_
     refine sE ?_
     refine wKd ?_
     try simp only [go_sem,gA,gB,gC]
     refine wG tK ?_
     refine wU ?_ ?_
     ·simp [ZV,ZA,e1,e2,actJ,hk5]
     ·rw [e3]
      simp only [Yx,gH,gI,gJ,gK]
      repeat' refine ZH ?_ ?_
      all_goals first | exact YH _ | rfl | simp [go_sem]
    | false =>
     refine Vf rfl ?_
     refine wG tK ?_
     by_cases hE : E = 0
     ·obtain ⟨e1,e2,e3⟩ := q4 h0 hnf rfl hE
      subst hE
      rw [h1] at e3
      simp only [if_true,Bool.false_eq_true,if_false] at hap e3
      refine ZW ZM ?_
      refine ZS rfl ?_
      refine sN tK 9 ?_
      refine sC Tryz.func34 (hf := (hap)) (hk := ?_)
      refine sG tK ?_
      refine sE ?_
      refine wKd ?_
      try simp only [go_sem,gA,gB,gC]
      refine wG tK ?_
      refine wDF (hb := by simp) (hk := ?_)
      refine wG tK ?_ (by simp only [go_sem,hwn,hwv]; try exact rfl) (by simp [go_sem,hwn,hwv])
      refine wDF (hb := by simp) (hk := ?_)
      refine wG tK ?_ (by simp only [go_sem,hwn,hwv]; try exact rfl) (by simp [go_sem,hwn,hwv])
      refine ZW ZM ?_
      refine ZS rfl ?_
      refine sN tK 2 ?_
      refine sB tK ?_
      refine sN tK 1 ?_
      refine sT tK ?_
      refine sT tK ?_
      refine sE ?_
      refine wKd ?_
      try simp only [go_sem,gA,gB,gC]
      refine wG tK ?_
      refine wU ?_ ?_
      ·simp [ZV,ZA,e1,e2,actJ,hk5]
      ·rw [e3]
       simp only [Yx,gH,gI,gJ,gK]
       repeat' refine ZH ?_ ?_
       all_goals first | exact YH _ | rfl | simp [go_sem]
     ·obtain ⟨e1,e2,e3⟩ := q3 h0 hnf rfl hE
      rw [h1] at e3
      simp only [hE,if_true,Bool.false_eq_true,if_false] at hap e3
      refine ZW ZM ?_
      refine ZS rfl ?_
      refine sN tK 9 ?_
      refine sC Tryz.func34 (hf := (hap)) (hk := ?_)
      refine sG tK ?_
      refine sE ?_
      refine wKd ?_
      try simp only [go_sem,gA,gB,gC]
      refine wG tK ?_
      refine wDT (hb := by simp [hE]) (hk := ?_)
      refine wG tK ?_
      refine wDF (hb := by simp) (hk := ?_)
      refine wG tK ?_
      refine ZW ZM ?_
      refine ZS rfl ?_
      refine sN tK 1 ?_
      refine sB tK ?_
      refine sN tK 1 ?_
      refine sT tK ?_
      refine sT tK ?_
      refine sE ?_
      refine wKd ?_
      try simp only [go_sem,gA,gB,gC]
      refine wG tK ?_
      refine wU ?_ ?_
      ·simp [ZV,ZA,e1,e2,actJ,hk5]
      ·rw [e3]
       simp only [Yx,gH,gI,gJ,gK]
       repeat' refine ZH ?_ ?_
       all_goals first | exact YH _ | rfl | simp [go_sem]
   ·have hT : (if r.act.kind = 5 then atF (own1 j r) r.act.to else r.act.to) = r.act.to := if_neg hk5
    rw [hT] at hst hap
    refine wDF (hb := by simp [hk5]) (hk := ?_)
    refine wG tK ?_
    refine wP [29,25,26,27,6] Tryz.func99 (hf := (hst)) (hk := ?_)
    refine wG tK ?_
    cases st with
    | true =>
     obtain ⟨e1,e2,e3⟩ := q2 h0 hnf rfl
     refine Vt rfl ?_
     refine wG tK ?_
     refine ZW ZM ?_
     refine ZS rfl ?_
     refine sB tK ?_
     refine sN tK 1 ?_
     refine sT tK ?_
     refine sT tK ?_
     refine sE ?_
     refine wKd ?_
     try simp only [go_sem,gA,gB,gC]
     refine wG tK ?_
     refine wU ?_ ?_
     ·simp [ZV,ZA,e1,e2,actJ,hk5]
     ·rw [e3]
      simp only [Yx,gH,gI,gJ,gK]
      repeat' refine ZH ?_ ?_
      all_goals first | exact YH _ | rfl | simp [go_sem]
    | false =>
     refine Vf rfl ?_
     refine wG tK ?_
     by_cases hE : E = 0
     ·obtain ⟨e1,e2,e3⟩ := q4 h0 hnf rfl hE
      subst hE
      rw [h1] at e3
      simp only [if_true,Bool.false_eq_true,if_false] at hap e3
      refine ZW ZM ?_
      refine ZS rfl ?_
      refine sN tK 9 ?_
      refine sC Tryz.func34 (hf := (hap)) (hk := ?_)
      refine sG tK ?_
      refine sE ?_
      refine wKd ?_
      try simp only [go_sem,gA,gB,gC]
      refine wG tK ?_
      refine wDF (hb := by simp) (hk := ?_)
      refine wG tK ?_ (by simp only [go_sem,hwn,hwv]; try exact rfl) (by simp [go_sem,hwn,hwv])
      refine wDF (hb := by simp) (hk := ?_)
      refine wG tK ?_ (by simp only [go_sem,hwn,hwv]; try exact rfl) (by simp [go_sem,hwn,hwv])
      refine ZW ZM ?_
      refine ZS rfl ?_
      refine sN tK 2 ?_
      refine sB tK ?_
      refine sN tK 1 ?_
      refine sT tK ?_
      refine sT tK ?_
      refine sE ?_
      refine wKd ?_
      try simp only [go_sem,gA,gB,gC]
      refine wG tK ?_
      refine wU ?_ ?_
      ·simp [ZV,ZA,e1,e2,actJ,hk5]
      ·rw [e3]
       simp only [Yx,gH,gI,gJ,gK]
       repeat' refine ZH ?_ ?_
       all_goals first | exact YH _ | rfl | simp [go_sem]
     ·obtain ⟨e1,e2,e3⟩ := q3 h0 hnf rfl hE
      rw [h1] at e3
      simp only [hE,if_true,Bool.false_eq_true,if_false] at hap e3
      refine ZW ZM ?_
      refine ZS rfl ?_
      refine sN tK 9 ?_
      refine sC Tryz.func34 (hf := (hap)) (hk := ?_)
      refine sG tK ?_
      refine sE ?_
      refine wKd ?_
      try simp only [go_sem,gA,gB,gC]
      refine wG tK ?_
      refine wDT (hb := by simp [hE]) (hk := ?_)
      refine wG tK ?_
      refine wDF (hb := by simp) (hk := ?_)
      refine wG tK ?_
      refine ZW ZM ?_
      refine ZS rfl ?_
      refine sN tK 1 ?_
      refine sB tK ?_
      refine sN tK 1 ?_
      refine sT tK ?_
      refine sT tK ?_
      refine sE ?_
      refine wKd ?_
      try simp only [go_sem,gA,gB,gC]
      refine wG tK ?_
      refine wU ?_ ?_
      ·simp [ZV,ZA,e1,e2,actJ,hk5]
      ·rw [e3]
       simp only [Yx,gH,gI,gJ,gK]
       repeat' refine ZH ?_ ?_
       all_goals first | exact YH _ | rfl | simp [go_sem]
theorem oursP_snoc (m : List (Int × Bool)) (l : List Int) (x : Int) : oursP m (l ++ [x]) = Zp (oursP m l) x true := by
 unfold oursP; rw [List.foldl_append]; rfl
noncomputable def jgAt (l : List Node) (next version : Int) (log : List Rec) (i : Nat) : JG := (log.take i).foldl stepJ (startJ l next version)
theorem jgAt_succ (l : List Node) (next version : Int) {log : List Rec} {i : Nat} (h : i < log.length) : jgAt l next version log (i + 1) = stepJ (jgAt l next version log i) (log.getD i default) := by
 unfold jgAt; rw [ZT h,List.foldl_append]; rfl
theorem jgAt_inv {p : List Past} {l : List Node} (h : Hist p l) (next : Int) {log : List Rec} (hl : ∀ r,r ∈ log → ActFit r.act) {i : Nat} (hi : i ≤ log.length) : JInv p 0 i next (jgAt l next ((p.length + 1 : Nat) : Int) log i) := by
 have := JInv.judge h 0 next (log.take i) (fun r hr => hl r (List.mem_of_mem_take hr))
 rw [List.length_take,Nat.min_eq_left hi] at this
 exact this
def jgB (s : JG) : List (Nat × Blk) := [(45,.cells 71 2 (s.vs.map ZV)),(72,.cells 26 7 (s.done.map ZA)),(29,.cells 139 6 [jRow s.j]),(25,.map (mI s.j.own)),(26,.map (mB s.j.ours)),(27,.map (mB s.j.lost))]
theorem judge_ok (p : List Past) (l : List Node) (next : Int) (log : List Rec) (h : Hist p l) (hp : p.length ≤ 80000000) (hn : next.natAbs ≤ 80000000) (hlog : SmallL log) (hl2 : log.length ≤ 2000000) (hfit : ∀ r,r ∈ log → ActFit r.act) :
  FnOK Tryz.prog 39 [.sl (l.map ZN),.int .i64 next,.int .i64 ((p.length + 1 : Nat) : Int),.sl (log.map ZR)] []
   (fun r _ => r = .tup [.sl ((judgeJ l next ((p.length + 1 : Nat) : Int) log).vs.map ZV),.sl ((judgeJ l next ((p.length + 1 : Nat) : Int) log).done.map ZA),.sl ((judgeJ l next ((p.length + 1 : Nat) : Int) log).j.l.map ZN),.int .i64 (judgeJ l next ((p.length + 1 : Nat) : Int) log).j.next]) := by
 have how := own_ok l h.good.small
 have hlo := logs_own log hlog
 have hfin : judgeJ l next ((p.length + 1 : Nat) : Int) log = jgAt l next ((p.length + 1 : Nat) : Int) log log.length := by unfold jgAt; rw [List.take_length]; rfl
 have hinv := fun i => @jgAt_inv p l h next log hfit i
 have hsucc := fun i => @jgAt_succ l next ((p.length + 1 : Nat) : Int) log i
 have hz : jgAt l next ((p.length + 1 : Nat) : Int) log 0 = startJ l next ((p.length + 1 : Nat) : Int) := rfl
 rw [hfin]
 generalize jgAt l next ((p.length + 1 : Nat) : Int) log = st at *
 refine ZF tK (Tryz.func39) rfl (fun C => ?_)
 simp only [Tryz.ntmps39,Tryz.results39,go_sem]
 refine wG tK ?_
 refine wC Tryz.func38 (hf := (how)) (hk := ?_)
 refine wG tK ?_
 refine wC Tryz.func46 (hf := (hlo)) (hk := ?_)
 refine wG tK ?_
 refine Yl (Ze 72 26 7 (by simp only [go_sem]; try exact rfl)) ?_
 refine Yl (Ze 45 71 2 (by simp only [go_sem]; try exact rfl)) ?_
 simp only [go_sem]
 refine ZL (fun i : Nat => i ≤ log.length) (fun i => log.length - i) (fun i => [(13,.osl 45 2 0 (st i).vs.length),(14,.osl 72 7 0 (st i).done.length),(16,.any),(17,.any),(18,.any),(20,.any),(33,.int .i64 i),(34,.any),(35,.any),(36,.any),(37,.any),(38,.any),(39,.any),(40,.any),(41,.any),(42,.any),(43,.any),(44,.any),(45,.any),(46,.any),(47,.any),(48,.any),(49,.any),(50,.any),(51,.any),(52,.any),(53,.any),(54,.any),(55,.any),(56,.any),(57,.any),(58,.any),(59,.any),(60,.any),(61,.any),(62,.any),(63,.any),(64,.any),(65,.any),(66,.any),(67,.any),(68,.any),(69,.any),(70,.any),(71,.any),(72,.any),(73,.any)]) (fun i => jgB (st i)) 0 (by omega) ?_ fun i hi => ?_
 ·rw [hz]
  simp only [startJ,jgB,jRow,mI,mB]
  simp only [go_sem]
  exact ZU (by simp [go_sem]) (by simp [go_sem]) (by simp only [go_sem])
 unfold jgB jRow
 simp only [go_sem]
 refine wG tK ?_
 refine wD (fun h => ?_) (fun h => ?_)
 ·have hlt : i < log.length := by simp at h; omega
  have hg : (log.map ZR).getD i [] = ZR (log.getD i default) := Fam.getD hlt
  have hv := hinv i (by omega)
  have hf := hfit _ (YG hlt)
  have hsc := hsucc i hlt
  clear hinv hsucc
  generalize log.getD i default = r at *
  have hnx := hv.next
  have hvs := hv.vlen
  have hdl := hv.len
  have hone := one_ok (st i).j r hv.hist.good hf (by omega) (by have := hv.version; omega)
  have hst : st (i + 1) = (if (oneV (st i).j r).err = 0 then ⟨{ oneJ (st i).j r with ours := oursP (oneJ (st i).j r).ours (fids (oneA (st i).j r)) },(st i).vs ++ [oneV (st i).j r],(st i).done ++ [oneA (st i).j r]⟩ else ⟨lose (oneJ (st i).j r) r.act.fid,(st i).vs ++ [oneV (st i).j r],(st i).done⟩) := by
   rw [hsc]; unfold stepJ oneV; rfl
  unfold jH jB jRow ZR at hone
  clear hsc hv
  generalize oneV (st i).j r = V at *
  generalize oneA (st i).j r = A at *
  generalize oneJ (st i).j r = J at *
  have hfd := fids_ok A
  have hf3 := fids_len A
  have how' := wi1 (i := i) (by omega)
  refine wGq tK ?_ ?_ (by simp only [go_sem,hg,ZR]; try exact rfl)
  ·simp [hg,ZR,hlt]
  refine ZZ 16 rfl (rfl) ?_
  simp only [go_sem]
  refine wP [29,25,26,27] Tryz.func68 (hf := (hone)) (hk := ?_)
  refine wGq tK ?_ ?_ (by simp only [go_sem,ZV,ZA]; try exact rfl)
  ·simp [ZV,ZA,rowsOf]; omega
  by_cases hE : V.err = 0
  ·rw [if_pos hE] at hst
   refine wDF (hb := by simp [hE]) (hk := ?_)
   refine wG tK ?_
   unfold ZA at hfd
   refine wC Tryz.func43 (hf := (hfd)) (hk := ?_)
   refine wG tK ?_
   refine ZL (fun k : Nat => k ≤ (fids A).length) (fun k => (fids A).length - k) (fun k => [(20,.any),(59,.int .i64 k),(60,.any),(61,.any),(62,.any),(63,.any),(64,.any),(65,.any),(66,.any),(67,.any),(68,.any)]) (fun k => [(26,.map (mB (oursP J.ours ((fids A).take k))))]) 0 (by omega) ?_ fun k hk => ?_
   ·simp only [go_sem]
    exact ZU (by simp [go_sem]) (by simp [go_sem,oursP]) (by simp [go_sem])
   simp only [go_sem]
   refine wG tK ?_
   refine wD (fun h => ?_) (fun h => ?_)
   ·have hlk : k < (fids A).length := by simp at h; omega
    have hgk : ((fids A).map ZI).getD k [] = ZI ((fids A).getD k default) := Fam.getD hlk
    have htk : oursP J.ours ((fids A).take (k + 1)) = Zp (oursP J.ours ((fids A).take k)) ((fids A).getD k default) true := by rw [ZT hlk,oursP_snoc]
    have hwk : IntKind.i64.wrap ((k : Int) + 1) = ((k + 1 : Nat) : Int) := by rw [Eng.wrap_small (by omega) (by omega)]; rfl
    generalize (fids A).getD k default = f at *
    refine wGq tK ?_ ?_ (by simp only [go_sem,hgk,ZI,hwk]; try exact rfl)
    ·simp [hgk,ZI,hlk,AV.deepB,AV.pureB]
    refine ZB ⟨k + 1,by omega,by omega,ZU ?_ ?_ ?_⟩
    ·simp [go_sem]
    ·simp [go_sem,htk]
    ·simp [go_sem]
   ·have e : k = (fids A).length := by simp at h; omega
    subst e
    refine wGq tK ?_ ?_ (by simp only [go_sem,ZA,how']; try exact rfl)
    ·simp [ZA,rowsOf]; omega
    refine ZB ⟨i + 1,by omega,by omega,ZU ?_ ?_ ?_⟩
    ·simp [go_sem,hst]
    ·simp [go_sem,hst,jgB,jRow,ZV,ZA,List.take_length]
    ·simp [go_sem,hst]
  ·rw [if_neg hE] at hst
   refine wDT (hb := by simp [hE]) (hk := ?_)
   refine wG tK ?_
   refine ZW ZM ?_
   refine ZS rfl ?_
   refine sN tK 7 ?_
   refine sE ?_
   refine dS tK ?_
   refine wKd ?_
   try simp only [go_sem,gA,gB,gC]
   refine wG tK ?_ (by simp only [go_sem,how']; try exact rfl) (by simp [go_sem,how'])
   refine ZB ⟨i + 1,by omega,by omega,ZU ?_ ?_ ?_⟩
   ·simp [go_sem,hst]
   ·simp [go_sem,hst,jgB,jRow,lose,ZV]
   ·simp [go_sem,hst]
 ·have e : i = log.length := by simp at h; omega
  subst e
  refine wG tK ?_
  refine ZW ZM ?_
  refine ZS rfl ?_
  refine sG tK ?_
  refine sE ?_
  refine wKd ?_
  try simp only [go_sem,gA,gB,gC]
  refine wG tK ?_
  refine ZZ 45 rfl (verdictRow_pure _) ?_
  simp only [go_sem]
  refine ZZ 72 rfl (actRow_pure _) ?_
  simp only [go_sem]
  refine wT ?_
  simp
def pastTo (s : Srv) (c : Int) (done : List Act) (i : Nat) : List Past := s.past ++ (done.take i).map fun a => ⟨c,a⟩
theorem pastTo_succ (s : Srv) (c : Int) {done : List Act} {i : Nat} (h : i < done.length) : pastTo s c done (i + 1) = pastTo s c done i ++ [⟨c,done.getD i default⟩] := by
 unfold pastTo; rw [ZT h,List.map_append,List.append_assoc]; rfl
theorem pastTo_len (s : Srv) (c : Int) (done : List Act) {i : Nat} (h : i ≤ done.length) : (pastTo s c done i).length = s.past.length + i := by
 unfold pastTo; simp; omega
theorem take_ok (s : Srv) (h : SrvOK 40000000 s) (c : Int) (log : List Rec) (hlog : SmallL log) (hl2 : log.length ≤ 2000000) (hfit : ∀ r,r ∈ log → ActFit r.act) :
  FnOK Tryz.prog 15 [.agg (ZQ s),.int .i64 c,.sl (log.map ZR)] []
   (fun r _ => r = .tup [.agg (ZQ (takeS s c log)),.sl ((judgeJ s.tree s.next ((s.past.length + 1 : Nat) : Int) log).vs.map ZV)]) := by
 have hn := h.next
 have hlen := h.len
 have hsp : SmallP s.past := ⟨by omega,fun p hp => by
  obtain ⟨st,_,_,h3⟩ := h.hist.st
  obtain ⟨i,hi⟩ := List.getElem?_of_mem hp
  have hil := (List.getElem?_eq_some_iff.1 hi).1
  have := (h3 i hil).2.1.data
  rwa [show s.past.getD i default = p by rw [List.getD_eq_getElem?_getD,hi]; rfl] at this⟩
 have hv := version_ok s (by omega)
 have hso := sown_okH s h.hist.good.small hsp
 have hj := judge_ok s.past s.tree s.next log h.hist (by omega) (by omega) hlog hl2 hfit
 have hinv := (JInv.judge h.hist c s.next log hfit).len
 have hT : takeS s c log = ⟨(judgeJ s.tree s.next ((s.past.length + 1 : Nat) : Int) log).j.l,(judgeJ s.tree s.next ((s.past.length + 1 : Nat) : Int) log).j.next,pastTo s c (judgeJ s.tree s.next ((s.past.length + 1 : Nat) : Int) log).done (judgeJ s.tree s.next ((s.past.length + 1 : Nat) : Int) log).done.length⟩ := by
  unfold takeS pastTo; rw [List.take_length]
 rw [hT]
 clear hT
 unfold ZQ at hv hso ⊢
 generalize judgeJ s.tree s.next ((s.past.length + 1 : Nat) : Int) log = g at *
 have hsu := fun i => @pastTo_succ s c g.done i
 have hle := fun i => @pastTo_len s c g.done i
 have hz : pastTo s c g.done 0 = s.past := by simp [pastTo]
 generalize pastTo s c g.done = P at *
 refine ZF tK (Tryz.func15) rfl (fun C => ?_)
 simp only [Tryz.ntmps15,Tryz.results15,go_sem]
 refine wG tK ?_
 refine ZZ 3 rfl (rfl) ?_
 simp only [go_sem]
 refine ZW ZM ?_
 refine ZS rfl ?_
 refine sN tK 5 ?_
 refine sC Tryz.func14 (hf := (hv)) (hk := ?_)
 refine sN tK 1 ?_
 refine sC Tryz.func39 (hf := (hj)) (hk := ?_)
 refine sG tK ?_
 refine sE ?_
 refine wKd ?_
 try simp only [go_sem,gA,gB,gC]
 refine wG tK ?_
 refine wCG [] 18 Tryz.func13 (hf := (hso)) (hk := ?_)
 refine wG tK ?_
 refine ZL (fun i : Nat => i ≤ g.done.length) (fun i => g.done.length - i) (fun i => [(14,.any),(29,.any),(36,.int .i64 i),(37,.any),(38,.any),(39,.any),(40,.any),(41,.any),(42,.any),(43,.any),(44,.any),(45,.any),(46,.any),(47,.any),(48,.any)])
  (fun i => [(12,.cells 31 3 [[.sl (g.j.l.map ZN),.int .i64 g.j.next,.osl 46 8 0 (P i).length]]),(46,.cells 88 8 ((P i).map ZP))]) 0 (by omega) ?_ fun i hi => ?_
 ·rw [hz]
  simp only [go_sem]
  exact ZU (by simp [go_sem]) (by simp [go_sem]) (by simp [go_sem])
 simp only [go_sem]
 refine wG tK ?_
 refine wD (fun h => ?_) (fun h => ?_)
 ·have hlt : i < g.done.length := by simp at h; omega
  have hg : (g.done.map ZA).getD i [] = ZA (g.done.getD i default) := Fam.getD hlt
  have hs1 := hsu i hlt
  have hl1 := hle i (by omega)
  have how' := wi1 (i := i) (by omega)
  generalize g.done.getD i default = a at *
  generalize P i = Q at *
  refine wR ?_
  refine wNq tK 4 ?_ ?_ (h := by simp only [go_sem,hg,ZA]; try exact rfl)
  ·simp [hg,ZA,hlt]
  refine wR ?_
  refine wN tK 6 ?_
  refine Yl (le_killB 46 12 (by simp only [go_sem]; exact rfl) (by simp only [go_sem,kill]; exact rfl)) ?_
  refine wGq tK ?_ ?_ (by simp only [go_sem,how']; try exact rfl)
  ·simp [rowsOf,ZP]; omega
  refine ZB ⟨i + 1,by omega,by omega,ZU ?_ ?_ ?_⟩
  ·simp [go_sem]
  ·simp [go_sem,hs1,ZP,List.take_length]
  ·simp [go_sem]
 ·have e : i = g.done.length := by simp at h; omega
  subst e
  refine wG tK ?_
  refine ZZ 46 rfl (pastRow_pure _) ?_
  simp only [go_sem]
  refine wT ?_
  simp
end La
namespace La
open Go Go.Lib
def cutL (c : UInt8) : List UInt8 → List (List UInt8)
 | [] => [[]]
 | x :: r => if x = c then [] :: cutL c r else ((x :: (cutL c r).headD []) :: (cutL c r).tail)
theorem cutL_ne (c : UInt8) (s : List UInt8) : cutL c s ≠ [] := by
 cases s with
 | nil => simp [cutL]
 | cons x r => unfold cutL; split <;> simp
theorem cutL_eq (c : UInt8) (s : List UInt8) : (cutL c s).headD [] :: (cutL c s).tail = cutL c s := by
 cases e : cutL c s with
 | nil => exact absurd e (cutL_ne c s)
 | cons p ps => rfl
theorem splitK_cut (c : UInt8) : ∀ s : List UInt8,splitK [c] 0 (count s [c]) s = cutL c s
 | [] => by rw [count_miss (by simp [index])]; rfl
 | x :: r => by
  by_cases h : x = c
  ·subst h
   have hix : index (x :: r) [x] = ((0 : Nat) : Int) := by rw [index]; simp [List.isPrefixOf]
   rw [count_cons_eq,Nat.add_comm,splitK,hix]
   simp only [cutL,if_true]
   rw [← splitK_cut x r]
   simp
  ·have ih := splitK_cut c r
   have hp : ([c] : List UInt8).isPrefixOf (x :: r) = false := by simp [List.isPrefixOf,Ne.symm h]
   have hix : index (x :: r) [c] = if index r [c] == -1 then -1 else index r [c] + 1 := by rw [index,hp]; simp
   rw [count_cons_ne x c r h]
   simp only [cutL,if_neg h,← ih]
   cases e : count r [c] with
   | zero => simp [splitK]
   | succ k =>
    have hm : ¬ index r [c] = -1 := fun e2 => by rw [count_miss e2] at e; cases e
    have hge := index_ge r [c]
    obtain ⟨j,hj⟩ : ∃ j : Nat,index r [c] = j := ⟨(index r [c]).toNat,by omega⟩
    have hix' : index (x :: r) [c] = ((j + 1 : Nat) : Int) := by rw [hix,if_neg (fun e => hm (beq_iff_eq.1 e)),hj]; omega
    simp only [splitK,hix',hj]
    have h1 : ((((j + 1 : Nat) : Int)) == -1) = false := beq_eq_false_iff_ne.2 (by omega)
    have h2 : (((j : Nat) : Int) == -1) = false := beq_eq_false_iff_ne.2 (by omega)
    simp only [h1,h2]
    simp
def cutA (c : UInt8) : List (List UInt8) → List UInt8 → List UInt8 → List (List UInt8)
 | done,cur,[] => done ++ [cur]
 | done,cur,x :: r => if x = c then cutA c (done ++ [cur]) [] r else cutA c done (cur ++ [x]) r
theorem cutA_eq (c : UInt8) : ∀ (s : List UInt8) (done : List (List UInt8)) (cur : List UInt8),cutA c done cur s = done ++ ((cur ++ (cutL c s).headD []) :: (cutL c s).tail)
 | [],done,cur => by simp [cutA,cutL]
 | x :: r,done,cur => by
  simp only [cutA,cutL]
  split
  ·rw [cutA_eq c r]
   have := cutL_eq c r
   simp only [List.nil_append,this,List.append_assoc,List.headD_cons,List.append_nil,List.tail_cons,List.singleton_append]
  ·rw [cutA_eq c r]; simp
theorem cutA_cut (c : UInt8) (s : List UInt8) : cutA c [] [] s = cutL c s := by
 rw [cutA_eq,List.nil_append,List.nil_append,cutL_eq]
theorem cutL_le (c : UInt8) : ∀ s : List UInt8,(cutL c s).length ≤ s.length + 1
 | [] => by simp [cutL]
 | x :: r => by
  have := cutL_le c r
  unfold cutL
  split
  ·simp; omega
  ·simp; omega
theorem cutL_part (c : UInt8) : ∀ (s p : List UInt8),p ∈ cutL c s → p.length ≤ s.length
 | [],p,h => by simp [cutL] at h; subst h; simp
 | x :: r,p,h => by
  unfold cutL at h
  have ih := cutL_part c r
  split at h
  ·rcases List.mem_cons.1 h with rfl | h
   ·simp
   ·have := ih p h; simp; omega
  ·rcases List.mem_cons.1 h with rfl | h
   ·have : (cutL c r).headD [] ∈ cutL c r := by
     have := cutL_eq c r
     rw [← this]; simp
    have := ih _ this; simp only [List.length_cons]; omega
   ·have := ih p (List.mem_of_mem_tail h); simp; omega
end La
namespace La
open Go Go.Eng
def Ys (s : List UInt8) : List (List UInt8) × Int :=
 if 40 < s.length then ([],4) else if s = [47] then ([],0) else if s.head? ≠ some 47 then ([],2) else
  if (cutL 47 (s.drop 1)).all nameB then (cutL 47 (s.drop 1),0) else ([],7)
def splitA (p : List (List UInt8) × Int) : AV := .tup [.sl (p.1.map strRow),.int .i64 p.2]
inductive MReach (m : List (Int × Node)) (k : Int) : Int → Prop
 | refl : MReach m k k
 | step {x : Int} {n : Node} {e : Entry} (h : MReach m k x) (hn : Zg m x = some n) (he : e ∈ n.entries) : MReach m k e.fid
def allF (m : List (Int × Node)) : List Int := m.flatMap fun p => p.2.entries.map (·.fid)
theorem allF_mem {m : List (Int × Node)} {x : Int} {n : Node} {e : Entry} (hn : Zg m x = some n) (he : e ∈ n.entries) : e.fid ∈ allF m :=
 List.mem_flatMap.2 ⟨_,mget_mem hn,List.mem_map.2 ⟨e,he,rfl⟩⟩
def unseen (m : List (Int × Node)) (had : List (Int × Bool)) : Nat := ((allF m).filter fun f => !(getB had f)).length
theorem unseen_put {m : List (Int × Node)} {had : List (Int × Bool)} (hr : RiseM had) {f : Int} (hf : f ∈ allF m) (h : getB had f = false) : unseen m (Zp had f true) + 1 ≤ unseen m had := by
 unfold unseen
 generalize allF m = l at hf
 have hle : ∀ l : List Int,(l.filter fun x => !(getB (Zp had f true) x)).length ≤ (l.filter fun x => !(getB had x)).length := fun l => by
  induction l with
  | nil => simp
  | cons x r ih =>
   rw [List.filter_cons,List.filter_cons,getB_put hr]
   by_cases hx : x = f
   ·subst hx; simp [h]; omega
   ·simp only [hx,if_false]; split <;> (try simp only [List.length_cons]) <;> omega
 induction l with
 | nil => cases hf
 | cons x r ih =>
  rw [List.filter_cons,List.filter_cons,getB_put hr]
  by_cases hx : x = f
  ·subst hx
   have := hle r
   simp [h]; omega
  ·have hf2 : f ∈ r := by
    rcases List.mem_cons.1 hf with h1 | h1
    ·exact absurd h1.symm hx
    ·exact h1
   have := ih hf2
   simp only [hx,if_false]
   split <;> (try simp only [List.length_cons]) <;> omega
structure BI (m : List (Int × Node)) (k : Int) (had : List (Int × Bool)) (T : List Int) : Prop where
 rise : RiseM had
 sound : ∀ x,getB had x = true → MReach m k x
 start : getB had k = true
 todo : ∀ x,x ∈ T → getB had x = true
 shut : ∀ x,getB had x = true → x ∉ T → ∀ n,Zg m x = some n → ∀ e,e ∈ n.entries → getB had e.fid = true
 size : T.length + unseen m had ≤ (allF m).length + 1
structure BJ (m : List (Int × Node)) (k : Int) (x : Int) (n : Node) (c : Nat) (j : Nat) (had : List (Int × Bool)) (T : List Int) : Prop where
 at_ : Zg m x = some n
 rise : RiseM had
 sound : ∀ x,getB had x = true → MReach m k x
 start : getB had k = true
 todo : ∀ x,x ∈ T → getB had x = true
 shut : ∀ x,getB had x = true → x ∉ T → ∀ n,Zg m x = some n → ∀ e,e ∈ n.entries → getB had e.fid = true
 done : ∀ e,e ∈ n.entries.take j → getB had e.fid = true
 head : ∃ r,T = x :: r
 size : T.length + unseen m had ≤ c
theorem BI.begin (m : List (Int × Node)) (k : Int) : BI m k (Zp [] k true) [k] := by
 have hr : RiseM ([] : List (Int × Bool)) := List.Pairwise.nil
 have hg : ∀ x,getB (Zp [] k true) x = true → x = k := fun x h => by
  rw [getB_put hr] at h
  by_cases e : x = k
  ·exact e
  ·rw [if_neg e] at h; cases h
 refine ⟨mput_rise hr,fun x h => by rw [hg x h]; exact .refl,by rw [getB_put hr,if_pos rfl],fun x h => by rw [List.mem_singleton.1 h,getB_put hr,if_pos rfl],fun x h hn => absurd (List.mem_singleton.2 (hg x h)) hn,?_⟩
 have : unseen m (Zp [] k true) ≤ (allF m).length := List.length_filter_le _ _
 simp; omega
theorem BI.inner {m : List (Int × Node)} {k : Int} {had : List (Int × Bool)} {x : Int} {r : List Int} (h : BI m k had (x :: r)) {n : Node} (hn : Zg m x = some n) : BJ m k x n ((x :: r).length + unseen m had) 0 had (x :: r) :=
 ⟨hn,h.rise,h.sound,h.start,h.todo,h.shut,fun e he => by simp at he,⟨r,rfl⟩,Nat.le_refl _⟩
theorem BI.none {m : List (Int × Node)} {k : Int} {had : List (Int × Bool)} {x : Int} {r : List Int} (h : BI m k had (x :: r)) (hn : Zg m x = none) : BI m k had r :=
 ⟨h.rise,h.sound,h.start,fun y hy => h.todo y (List.mem_cons_of_mem _ hy),fun y hy hno n hmn => h.shut y hy (fun hm => by
  rcases List.mem_cons.1 hm with rfl | hm
  ·rw [hn] at hmn; cases hmn
  ·exact hno hm) n hmn,by have := h.size; simp at this; omega⟩
theorem BJ.pop {m : List (Int × Node)} {k x : Int} {n : Node} {c : Nat} {had : List (Int × Bool)} {T : List Int} (h : BJ m k x n c n.entries.length had T) (hc : c ≤ (allF m).length + 1) :
  BI m k had (T.drop 1) ∧ (T.drop 1).length + unseen m had < c := by
 obtain ⟨r,rfl⟩ := h.head
 have hs := h.size
 simp only [List.length_cons] at hs
 simp only [List.drop_succ_cons,List.drop_zero]
 refine ⟨⟨h.rise,h.sound,h.start,fun y hy => h.todo y (List.mem_cons_of_mem _ hy),fun y hy hno n' hmn e he => ?_,by omega⟩,by omega⟩
 by_cases hyx : y = x
 ·subst hyx
  rw [h.at_] at hmn; injection hmn with hmn; subst hmn
  exact h.done e (by rw [List.take_length]; exact he)
 ·exact h.shut y hy (fun hm => by
   rcases List.mem_cons.1 hm with h1 | h1
   ·exact hyx h1
   ·exact hno h1) n' hmn e he
theorem BJ.skip {m : List (Int × Node)} {k x : Int} {n : Node} {c j : Nat} {had : List (Int × Bool)} {T : List Int} (h : BJ m k x n c j had T) (hj : j < n.entries.length) (hb : getB had (n.entries.getD j default).fid = true) : BJ m k x n c (j + 1) had T :=
 ⟨h.at_,h.rise,h.sound,h.start,h.todo,h.shut,fun e he => by
  rw [ZT hj] at he
  rcases List.mem_append.1 he with he | he
  ·exact h.done e he
  ·rw [List.mem_singleton.1 he]; exact hb,h.head,h.size⟩
theorem BJ.add {m : List (Int × Node)} {k x : Int} {n : Node} {c j : Nat} {had : List (Int × Bool)} {T : List Int} (h : BJ m k x n c j had T) (hj : j < n.entries.length) (hb : getB had (n.entries.getD j default).fid = false) :
  BJ m k x n c (j + 1) (Zp had (n.entries.getD j default).fid true) (T ++ [(n.entries.getD j default).fid]) := by
 have hmem : n.entries.getD j default ∈ n.entries := YG hj
 have htk : ∀ e,e ∈ n.entries.take (j + 1) → e ∈ n.entries.take j ∨ e = n.entries.getD j default := fun e he => by
  rw [ZT hj] at he
  rcases List.mem_append.1 he with he | he
  ·exact .inl he
  ·exact .inr (List.mem_singleton.1 he)
 generalize n.entries.getD j default = f at *
 have hg : ∀ y,getB (Zp had f.fid true) y = if y = f.fid then true else getB had y := getB_put h.rise f.fid true
 have hmono : ∀ y,getB had y = true → getB (Zp had f.fid true) y = true := fun y hy => by rw [hg]; split <;> first | rfl | exact hy
 obtain ⟨r,hr⟩ := h.head
 have hx : getB had x = true := h.todo x (by rw [hr]; simp)
 refine ⟨h.at_,mput_rise h.rise,fun y hy => ?_,hmono _ h.start,fun y hy => ?_,fun y hy hno n' hmn e he => ?_,fun e he => ?_,⟨r ++ [f.fid],by rw [hr]; rfl⟩,?_⟩
 ·rw [hg] at hy
  split at hy
  ·rename_i e; subst e; exact .step (h.sound x hx) h.at_ hmem
  ·exact h.sound y hy
 ·rcases List.mem_append.1 hy with hy | hy
  ·exact hmono _ (h.todo y hy)
  ·rw [List.mem_singleton.1 hy,hg,if_pos rfl]
 ·rw [hg] at hy
  split at hy
  ·rename_i e'; exact absurd (List.mem_append_right _ (List.mem_singleton.2 e')) hno
  ·exact hmono _ (h.shut y hy (fun hm => hno (List.mem_append_left _ hm)) n' hmn e he)
 ·rcases htk e he with h1 | h1
  ·exact hmono _ (h.done e h1)
  ·rw [h1,hg,if_pos rfl]
 ·have := unseen_put h.rise (allF_mem h.at_ hmem) hb
  have := h.size
  simp only [List.length_append,List.length_cons,List.length_nil]
  omega
theorem BI.fin {m : List (Int × Node)} {k : Int} {had : List (Int × Bool)} (h : BI m k had []) (x : Int) : getB had x = true ↔ MReach m k x := by
 refine ⟨h.sound x,fun hr => ?_⟩
 induction hr with
 | refl => exact h.start
 | step hr hn he ih => exact h.shut _ ih (by simp) _ hn _ he
end La
