/- Texts of this claim, part 9: Enter, Nam, Doer, SameN, PutsS, Make, Rise, Walk, Within, Apply, Rename, PBack, PRank, PGood, TSame, Ali2, Hof. No condition. -/
import Derived.Test.YtfiiingppbkpkaaGreatXR8
import Derived.Test.YtfiiingppbkpkaaGreatXR7
import Derived.Test.YtfiiingppbkpkaaGreatXR6
set_option maxRecDepth 10000
set_option maxHeartbeats 4000000
set_option linter.unusedSimpArgs false
set_option linter.unusedVariables false
namespace La
open Go Go.Eng Go.Proofs
theorem dropIs_ok (n : Node) (f : Int) : FnOK Tryz.prog 119 [.agg (ZN n),.rp [.int .i64 f] 0] [] (fun r _ => r = .bool (n.fid == f)) := by
 unfold ZN
 refine ZF tK (Tryz.func119) rfl (fun C => ?_)
 simp only [Tryz.ntmps119,Tryz.results119,go_sem]
 refine wG tK ?_
 refine wT ?_
 simp
theorem drop_ok (l : List Node) (f : Int) (hl : Small l) : FnOK Tryz.prog 94 [.sl (l.map ZN),.int .i64 f] [] (fun r _ => r = .sl ((dropN l f).map ZN)) := by
 have hlen := hl.len
 refine ZF tK (Tryz.func94) rfl (fun C => ?_)
 simp only [Tryz.ntmps94,Tryz.results94,go_sem]
 refine wG tK ?_
 refine ZZ 3 rfl (rfl) ?_
 simp only [go_sem]
 refine wCG [] 100 Tryz.func38 (hf := (own_okH l hl)) (hk := ?_)
 refine wG tK ?_
 refine wCG [123] 100 Tryz.func118 (hf := (node_deleteFunc l hlen 123 ⟨_,Go.Proofs.Tryz.func119,by kernel_rfl,rfl⟩ rfl (by decide) (fun x _ => dropIs_ok x f))) (hk := ?_)
 refine wG tK ?_
 refine ZZ 223 rfl (by rw [List.all_append,nodeRow_pure,Bool.true_and]; exact rep_pure _ rfl) ?_
 simp only [go_sem]
 refine wT ?_
 have hle := List.length_filter_le (fun x : Node => !(x.fid == f)) l
 have hd : (l.filter fun x : Node => !(x.fid == f)) = dropN l f := rfl
 rw [hd] at hle
 simp only [hd]
 generalize dropN l f = d at *
 rw [if_pos (by simp),take_app (by simp)]
theorem leaveIs_ok (e : Entry) (s : List UInt8) : FnOK Tryz.prog 117 [.agg (ZE e),.rp [.str s] 0] [] (fun r _ => r = .bool (e.name == s)) := by
 unfold ZE
 refine ZF tK (Tryz.func117) rfl (fun C => ?_)
 simp only [Tryz.ntmps117,Tryz.results117,go_sem]
 refine wG tK ?_
 refine wT ?_
 simp
theorem leave_ok (n : Node) (s : List UInt8) (hn : n.Small) : FnOK Tryz.prog 93 [.agg (ZN n),.str s] [] (fun r _ => r = .agg (ZN (Yv n s))) := by
 have hlen := hn.entries
 refine ZF tK (Tryz.func93) rfl (fun C => ?_)
 simp only [Tryz.ntmps93,Tryz.results93,go_sem]
 refine wGq tK ?_ ?_ (by simp only [go_sem,ZN]; try exact rfl)
 ·simp [ZN]
 refine ZZ 7 rfl (rfl) ?_
 refine ZZ 3 rfl (rfl) ?_
 simp only [go_sem]
 refine wCG [] 0 Tryz.func38 (hf := (own_oneH n hn)) (hk := ?_)
 refine wGq tK ?_ ?_ (by simp only [go_sem,heldRow]; try exact rfl)
 ·simp [heldRow]
 refine Yl (le_killB 1000 5 (by simp only [go_sem]; exact rfl) (by simp only [go_sem,kill]; exact rfl)) ?_
 refine Yl (le_killB 1000 23 (by simp only [go_sem]; exact rfl) (by simp only [go_sem,kill]; exact rfl)) ?_
 simp only [go_sem]
 refine wCG [1000] 100 Tryz.func116 (hf := (entry_deleteFunc n.entries hlen 1000 ⟨_,Go.Proofs.Tryz.func117,by kernel_rfl,rfl⟩ rfl (by decide) (fun x _ => leaveIs_ok x s))) (hk := ?_)
 refine ZZ 1100 rfl (by rw [List.all_append,entryRow_pure,Bool.true_and]; exact rep_pure _ rfl) ?_
 simp only [go_sem]
 have hle := List.length_filter_le (fun x : Entry => !(x.name == s)) n.entries
 have hd : (n.entries.filter fun x : Entry => !(x.name == s)) = leaveE n.entries s := rfl
 have hr : ZN (Yv n s) = [.int .i64 n.fid,.bool n.dir,.sl (n.data.map ZY),.sl ((leaveE n.entries s).map ZE),.int .i64 n.version] := rfl
 simp only [hd] at hle ⊢
 rw [hr]
 generalize leaveE n.entries s = d at *
 simp only [go_sem,if_pos (show d.length ≤ (d.map ZE ++ List.replicate (n.entries.length - d.length) [AV.str [],AV.int .i64 0]).length by simp),take_app (show d.length = (d.map ZE).length by simp)]
 refine wG tK ?_
 refine wT ?_
 simp
theorem entry_insertR (l M : List Entry) (i : Nat) (hi : i ≤ l.length) (hlen : l.length ≤ 100000000) (hM : l.take i ++ ⟨[],0⟩ :: l.drop i = M) :
  FnOK Tryz.prog 115 [.osl 1000 2 0 l.length,.int .i64 i,.osl 28 2 0 1] [(28,.cells 135 2 [[.str [],.int .i64 0]]),(1000,.cells 135 2 (l.map ZE))]
   (fun r H => r = .osl 7 2 0 (l.length + 1) ∧ ∀ i' b,Yk [(7,.cells 135 2 (M.map ZE))] i' = some b → Yk H i' = some b) := by
 subst hM
 have hL : (l.map ZE).length = l.length := List.length_map ..
 have := FnOK.renum (rows' := (l.take i ++ ⟨[],0⟩ :: l.drop i).map ZE) 7 (entry_insert (l.map ZE) i (by omega) (by omega) (entryRow_rowsOf l) (entryRow_leaf l) (fun id => entryRow_noRef id l)) (by
  rw [List.map_append,List.map_cons,List.map_append,List.map_cons,← List.map_take,← List.map_drop,entryRow_nil1,entryRow_nil1]; rfl) (ins_free (fun id => entryRow_noRef id l) (by decide))
 rw [hL] at this
 exact this
theorem entryRow_at {M : List Entry} {i : Nat} (h : i < M.length) : (M.map ZE).getD i [] = [.str (M.getD i default).name,.int .i64 (M.getD i default).fid] := by
 rw [Fam.getD h]; rfl
theorem enter_ok (n : Node) (s : List UInt8) (f : Int) (hn : n.Small) : FnOK Tryz.prog 91 [.agg (ZN n),.str s,.int .i64 f] [] (fun r _ => r = .agg (ZN (Ye n s f))) := by
 have hlen := hn.entries
 refine ZF tK (Tryz.func91) rfl (fun C => ?_)
 simp only [Tryz.ntmps91,Tryz.results91,go_sem]
 refine wGq tK ?_ ?_ (by simp only [go_sem,ZN]; try exact rfl)
 ·simp [ZN]
 refine ZZ 11 rfl (rfl) ?_
 refine ZZ 3 rfl (rfl) ?_
 simp only [go_sem]
 refine wCG [] 0 Tryz.func38 (hf := (own_oneH n hn)) (hk := ?_)
 refine wG tK ?_
 refine wV Tryz.func112 (hf := (entry_search n.entries s hlen ⟨_,Go.Proofs.Tryz.func113,by kernel_rfl,rfl⟩ (fun e => enterCmp_ok e s))) (hk := ?_)
 refine wG tK ?_
 have hple := eplace_le n.entries s
 refine wD (fun h => ?_) (fun h => ?_)
 ·have hat : isE n.entries s = false := by simpa using h
  refine wG tK ?_
  refine Yl (le_killB 1000 7 (by simp only [go_sem]; exact rfl) (by simp only [go_sem,kill]; exact rfl)) ?_
  refine Yl (le_killB 1000 23 (by simp only [go_sem]; exact rfl) (by simp only [go_sem,kill]; exact rfl)) ?_
  simp only [go_sem]
  have hM : (n.entries.take (Yq n.entries s) ++ ⟨[],0⟩ :: n.entries.drop (Yq n.entries s)).length = n.entries.length + 1 := by simp; omega
  have hS : (n.entries.take (Yq n.entries s) ++ ⟨[],0⟩ :: n.entries.drop (Yq n.entries s)).set (Yq n.entries s) ⟨s,f⟩ = Zt n.entries s f := by
   unfold Zt
   rw [hat,if_neg (by simp),List.set_append_right _ _ (by rw [List.length_take]; omega),List.length_take,Nat.min_eq_left hple,Nat.sub_self]; rfl
  generalize hMd : n.entries.take (Yq n.entries s) ++ ⟨[],0⟩ :: n.entries.drop (Yq n.entries s) = M at *
  refine wCG [1000,28] 200 Tryz.func115 (hf := (entry_insertR n.entries M (Yq n.entries s) hple hlen hMd)) (hk := ?_)
  refine wN tK 2 ?_
  have hE : (Zt n.entries s f).length = n.entries.length + 1 := by rw [← hS,List.length_set,hM]
  have hlt : Yq n.entries s < (M).length := by omega
  have hg := entryRow_at hlt
  have hq : ((M).map ZE).set (Yq n.entries s) [.str s,.int .i64 f] = (Zt n.entries s f).map ZE := by
   rw [← hS,List.map_set]; rfl
  refine wR ?_
  refine wN tK 6 ?_
  refine wNq tK 1 ?_ ?_
  ·exact ⟨by simp,by omega,by omega⟩
  refine wNq tK 1 ?_ ?_
  ·exact ⟨by simp,by omega⟩
  simp only [go_sem,hg,hq]
  refine ZZ 207 rfl (entryRow_pure _) ?_
  have hr : ZN (Ye n s f) = [.int .i64 n.fid,.bool n.dir,.sl (n.data.map ZY),.sl ((Zt n.entries s f).map ZE),.int .i64 n.version] := rfl
  rw [hr]
  have hE2 := List.take_of_length_le (l := (Zt n.entries s f).map ZE) (i := (Zt n.entries s f).length) (by simp)
  simp only [go_sem,← hE,hE2]
  refine wG tK ?_
  refine wT ?_
  simp
 ·have hat : isE n.entries s = true := by simpa using h
  have hpl : Yq n.entries s < n.entries.length := by
   unfold isE at hat
   rw [Bool.and_eq_true] at hat
   exact of_decide_eq_true hat.1
  have hS : n.entries.set (Yq n.entries s) ⟨s,f⟩ = Zt n.entries s f := by
   unfold Zt
   rw [hat,if_pos rfl]
  have hE : (Zt n.entries s f).length = n.entries.length := by rw [← hS,List.length_set]
  have hlt : Yq n.entries s < (n.entries).length := by omega
  have hg := entryRow_at hlt
  have hq : ((n.entries).map ZE).set (Yq n.entries s) [.str s,.int .i64 f] = (Zt n.entries s f).map ZE := by
   rw [← hS,List.map_set]; rfl
  refine wR ?_
  refine wN tK 6 ?_
  refine wNq tK 1 ?_ ?_
  ·exact ⟨by simp,by omega,by omega⟩
  refine wNq tK 1 ?_ ?_
  ·exact ⟨by simp,by omega⟩
  simp only [go_sem,hg,hq]
  refine ZZ 1000 rfl (entryRow_pure _) ?_
  have hr : ZN (Ye n s f) = [.int .i64 n.fid,.bool n.dir,.sl (n.data.map ZY),.sl ((Zt n.entries s f).map ZE),.int .i64 n.version] := rfl
  rw [hr]
  have hE2 := List.take_of_length_le (l := (Zt n.entries s f).map ZE) (i := (Zt n.entries s f).length) (by simp)
  simp only [go_sem,← hE,hE2]
  refine wG tK ?_
  refine wT ?_
  simp
def okC (c : UInt8) : Bool := (decide (97 ≤ c.toNat) && decide (c.toNat ≤ 122)) || (decide (48 ≤ c.toNat) && decide (c.toNat ≤ 57))
def nameB (s : List UInt8) : Bool := decide (1 ≤ s.length) && decide (s.length ≤ 8) && s.all okC
theorem name_ok (s : List UInt8) (hs : s.length ≤ 100000000) : FnOK Tryz.prog 109 [.str s] [] (fun r _ => r = .bool (nameB s)) := by
 refine ZF tK (Tryz.func109) rfl (fun C => ?_)
 simp only [Tryz.ntmps109,Tryz.results109,go_sem]
 refine wR ?_
 refine wN tK 1 ?_
 refine wR ?_
 cases e1 : decide ((s.length : Int) < 1) with
 | true =>
  have hno : nameB s = false := by
   have h1 := of_decide_eq_true e1
   unfold nameB
   rw [show decide (1 ≤ s.length) = false from decide_eq_false (by omega)]; rfl
  refine wG tK ?_ (by simp only [go_sem,e1]; try exact rfl) (by simp [go_sem,e1])
  refine wD (fun h => ?_) (fun h => ?_)
  ·refine wG tK ?_
   refine wT ?_
   rw [hno]
  ·cases h
 | false =>
  have h1 := of_decide_eq_false e1
  cases e2 : decide ((s.length : Int) > 8) with
  | true =>
   have hno : nameB s = false := by
    have h2 := of_decide_eq_true e2
    unfold nameB
    rw [show decide (s.length ≤ 8) = false from decide_eq_false (by omega),Bool.and_false]; rfl
   refine wG tK ?_ (by simp only [go_sem,e1,e2]; try exact rfl) (by simp [go_sem,e1,e2])
   refine wD (fun h => ?_) (fun h => ?_)
   ·refine wG tK ?_
    refine wT ?_
    rw [hno]
   ·cases h
  | false =>
   have h2 := of_decide_eq_false e2
   have hyes : nameB s = s.all okC := by
    unfold nameB
    rw [show decide (1 ≤ s.length) = true from decide_eq_true (by omega),show decide (s.length ≤ 8) = true from decide_eq_true (by omega)]; rfl
   rw [hyes]
   refine wG tK ?_ (by simp only [go_sem,e1,e2]; try exact rfl) (by simp [go_sem,e1,e2])
   refine wD (fun h => ?_) (fun h => ?_)
   ·cases h
   refine wG tK ?_
   refine ZL (fun i : Nat => i ≤ s.length ∧ ∀ j,j < i → okC (s.getD j 0) = true) (fun i => s.length - i) (fun i => [(3,.any),(4,.any),(15,.int .i64 i),(16,.any),(17,.any),(18,.any),(19,.any),(20,.any),(21,.any),(22,.any),(23,.any),(24,.any),(25,.any),(26,.any),(27,.any),(28,.any),(29,.any),(30,.any),(31,.any),(32,.any),(33,.any),(34,.any),(35,.any)]) (fun _ => []) 0 ⟨by omega,by omega⟩ ?_ fun i hi => ?_
   ·simp only [go_sem]
    exact ZU (by simp [go_sem]) (by simp [go_sem]) (by simp [go_sem])
   obtain ⟨hi,hs⟩ := hi
   simp only [go_sem]
   refine wG tK ?_
   refine wD (fun h => ?_) (fun h => ?_)
   ·have hlt : i < s.length := by simp at h; omega
    have hw := wi1 (i := i) (by omega)
    have hno : okC (s.getD i 0) = false → s.all okC = false := fun h0 => by
     cases e : s.all okC with
     | false => rfl
     | true =>
      have := List.all_eq_true.1 e (s.getD i 0) (by rw [List.getD_eq_getElem?_getD,List.getElem?_eq_getElem hlt]; exact List.getElem_mem hlt)
      rw [this] at h0; cases h0
    have hyes : okC (s.getD i 0) = true → ∀ j,j < i + 1 → okC (s.getD j 0) = true := fun h0 j hj => by
     rcases Nat.lt_succ_iff_lt_or_eq.1 hj with h1 | rfl
     ·exact hs j h1
     ·exact h0
    refine wR ?_
    refine wN tK 2 ?_
    refine wR ?_
    refine wN tK 2 ?_
    refine wNq tK 1 ?_ ?_
    ·simp; omega
    refine wN tK 1 ?_
    refine wR ?_
    generalize s.getD i 0 = c at hno hyes
    have hc : okC c = ((!(decide ((c.toNat : Int) < 97)) && !(decide ((c.toNat : Int) > 122))) || (!(decide ((c.toNat : Int) < 48)) && !(decide ((c.toNat : Int) > 57)))) := by
     unfold okC
     rw [Bool.eq_iff_iff]
     simp only [Bool.or_eq_true,Bool.and_eq_true,decide_eq_true_eq,Bool.not_eq_true',decide_eq_false_iff_not]
     omega
    generalize hf1 : decide ((c.toNat : Int) < 97) = f1 at hc
    generalize hf2 : decide ((c.toNat : Int) > 122) = f2 at hc
    generalize hf3 : decide ((c.toNat : Int) < 48) = f3 at hc
    generalize hf4 : decide ((c.toNat : Int) > 57) = f4 at hc
    refine wNq tK 14 ?_ ?_ (h := by simp only [go_sem,hf1,hf2,hf3,hf4]; try exact rfl)
    ·cases f1 <;> cases f2 <;> cases f3 <;> cases f4 <;> simp
    have hb : (bif (bif f1 then true else f2) then (bif f3 then true else f4) else false) = !okC c := by
     rw [hc]; cases f1 <;> cases f2 <;> cases f3 <;> cases f4 <;> rfl
    simp only [go_sem,hb]
    refine wD (fun h => ?_) (fun h => ?_)
    ·have h0 : okC c = false := by simpa using h
     refine wG tK ?_
     refine wT ?_
     rw [hno h0]
    ·have h0 : okC c = true := by simpa using h
     refine wG tK ?_ (by simp only [go_sem,hw]; try exact rfl) (by simp [go_sem,hw])
     refine ZB ⟨i + 1,⟨by omega,hyes h0⟩,by omega,ZU ?_ ?_ ?_⟩
     ·simp [go_sem]
     ·simp [go_sem]
     ·simp [go_sem]
   ·have e : i = s.length := by simp at h; omega
    have : s.all okC = true := List.all_eq_true.2 fun x hx => by
     obtain ⟨j,hj⟩ := List.getElem?_of_mem hx
     have := hs j (by rw [e]; exact (List.getElem?_eq_some_iff.1 hj).1)
     rwa [List.getD_eq_getElem?_getD,hj] at this
    refine wG tK ?_
    refine wT ?_
    rw [this]
theorem hold {K H : List (Nat × Blk)} (h : ∀ p,p ∈ K → Yk H p.1 = some p.2) : ∀ i b,Yk K i = some b → Yk H i = some b := fun i b hb => h (i,b) (hget_mem hb)
theorem hold2 {a b : Nat} {x y : Blk} {H : List (Nat × Blk)} (h1 : Yk H a = some x) (h2 : Yk H b = some y) : ∀ i c,(if a = i then some x else if b = i then some y else none) = some c → Yk H i = some c := fun i c hc => by
 by_cases e1 : a = i
 ·subst e1; rw [if_pos rfl] at hc; rw [h1,hc]
 ·rw [if_neg e1] at hc
  by_cases e2 : b = i
  ·subst e2; rw [if_pos rfl] at hc; rw [h2,hc]
  ·rw [if_neg e2] at hc; cases hc
def Yg (l : List Node) (k : Int) : Node := (Yf l k).getD Yz
def dirE (l : List Node) (k : Int) : Int := match Yf l k with
 | none => 12
 | some n => if n.dir then 0 else 8
def roomE (n : Node) (s : List UInt8) : Int := if nameB s then (if isE n.entries s then 7 else if n.entries.length ≥ 6 then 5 else 0) else 7
def ZD (l : List Node) (a : Act) (v : Int) : List AV := [.sl (l.map ZN),.int .i64 a.kind,.int .i64 a.fid,.int .i64 a.dir,.str a.name,.int .i64 a.to,.str a.toName,.sl (a.data.map ZY),.int .i64 v]
@[go_sem,simp] theorem doerRow_refsL (l : List Node) (a : Act) (v : Int) : refsL (ZD l a v) = [] := rfl
def dH (R : List AV) (G Y N : Nat → Nat) : List (Nat × Blk) := [(15,.cells 119 9 [R])] ++ Yx [15] G Y N
theorem room_ok (n : Node) (s : List UInt8) (hn : n.Small) (hs : s.length ≤ 100000000) : FnOK Tryz.prog 89 [.agg (ZN n),.str s] [] (fun r _ => r = .int .i64 (roomE n s)) := by
 have hlen := hn.entries
 refine ZF tK (Tryz.func89) rfl (fun C => ?_)
 simp only [Tryz.ntmps89,Tryz.results89,go_sem]
 refine wGq tK ?_ ?_ (by simp only [go_sem,ZN]; try exact rfl)
 ·simp
 refine wC Tryz.func109 (hf := (name_ok s hs)) (hk := ?_)
 refine wG tK ?_
 refine wD (fun h => ?_) (fun h => ?_)
 ·have h0 : nameB s = false := by simpa using h
  refine wG tK ?_
  refine wT ?_
  simp [roomE,h0]
 have h0 : nameB s = true := by simpa using h
 refine wGq tK ?_ ?_ (by simp only [go_sem,ZN]; try exact rfl)
 ·simp [ZN]
 refine wC Tryz.func110 (hf := (entry_ok n s hn)) (hk := ?_)
 cases he : isE n.entries s with
 | true =>
  have e1 : entryN n s = some (n.entries.getD (Yq n.entries s) default).fid := by unfold entryN; rw [if_pos he]
  rw [e1]
  simp only [optInt]
  refine wG tK ?_
  refine wD (fun h => ?_) (fun h => ?_)
  ·refine wG tK ?_
   refine wT ?_
   simp [roomE,h0,he]
  ·cases h
 | false =>
  have e1 : entryN n s = none := by unfold entryN; rw [if_neg (by simp [he])]
  rw [e1]
  simp only [optInt]
  refine wG tK ?_
  refine wD (fun h => ?_) (fun h => ?_)
  ·cases h
  refine wGq tK ?_ ?_ (by simp only [go_sem,ZN]; try exact rfl)
  ·simp [ZN]
  refine wD (fun h => ?_) (fun h => ?_)
  ·have h6 : 6 ≤ n.entries.length := by simp at h; omega
   refine wG tK ?_
   refine wT ?_
   simp [roomE,h0,he,h6]
  ·have h6 : ¬ 6 ≤ n.entries.length := by simp at h; omega
   refine wG tK ?_
   refine wT ?_
   simp [roomE,h0,he,h6]
theorem dir_ok (l : List Node) (a : Act) (v k : Int) (hl : Small l) (G Y N : Nat → Nat) : FnOK Tryz.prog 88 [.ptr 15 9 0 0,.int .i64 k] (dH (ZD l a v) G Y N)
  (fun r H => r = .tup [.agg (ZN (Yg l k)),.int .i64 (dirE l k)] ∧ ∀ i b,Yk (dH (ZD l a v) G Y N) i = some b → Yk H i = some b) := by
 unfold dH
 refine ZF tK (Tryz.func88) rfl (fun C => ?_)
 simp only [Tryz.ntmps88,Tryz.results88,go_sem]
 refine wGq tK ?_ ?_ (by simp only [go_sem,ZD]; try exact rfl)
 ·simp [ZD]
 refine wC Tryz.func47 (hf := (find_ok l k hl)) (hk := ?_)
 simp only [go_sem,findR]
 rw [isAt_eq]
 unfold Yg dirE
 generalize Yf l k = o
 cases o with
 | none =>
  simp only [Option.getD_none,Option.isSome_none]
  refine wGq tK ?_ ?_ (by simp only [go_sem,ZN,Yz]; try exact rfl)
  ·simp [ZN]
  refine wD (fun h => ?_) (fun h => ?_)
  ·refine wGq tK ?_ ?_ (by simp only [go_sem,ZN,Yz]; try exact rfl)
   ·simp [ZN]
   refine wU ?_ (hold2 ?_ ?_)
   ·simp [ZN,Yz]
   ·simp [go_sem,ZD]
   ·simp [go_sem]
  ·cases h
 | some n =>
  simp only [Option.getD_some,Option.isSome_some]
  refine wGq tK ?_ ?_ (by simp only [go_sem,ZN]; try exact rfl)
  ·simp [ZN]
  refine wD (fun h => ?_) (fun h => ?_)
  ·cases h
  refine wGq tK ?_ ?_ (by simp only [go_sem,ZN]; try exact rfl)
  ·simp [ZN]
  refine wD (fun h => ?_) (fun h => ?_)
  ·have hd : n.dir = false := by simpa using h
   refine wGq tK ?_ ?_ (by simp only [go_sem,ZN]; try exact rfl)
   ·simp [ZN]
   refine wU ?_ (hold2 ?_ ?_)
   ·simp [ZN,hd]
   ·simp [go_sem,ZD]
   ·simp [go_sem]
  ·have hd : n.dir = true := by simpa using h
   refine wGq tK ?_ ?_ (by simp only [go_sem,ZN]; try exact rfl)
   ·simp [ZN]
   refine wU ?_ (hold2 ?_ ?_)
   ·simp [ZN,hd]
   ·simp [go_sem,ZD]
   ·simp [go_sem]
theorem put_in (l : List Node) (a : Act) (v : Int) (n : Node) (hl : Small l) (hn : n.Small) (G Y N : Nat → Nat) : FnOK Tryz.prog 90 [.ptr 15 9 0 0,.agg (ZN n)] (dH (ZD l a v) G Y N)
  (fun r H => r = .tup [] ∧ ∀ i b,Yk (dH (ZD (Yu l { n with version := v }) a v) G Y N) i = some b → Yk H i = some b) := by
 have hp := put_ok l ({ n with version := v } : Node) hl ⟨hn.data,hn.entries⟩
 unfold dH
 refine ZF tK (Tryz.func90) rfl (fun C => ?_)
 simp only [Tryz.ntmps90,Tryz.results90,go_sem]
 refine wGq tK ?_ ?_ (by simp only [go_sem,ZD,ZN]; try exact rfl)
 ·simp [ZD]
 refine ZZ 3 rfl (rfl) ?_
 simp only [go_sem]
 refine ZW ZM ?_
 refine ZS rfl ?_
 refine sG tK ?_
 refine sC Tryz.func111 (hf := (hp)) (hk := ?_)
 refine sG tK ?_
 refine sE ?_
 refine dS tK ?_
 refine wKd ?_
 try simp only [go_sem,gA,gB,gC]
 refine cw_nil ⟨_,_,rfl,trivial,.tup [],.inr (.inl rfl),rfl,hold2 ?_ ?_⟩
 ·simp [go_sem,ZD]
 ·simp [go_sem]
theorem take_same {α : Type} [Inhabited α] [DecidableEq α] {a b : List α} {i : Nat} (h : a.take i = b.take i) (ha : i < a.length) (hb : i < b.length) (e : a.getD i default = b.getD i default) : a.take (i + 1) = b.take (i + 1) := by
 rw [ZT ha,ZT hb,h,e]
theorem take_diff {α : Type} [Inhabited α] {a b : List α} {i : Nat} (e : ¬ a.getD i default = b.getD i default) : a ≠ b := by rintro rfl; exact e rfl
def sameN (v : Bool) (a b : Node) : Bool := a.fid == b.fid && a.dir == b.dir && a.data == b.data && decide (a.entries = b.entries) && (!v || a.version == b.version)
theorem sameNode_ok (a b : Node) (v : Bool) (ha : a.Small) (hb : b.Small) : FnOK Tryz.prog 41 [.agg (ZN a),.agg (ZN b),.bool v] [] (fun r _ => r = .bool (sameN v a b)) := by
 have hla := ha.entries
 have hlb := hb.entries
 unfold ZN
 refine ZF tK (Tryz.func41) rfl (fun C => ?_)
 simp only [Tryz.ntmps41,Tryz.results41,go_sem]
 refine wR ?_
 refine wN tK 3 ?_
 refine wR ?_
 refine ZZ 3 rfl (rfl) ?_
 refine ZZ 4 rfl (rfl) ?_
 simp only [go_sem]
 refine wN tK 5 ?_
 refine Yn 12 (by simp only [go_sem]; exact rfl) (fun c12 h12 => ?_)
 simp only [go_sem]
 refine wN tK 7 ?_
 refine Yn 19 (by simp only [go_sem]; exact rfl) (fun c19 h19 => ?_)
 simp only [go_sem]
 refine wN tK 9 ?_
 refine Yn 28 (by simp only [go_sem]; exact rfl) (fun c28 h28 => ?_)
 simp only [go_sem]
 refine wN tK 9 ?_
 refine Yn 37 (by simp only [go_sem]; exact rfl) (fun c37 h37 => ?_)
 simp only [go_sem]
 refine wNq tK 10 ?_ ?_
 ·cases c37 <;> cases v <;> simp
 refine Yn 47 (by simp only [go_sem]; exact rfl) (fun c47 h47 => ?_)
 simp only [go_sem]
 have hdiff : c47 = !(a.fid == b.fid && a.dir == b.dir && a.data == b.data && (a.entries.length == b.entries.length) && (!v || a.version == b.version)) := by
  subst h47 h37 h28 h19 h12
  have e : ((a.entries.length : Int) != (b.entries.length : Int)) = !(a.entries.length == b.entries.length) := by
   rw [Bool.eq_iff_iff]; simp; omega
  rw [e]
  simp only [bne]
  cases (a.fid == b.fid) <;> cases (a.dir == b.dir) <;> cases (a.data == b.data) <;> cases (a.entries.length == b.entries.length) <;> cases v <;> cases (a.version == b.version) <;> rfl
 refine wD (fun h => ?_) (fun h => ?_)
 ·rw [hdiff] at h
  refine wG tK ?_
  refine wT ?_
  have : sameN v a b = false := by
   unfold sameN
   have hn : decide (a.entries = b.entries) = true → (a.entries.length == b.entries.length) = true := fun h => by
    rw [of_decide_eq_true h]; simp
   revert h hn
   cases (a.fid == b.fid) <;> cases (a.dir == b.dir) <;> cases (a.data == b.data) <;> cases (a.entries.length == b.entries.length) <;> cases v <;> cases (a.version == b.version) <;> cases decide (a.entries = b.entries) <;> simp
  rw [this]
 rw [hdiff] at h
 have hl : a.entries.length = b.entries.length := by
  revert h
  cases e : (a.entries.length == b.entries.length)
  ·simp
  ·intro _; simpa using e
 have hsn : sameN v a b = decide (a.entries = b.entries) := by
  unfold sameN
  revert h
  cases (a.fid == b.fid) <;> cases (a.dir == b.dir) <;> cases (a.data == b.data) <;> cases (a.entries.length == b.entries.length) <;> cases v <;> cases (a.version == b.version) <;> simp
 rw [hsn]
 clear h12 h19 h28 h37 h47
 refine wG tK ?_
 refine ZL (fun i : Nat => i ≤ a.entries.length ∧ a.entries.take i = b.entries.take i) (fun i => a.entries.length - i) (fun i => [(7,.any),(51,.int .i64 i),(52,.any),(53,.any),(54,.any),(55,.any),(56,.any),(57,.any),(58,.any),(59,.any),(60,.any),(61,.any),(62,.any),(63,.any),(64,.any),(65,.any)]) (fun _ => []) 0 ⟨by omega,by simp⟩ ?_ fun i hi => ?_
 ·simp only [go_sem]
  exact ZU (by simp [go_sem]) (by simp [go_sem]) (by simp [go_sem])
 obtain ⟨hi,hs⟩ := hi
 simp only [go_sem]
 refine wG tK ?_
 refine wD (fun h => ?_) (fun h => ?_)
 ·have hlt : i < a.entries.length := by simp at h; omega
  have hltb : i < b.entries.length := by omega
  have hga : (a.entries.map ZE).getD i [] = ZE (a.entries.getD i default) := Fam.getD hlt
  have hgb : (b.entries.map ZE).getD i [] = ZE (b.entries.getD i default) := Fam.getD hltb
  have htk := take_same hs hlt hltb
  have htd := take_diff (a := a.entries) (b := b.entries) (i := i)
  generalize a.entries.getD i default = x at hga htk htd
  generalize b.entries.getD i default = y at hgb htk htd
  refine wG tK ?_
  refine ZW ZM ?_
  refine ZS rfl ?_
  refine sNq tK 10 ?_ ?_ (h := by simp only [go_sem,hga,hgb,ZE]; try exact rfl)
  ·simp [hga,hgb,ZE,hlt,hltb]
  refine sE ?_
  refine draw_trip rfl (by kernel_rfl) rfl (trip_eqS tK rfl (tys := [9,3]) (by kernel_rfl) (by simp only [go_sem]; try exact rfl) (by simp only [go_sem]; try exact rfl) (by simp only [go_sem]; exact rfl) (by first | exact .inl ⟨rfl,rfl⟩ | exact .inr ⟨rfl,rfl⟩)) rfl ?_
  refine wKd ?_
  have hxy : (x.name == y.name && x.fid == y.fid) = decide (x = y) := by
   obtain ⟨n1,f1⟩ := x
   obtain ⟨n2,f2⟩ := y
   by_cases h1 : n1 = n2 <;> by_cases h2 : f1 = f2 <;> simp [h1,h2]
  simp only [go_sem,Bool.and_true,hxy]
  refine wG tK ?_
  refine wD (fun h => ?_) (fun h => ?_)
  ·have hne : x ≠ y := by simpa using h
   have := htd hne
   refine wG tK ?_
   refine wT ?_
   simp [this]
  ·have heq : x = y := by simpa using h
   have hw := wi1 (i := i) (by omega)
   refine wG tK ?_ (by simp only [go_sem,hw]; try exact rfl) (by simp [go_sem,hw])
   refine ZB ⟨i + 1,⟨by omega,htk heq⟩,by omega,ZU ?_ ?_ ?_⟩
   ·simp [go_sem]; exact hw
   ·simp [go_sem]
   ·simp [go_sem]
 ·have e : i = a.entries.length := by simp at h; omega
  have hab : a.entries = b.entries := by
   rw [e,List.take_length,hl,List.take_length] at hs; exact hs
  refine wG tK ?_
  refine wT ?_
  simp [hab]
theorem putN_small {l : List Node} (hl : Small l) {n : Node} (hn : n.Small) (hlen : l.length ≤ 99999999) : Small (Yu l n) := by
 refine ⟨by have := putN_length l n; omega,fun x hx => ?_⟩
 unfold Yu at hx
 split at hx
 ·rcases List.mem_or_eq_of_mem_set hx with h | rfl
  ·exact hl.each x h
  ·exact hn
 ·rcases List.mem_append.1 hx with h | h
  ·exact hl.each x (List.mem_of_mem_take h)
  ·rcases List.mem_cons.1 h with rfl | h
   ·exact hn
   ·exact hl.each x (List.mem_of_mem_drop h)
theorem enterN_small {n : Node} (hn : n.Small) (s : List UInt8) (f : Int) (h : n.entries.length ≤ 99999999) : (Ye n s f).Small := by
 refine ⟨hn.data,?_⟩
 show (Zt n.entries s f).length ≤ _
 unfold Zt
 split
 ·simp; omega
 ·have := eplace_le n.entries s
  simp; omega
theorem leaveN_small {n : Node} (hn : n.Small) (s : List UInt8) : (Yv n s).Small :=
 ⟨hn.data,by
  have := List.length_filter_le (fun e : Entry => !(e.name == s)) n.entries
  have := hn.entries
  show (leaveE n.entries s).length ≤ _
  unfold leaveE; omega⟩
def namedE (l : List Node) (a : Act) : Int := if dirE l a.dir = 0 then (match entryN (Yg l a.dir) a.name with
 | none => 6
 | some f => if f = a.fid then 0 else 13) else dirE l a.dir
theorem named_ok (l : List Node) (a : Act) (v : Int) (hl : Small l) (hname : a.name.length ≤ 100000000) (G Y N : Nat → Nat) : FnOK Tryz.prog 92 [.ptr 15 9 0 0] (dH (ZD l a v) G Y N)
  (fun r H => r = .tup [.agg (ZN (Yg l a.dir)),.int .i64 (namedE l a)] ∧ ∀ i b,Yk (dH (ZD l a v) G Y N) i = some b → Yk H i = some b) := by
 have hsm : (Yg l a.dir).Small := hl.find a.dir
 unfold namedE
 unfold dH
 refine ZF tK (Tryz.func92) rfl (fun C => ?_)
 simp only [Tryz.ntmps92,Tryz.results92,go_sem]
 refine wGq tK ?_ ?_ (by simp only [go_sem,ZD]; try exact rfl)
 ·simp [ZD]
 refine wP [15] Tryz.func88 (hf := (dir_ok l a v a.dir hl)) (hk := ?_)
 generalize hgn : Yg l a.dir = n at hsm
 generalize hge : dirE l a.dir = e
 refine wGq tK ?_ ?_ (by simp only [go_sem,ZN]; try exact rfl)
 ·simp [ZN]
 refine wD (fun h => ?_) (fun h => ?_)
 ·have he : e ≠ 0 := by simpa using h
  refine wGq tK ?_ ?_ (by simp only [go_sem,ZN]; try exact rfl)
  ·simp [ZN]
  refine wU ?_ (hold2 ?_ ?_)
  ·simp [ZN,he]
  ·simp [go_sem,ZD]
  ·simp [go_sem]
 have he : e = 0 := by simpa using h
 subst he
 refine wG tK ?_
 refine ZW ZM ?_
 refine ZS rfl ?_
 refine sNq tK 6 ?_ ?_ (h := by simp only [go_sem,ZN,ZD]; try exact rfl)
 ·simp [ZN,ZD]
 refine sC Tryz.func110 (hf := (entry_ok n a.name hsm)) (hk := ?_)
 cases hen : entryN n a.name with
 | none =>
  simp only [optInt]
  refine sG tK ?_
  refine sE ?_
  refine wKd ?_
  try simp only [go_sem,gA,gB,gC]
  refine wG tK ?_
  refine wD (fun h => ?_) (fun h => ?_)
  ·refine wGq tK ?_ ?_ (by simp only [go_sem,ZN]; try exact rfl)
   ·simp [ZN]
   refine wU ?_ (hold2 ?_ ?_)
   ·simp [ZN]
   ·simp [go_sem,ZD]
   ·simp [go_sem]
  ·cases h
 | some f =>
  simp only [optInt]
  refine sG tK ?_
  refine sE ?_
  refine wKd ?_
  try simp only [go_sem,gA,gB,gC]
  refine wG tK ?_
  refine wD (fun h => ?_) (fun h => ?_)
  ·cases h
  refine wGq tK ?_ ?_ (by simp only [go_sem,ZD]; try exact rfl)
  ·simp [ZD]
  refine wD (fun h => ?_) (fun h => ?_)
  ·have hf : ¬ f = a.fid := by simpa using h
   refine wGq tK ?_ ?_ (by simp only [go_sem,ZN]; try exact rfl)
   ·simp [ZN]
   refine wU ?_ (hold2 ?_ ?_)
   ·simp [ZN,hf]
   ·simp [go_sem,ZD]
   ·simp [go_sem]
  ·have hf : f = a.fid := by simpa using h
   refine wGq tK ?_ ?_ (by simp only [go_sem,ZN]; try exact rfl)
   ·simp [ZN]
   refine wU ?_ (hold2 ?_ ?_)
   ·simp [ZN,hf]
   ·simp [go_sem,ZD]
   ·simp [go_sem]
def makeE (l : List Node) (a : Act) : Int := if dirE l a.dir = 0 then (if roomE (Yg l a.dir) a.name = 0 then (if (isAt l a.fid || a.fid == 0) = true then 13 else if l.length ≥ 24 then 5 else 0) else roomE (Yg l a.dir) a.name) else dirE l a.dir
def madeN (a : Act) (v : Int) : Node := ⟨a.fid,a.kind == 2,[],[],v⟩
def makeL (l : List Node) (a : Act) (v : Int) : List Node := if makeE l a = 0 then Yu (Yu l { Ye (Yg l a.dir) a.name a.fid with version := v }) (madeN a v) else l
theorem make_ok (l : List Node) (a : Act) (v : Int) (hl : Small l) (hlen : l.length ≤ 99999990) (hent : ∀ n,n ∈ l → n.entries.length ≤ 99999990) (hname : a.name.length ≤ 100000000) (G Y N : Nat → Nat) : FnOK Tryz.prog 53 [.ptr 15 9 0 0] (dH (ZD l a v) G Y N)
  (fun r H => r = .int .i64 (makeE l a) ∧ ∀ i b,Yk (dH (ZD (makeL l a v) a v) G Y N) i = some b → Yk H i = some b) := by
 have hsm : (Yg l a.dir).Small := hl.find a.dir
 have hen : (Yg l a.dir).entries.length ≤ 99999999 := by
  unfold Yg
  cases e : Yf l a.dir with
  | none => simp [Yz]
  | some n => have := hent n (findN_mem e); simp only [Option.getD_some]; omega
 have hmE : makeL l a v = if makeE l a = 0 then Yu (Yu l { Ye (Yg l a.dir) a.name a.fid with version := v }) (madeN a v) else l := rfl
 rw [hmE]
 unfold makeE
 unfold dH
 refine ZF tK (Tryz.func53) rfl (fun C => ?_)
 simp only [Tryz.ntmps53,Tryz.results53,go_sem]
 refine wGq tK ?_ ?_ (by simp only [go_sem,ZD]; try exact rfl)
 ·simp [ZD]
 refine wP [15] Tryz.func88 (hf := (dir_ok l a v a.dir hl)) (hk := ?_)
 have hee := enter_ok (Yg l a.dir) a.name a.fid hsm
 have hes := enterN_small hsm a.name a.fid hen
 have hsv : ({ Ye (Yg l a.dir) a.name a.fid with version := v } : Node).Small := ⟨hes.data,hes.entries⟩
 have hl1 := putN_small hl hsv (by omega)
 have hp1 := put_in l a v (Ye (Yg l a.dir) a.name a.fid) hl hes
 have hp2 := put_in (Yu l { Ye (Yg l a.dir) a.name a.fid with version := v }) a v (madeN a 0) hl1 ⟨by simp [madeN],by simp [madeN]⟩
 have hmv : ({ madeN a 0 with version := v } : Node) = madeN a v := rfl
 rw [hmv] at hp2
 generalize Yu (Yu l { Ye (Yg l a.dir) a.name a.fid with version := v }) (madeN a v) = l2 at hp2
 generalize Yu l { Ye (Yg l a.dir) a.name a.fid with version := v } = l1 at hp1 hp2 hl1
 have hp3 : ∀ (G Y N : Nat → Nat),FnOK Tryz.prog 90 [.ptr 15 9 0 0,.agg [.int .i64 a.fid,.bool (a.kind == 2),.nils,.nils,.int .i64 0]] (dH (ZD l1 a v) G Y N) (fun r H => r = .tup [] ∧ ∀ i b,Yk (dH (ZD l2 a v) G Y N) i = some b → Yk H i = some b) := fun G Y N => FnOK.nrm rfl (hp2 G Y N)
 generalize Ye (Yg l a.dir) a.name a.fid = en at hee hp1
 generalize hgn : Yg l a.dir = n at hsm hee
 generalize hge : dirE l a.dir = e
 refine wGq tK ?_ ?_ (by simp only [go_sem,ZN]; try exact rfl)
 ·simp [ZN]
 refine wD (fun h => ?_) (fun h => ?_)
 ·have he : e ≠ 0 := by simpa using h
  refine wG tK ?_
  refine wU ?_ (hold2 ?_ ?_)
  ·simp [he]
  ·simp [go_sem,ZD,he]
  ·simp [go_sem]
 have he : e = 0 := by simpa using h
 subst he
 simp only [if_true]
 refine wG tK ?_
 refine ZW ZM ?_
 refine ZS rfl ?_
 refine sNq tK 6 ?_ ?_ (h := by simp only [go_sem,ZN,ZD]; try exact rfl)
 ·simp [ZN,ZD]
 refine sC Tryz.func89 (hf := (room_ok n a.name hsm hname)) (hk := ?_)
 generalize hre : roomE n a.name = e2
 refine sG tK ?_
 refine sE ?_
 refine wKd ?_
 try simp only [go_sem,gA,gB,gC]
 refine wG tK ?_
 refine wD (fun h => ?_) (fun h => ?_)
 ·have he : e2 ≠ 0 := by simpa using h
  refine wG tK ?_
  refine wU ?_ (hold2 ?_ ?_)
  ·simp [he]
  ·simp [go_sem,ZD,he]
  ·simp [go_sem]
 have he : e2 = 0 := by simpa using h
 subst he
 simp only [if_true]
 refine wG tK ?_
 refine ZW ZM ?_
 refine ZS rfl ?_
 refine sNq tK 9 ?_ ?_ (h := by simp only [go_sem,ZD]; try exact rfl)
 ·simp [ZD]
 refine sC Tryz.func47 (hf := (find_ok l a.fid hl)) (hk := ?_)
 simp only [go_sem,findR]
 generalize (Yf l a.fid).getD Yz = x
 generalize isAt l a.fid = z
 refine sG tK ?_
 refine sW tK ?_
 simp only [go_sem,ZN]
 refine sT tK ?_
 refine sE ?_
 refine dS tK ?_
 refine wKd ?_
 try simp only [go_sem,gA,gB,gC]
 refine wR ?_
 refine wN tK 1 ?_
 refine Yn 44 (by simp only [go_sem]; exact rfl) (fun c44 h44 => ?_)
 simp only [go_sem]
 subst h44
 cases hz : (z || a.fid == 0) with
 | true =>
  refine wNq tK 8 ?_ ?_ (h := by simp only [go_sem,ZD]; try exact rfl)
  ·cases z <;> simp [ZD]
  have hb : (bif z then true else a.fid == 0) = true := by rw [← hz]; cases z <;> rfl
  simp only [go_sem,hb]
  refine wG tK ?_
  refine wD (fun h => ?_) (fun h => ?_)
  ·refine wG tK ?_
   refine wU ?_ (hold2 ?_ ?_)
   ·simp
   ·simp [go_sem,ZD]
   ·simp [go_sem]
  ·cases h
 | false =>
  refine wNq tK 8 ?_ ?_ (h := by simp only [go_sem,ZD]; try exact rfl)
  ·cases z <;> simp [ZD]
  have hb : (bif z then true else a.fid == 0) = false := by rw [← hz]; cases z <;> rfl
  simp only [go_sem,hb]
  refine wG tK ?_
  refine wD (fun h => ?_) (fun h => ?_)
  ·cases h
  refine wGq tK ?_ ?_ (by simp only [go_sem,ZD]; try exact rfl)
  ·simp [ZD]
  refine wD (fun h => ?_) (fun h => ?_)
  ·have h24 : l.length ≥ 24 := by simp at h; omega
   refine wG tK ?_
   refine wU ?_ (hold2 ?_ ?_)
   ·simp [h24]
   ·simp [go_sem,ZD,h24]
   ·simp [go_sem]
  have h24 : ¬ l.length ≥ 24 := by simp at h; omega
  simp only [h24,if_false,if_true]
  refine wG tK ?_
  refine ZW ZM ?_
  refine ZS rfl ?_
  refine sNq tK 12 ?_ ?_ (h := by simp only [go_sem,ZN,ZD]; try exact rfl)
  ·simp [ZN,ZD]
  refine sC Tryz.func91 (hf := (hee)) (hk := ?_)
  refine sE ?_
  refine draw_trip rfl (by kernel_rfl) rfl (wTP [15] Tryz.func90 (hf := (hp1))) rfl ?_
  refine wKd ?_
  try simp only [go_sem,gA,gB,gC]
  refine wG tK ?_
  refine ZW ZM ?_
  refine ZS rfl ?_
  refine sNq tK 12 ?_ ?_ (h := by simp only [go_sem,ZN,ZD]; try exact rfl)
  ·simp [ZN,ZD]
  refine sB tK ?_
  refine sE ?_
  refine draw_trip rfl (by kernel_rfl) rfl (wTP [15] Tryz.func90 (hf := (hp3))) rfl ?_
  refine wKd ?_
  try simp only [go_sem,gA,gB,gC]
  refine wG tK ?_
  refine wU ?_ (hold2 ?_ ?_)
  ·simp
  ·simp [go_sem]
  ·simp [go_sem]
def removeE (l : List Node) (a : Act) : Int := if namedE l a = 0 then (match Yf l a.fid with
 | none => 12
 | some x => if x.entries.length > 0 then 10 else 0) else namedE l a
def removeL (l : List Node) (a : Act) (v : Int) : List Node := if removeE l a = 0 then dropN (Yu l { Yv (Yg l a.dir) a.name with version := v }) a.fid else l
theorem remove_ok (l : List Node) (a : Act) (v : Int) (hl : Small l) (hlen : l.length ≤ 99999990) (hname : a.name.length ≤ 100000000) (G Y N : Nat → Nat) : FnOK Tryz.prog 55 [.ptr 15 9 0 0] (dH (ZD l a v) G Y N)
  (fun r H => r = .int .i64 (removeE l a) ∧ ∀ i b,Yk (dH (ZD (removeL l a v) a v) G Y N) i = some b → Yk H i = some b) := by
 have hsm : (Yg l a.dir).Small := hl.find a.dir
 have hmE : removeL l a v = if removeE l a = 0 then dropN (Yu l { Yv (Yg l a.dir) a.name with version := v }) a.fid else l := rfl
 rw [hmE]
 unfold removeE
 unfold dH
 refine ZF tK (Tryz.func55) rfl (fun C => ?_)
 simp only [Tryz.ntmps55,Tryz.results55,go_sem]
 refine wG tK ?_
 refine wP [15] Tryz.func92 (hf := (named_ok l a v hl hname)) (hk := ?_)
 have hee := leave_ok (Yg l a.dir) a.name hsm
 have hes := leaveN_small hsm a.name
 have hsv : ({ Yv (Yg l a.dir) a.name with version := v } : Node).Small := ⟨hes.data,hes.entries⟩
 have hl1 := putN_small hl hsv (by omega)
 have hp1 := put_in l a v (Yv (Yg l a.dir) a.name) hl hes
 have hp2 := drop_ok (Yu l { Yv (Yg l a.dir) a.name with version := v }) a.fid hl1
 generalize dropN (Yu l { Yv (Yg l a.dir) a.name with version := v }) a.fid = l2 at hp2
 generalize Yu l { Yv (Yg l a.dir) a.name with version := v } = l1 at hp1 hp2 hl1
 generalize Yv (Yg l a.dir) a.name = en at hee hp1
 generalize hgn : Yg l a.dir = n at hsm hee
 generalize hge : namedE l a = e
 refine wGq tK ?_ ?_ (by simp only [go_sem,ZN]; try exact rfl)
 ·simp [ZN]
 refine wD (fun h => ?_) (fun h => ?_)
 ·have he : e ≠ 0 := by simpa using h
  refine wG tK ?_
  refine wU ?_ (hold2 ?_ ?_)
  ·simp [he]
  ·simp [go_sem,ZD,he]
  ·simp [go_sem]
 have he : e = 0 := by simpa using h
 subst he
 simp only [if_true]
 refine wG tK ?_
 refine ZW ZM ?_
 refine ZS rfl ?_
 refine sNq tK 9 ?_ ?_ (h := by simp only [go_sem,ZD]; try exact rfl)
 ·simp [ZD]
 refine sC Tryz.func47 (hf := (find_ok l a.fid hl)) (hk := ?_)
 simp only [go_sem,findR]
 rw [isAt_eq]
 cases hfd : Yf l a.fid with
 | none =>
  simp only [Option.getD_none,Option.isSome_none]
  refine sG tK ?_
  refine sW tK ?_
  simp only [go_sem,ZN,Yz]
  refine sT tK ?_
  refine sE ?_
  refine dS tK ?_
  refine wKd ?_
  try simp only [go_sem,gA,gB,gC]
  refine wG tK ?_
  refine wD (fun h => ?_) (fun h => ?_)
  ·refine wG tK ?_
   refine wU ?_ (hold2 ?_ ?_)
   ·simp
   ·simp [go_sem,ZD]
   ·simp [go_sem]
  ·cases h
 | some x =>
  simp only [Option.getD_some,Option.isSome_some]
  refine sG tK ?_
  refine sW tK ?_
  simp only [go_sem,ZN]
  refine sT tK ?_
  refine sE ?_
  refine dS tK ?_
  refine wKd ?_
  try simp only [go_sem,gA,gB,gC]
  refine wG tK ?_
  refine wD (fun h => ?_) (fun h => ?_)
  ·cases h
  refine wG tK ?_
  refine wD (fun h => ?_) (fun h => ?_)
  ·have h0 : x.entries.length > 0 := by have h2 := of_decide_eq_true h; omega
   refine wG tK ?_
   refine wU ?_ (hold2 ?_ ?_)
   ·simp [h0]
   ·simp [go_sem,ZD,h0]
   ·simp [go_sem]
  have h0 : ¬ x.entries.length > 0 := by have h2 := of_decide_eq_false h; omega
  simp only [h0,if_false,if_true]
  refine wG tK ?_
  refine ZW ZM ?_
  refine ZS rfl ?_
  refine sNq tK 7 ?_ ?_ (h := by simp only [go_sem,ZN,ZD]; try exact rfl)
  ·simp [ZN,ZD]
  refine sC Tryz.func93 (hf := (hee)) (hk := ?_)
  refine sE ?_
  refine draw_trip rfl (by kernel_rfl) rfl (wTP [15] Tryz.func90 (hf := (hp1))) rfl ?_
  refine wKd ?_
  try simp only [go_sem,gA,gB,gC]
  refine wG tK ?_
  refine ZW ZM ?_
  refine ZS rfl ?_
  refine sNq tK 10 ?_ ?_ (h := by simp only [go_sem,ZD]; try exact rfl)
  ·simp [ZD]
  refine sC Tryz.func94 (hf := (hp2)) (hk := ?_)
  refine sNq tK 2 ?_ ?_ (h := by simp only [go_sem,ZD]; try exact rfl)
  ·simp [ZD]
  refine sE ?_
  refine dSq tK ?_ ?_
  ·simp [go_sem,ZD]
  refine wKd ?_
  try simp only [go_sem,gA,gB,gC]
  refine wG tK ?_
  refine wU ?_ (hold2 ?_ ?_)
  ·simp
  ·simp [go_sem,ZD]
  ·simp [go_sem]
def storeE (l : List Node) (a : Act) : Int := match Yf l a.fid with
 | none => 12
 | some n => if n.dir then 9 else if a.data.length > 20 then 4 else 0
def storeL (l : List Node) (a : Act) (v : Int) : List Node := if storeE l a = 0 then Yu l { Yg l a.fid with data := a.data,version := v } else l
theorem store_ok (l : List Node) (a : Act) (v : Int) (hl : Small l) (ha : a.data.length ≤ 100000000) (G Y N : Nat → Nat) : FnOK Tryz.prog 54 [.ptr 15 9 0 0] (dH (ZD l a v) G Y N)
  (fun r H => r = .int .i64 (storeE l a) ∧ ∀ i b,Yk (dH (ZD (storeL l a v) a v) G Y N) i = some b → Yk H i = some b) := by
 have hsm : (Yg l a.fid).Small := hl.find a.fid
 have hmE : storeL l a v = if storeE l a = 0 then Yu l { Yg l a.fid with data := a.data,version := v } else l := rfl
 rw [hmE]
 have hp1 := put_in l a v { Yg l a.fid with data := a.data } hl ⟨ha,hsm.entries⟩
 have hlet : ({ ({ Yg l a.fid with data := a.data } : Node) with version := v } : Node) = { Yg l a.fid with data := a.data,version := v } := rfl
 rw [hlet] at hp1
 generalize Yu l { Yg l a.fid with data := a.data,version := v } = l2 at hp1
 unfold storeE
 unfold Yg at hp1
 unfold dH
 refine ZF tK (Tryz.func54) rfl (fun C => ?_)
 simp only [Tryz.ntmps54,Tryz.results54,go_sem]
 refine wG tK ?_
 refine ZW ZM ?_
 refine ZS rfl ?_
 refine sNq tK 9 ?_ ?_ (h := by simp only [go_sem,ZD]; try exact rfl)
 ·simp [ZD]
 refine sC Tryz.func47 (hf := (find_ok l a.fid hl)) (hk := ?_)
 simp only [go_sem,findR]
 rw [isAt_eq]
 cases hfd : Yf l a.fid with
 | none =>
  simp only [Option.getD_none,Option.isSome_none]
  refine sG tK ?_
  refine sW tK ?_
  simp only [go_sem,ZN,Yz]
  refine sT tK ?_
  refine sE ?_
  refine dS tK ?_
  refine wKd ?_
  try simp only [go_sem,gA,gB,gC]
  refine wG tK ?_
  refine wD (fun h => ?_) (fun h => ?_)
  ·refine wG tK ?_
   refine wU ?_ (hold2 ?_ ?_)
   ·simp
   ·simp [go_sem,ZD]
   ·simp [go_sem]
  ·cases h
 | some x =>
  rw [hfd] at hp1
  simp only [Option.getD_some,Option.isSome_some] at hp1 ⊢
  refine sG tK ?_
  refine sW tK ?_
  simp only [go_sem,ZN]
  refine sT tK ?_
  refine sE ?_
  refine dS tK ?_
  refine wKd ?_
  try simp only [go_sem,gA,gB,gC]
  refine wG tK ?_
  refine wD (fun h => ?_) (fun h => ?_)
  ·cases h
  refine wG tK ?_
  refine wD (fun h => ?_) (fun h => ?_)
  ·have h0 : x.dir = true := h
   refine wG tK ?_
   refine wU ?_ (hold2 ?_ ?_)
   ·simp [h0]
   ·simp [go_sem,ZD,h0]
   ·simp [go_sem]
  have h0 : x.dir = false := h
  refine wGq tK ?_ ?_ (by simp only [go_sem,ZD]; try exact rfl)
  ·simp [ZD]
  refine wD (fun h => ?_) (fun h => ?_)
  ·have h1 : a.data.length > 20 := by simp at h; omega
   refine wG tK ?_
   refine wU ?_ (hold2 ?_ ?_)
   ·simp [h0,h1]
   ·simp [go_sem,ZD,h0,h1]
   ·simp [go_sem]
  have h1 : ¬ a.data.length > 20 := by simp at h; omega
  have hs0 : (if x.dir = true then (9 : Int) else if a.data.length > 20 then 4 else 0) = 0 := by simp [h0,h1]
  simp only [hs0,if_true]
  refine wGq tK ?_ ?_ (by simp only [go_sem,ZD]; try exact rfl)
  ·simp [ZD]
  refine wP [15] Tryz.func90 (hf := (hp1)) (hk := ?_)
  refine wG tK ?_
  refine wU ?_ (hold2 ?_ ?_)
  ·simp
  ·simp [go_sem,ZD]
  ·simp [go_sem]
def sameT (v : Bool) : List Node → List Node → Bool
 | [],[] => true
 | x :: a,y :: b => sameN v x y && sameT v a b
 | _,_ => false
theorem sameT_iff (v : Bool) : ∀ (a b : List Node),sameT v a b = true ↔ a.length = b.length ∧ ∀ j,j < a.length → sameN v (a.getD j default) (b.getD j default) = true
 | [],[] => by simp [sameT]
 | [],_ :: _ => by simp [sameT]
 | _ :: _,[] => by simp [sameT]
 | x :: a,y :: b => by
  rw [sameT,Bool.and_eq_true,sameT_iff v a b]
  constructor
  ·rintro ⟨h1,h2,h3⟩
   refine ⟨by simp [h2],fun j hj => ?_⟩
   cases j with
   | zero => simpa using h1
   | succ j => simpa using h3 j (by simpa using hj)
  ·rintro ⟨h2,h3⟩
   refine ⟨by simpa using h3 0 (by simp),by simpa using h2,fun j hj => by simpa using h3 (j + 1) (by simpa using hj)⟩
theorem same_ok (a b : List Node) (v : Bool) (ha : Small a) (hb : Small b) : FnOK Tryz.prog 19 [.sl (a.map ZN),.sl (b.map ZN),.bool v] [] (fun r _ => r = .bool (sameT v a b)) := by
 have hla := ha.len
 have hlb := hb.len
 refine ZF tK (Tryz.func19) rfl (fun C => ?_)
 simp only [Tryz.ntmps19,Tryz.results19,go_sem]
 refine wG tK ?_
 refine wD (fun h => ?_) (fun h => ?_)
 ·have hne : sameT v a b = false := by
   cases e : sameT v a b with
   | false => rfl
   | true => have := ((sameT_iff v a b).1 e).1; simp [this] at h
  refine wG tK ?_
  refine wT ?_
  simp [hne]
 have hl : a.length = b.length := by simp at h; omega
 refine wG tK ?_
 refine ZL (fun i : Nat => i ≤ a.length ∧ ∀ j,j < i → sameN v (a.getD j default) (b.getD j default) = true) (fun i => a.length - i) (fun i => [(7,.any),(15,.int .i64 i),(16,.any),(17,.any),(18,.any),(19,.any),(20,.any),(21,.any),(22,.any),(23,.any),(24,.any),(25,.any),(26,.any),(27,.any),(28,.any),(29,.any)]) (fun _ => []) 0 ⟨by omega,by omega⟩ ?_ fun i hi => ?_
 ·simp only [go_sem]
  exact ZU (by simp [go_sem]) (by simp [go_sem]) (by simp [go_sem])
 obtain ⟨hi,hs⟩ := hi
 simp only [go_sem]
 refine wG tK ?_
 refine wD (fun h => ?_) (fun h => ?_)
 ·have hlt : i < a.length := by simp at h; omega
  have hltb : i < b.length := by omega
  have hga : (a.map ZN).getD i [] = ZN (a.getD i default) := Fam.getD hlt
  have hgb : (b.map ZN).getD i [] = ZN (b.getD i default) := Fam.getD hltb
  have hsm := sameNode_ok _ _ v (ha.each _ (YG hlt)) (hb.each _ (YG hltb))
  have hno : sameN v (a.getD i default) (b.getD i default) = false → sameT v a b = false := fun h0 => by
   cases e : sameT v a b with
   | false => rfl
   | true => rw [((sameT_iff v a b).1 e).2 i hlt] at h0; cases h0
  have hyes : sameN v (a.getD i default) (b.getD i default) = true → ∀ j,j < i + 1 → sameN v (a.getD j default) (b.getD j default) = true := fun h0 j hj => by
   rcases Nat.lt_succ_iff_lt_or_eq.1 hj with h1 | rfl
   ·exact hs j h1
   ·exact h0
  clear hs
  generalize a.getD i default = x at hga hsm hno hyes
  generalize b.getD i default = y at hgb hsm hno hyes
  refine wG tK ?_
  refine ZW ZM ?_
  refine ZS rfl ?_
  refine sNq tK 9 ?_ ?_ (h := by simp only [go_sem,hga,hgb,ZN]; try exact rfl)
  ·simp [hga,hgb,ZN,hlt,hltb]
  refine sC Tryz.func41 (hf := (hsm)) (hk := ?_)
  refine sG tK ?_
  refine sE ?_
  refine wKd ?_
  refine wD (fun h => ?_) (fun h => ?_)
  ·have h0 : sameN v x y = false := by simpa using h
   have := hno h0
   refine wG tK ?_
   refine wT ?_
   simp [this]
  ·have h0 : sameN v x y = true := by simpa using h
   have hw := wi1 (i := i) (by omega)
   refine wG tK ?_ (by simp only [go_sem,hw]; try exact rfl) (by simp [go_sem,hw])
   refine ZB ⟨i + 1,⟨by omega,hyes h0⟩,by omega,ZU ?_ ?_ ?_⟩
   ·simp [go_sem]
   ·simp [go_sem]
   ·simp [go_sem]
 ·have e : i = a.length := by simp at h; omega
  subst e
  have hab : sameT v a b = true := (sameT_iff v a b).2 ⟨hl,hs⟩
  refine wG tK ?_
  refine wT ?_
  simp [hab]
def Zi (l : List Node) (fid : Int) : Nat → Int → Option Bool
 | 0,_ => none
 | f + 1,k => if fid = k then some true else match Yf l k with
  | none => some false
  | some n => if n.entries.all (fun e => decide (e.fid = k) || (Zi l fid f e.fid).isSome) then some (n.entries.any fun e => !(decide (e.fid = k)) && (Zi l fid f e.fid).getD false) else none
theorem withinIs_ok (l : List Node) (fid k : Int) (e : Entry) (b : Bool) (h : e.fid ≠ k → FnOK Tryz.prog 95 [.sl (l.map ZN),.int .i64 fid,.int .i64 e.fid] [] (fun r _ => r = .bool b)) :
  FnOK Tryz.prog 121 [.agg (ZE e),.rp [.int .i64 k] 0,.rp [.sl (l.map ZN)] 0,.rp [.int .i64 fid] 0] [] (fun r _ => r = .bool (!(decide (e.fid = k)) && b)) := by
 unfold ZE
 refine ZF tK (Tryz.func121) rfl (fun C => ?_)
 simp only [Tryz.ntmps121,Tryz.results121,go_sem]
 refine wR ?_
 refine wN tK 2 ?_
 refine wR ?_
 refine ZZ 4 rfl (rfl) ?_
 simp only [go_sem]
 refine wN tK 4 ?_
 refine Yn 9 (by simp only [go_sem]; exact rfl) (fun c9 h9 => ?_)
 simp only [go_sem]
 cases c9 with
 | true =>
  have hne : e.fid ≠ k := by simpa using h9
  refine wG tK ?_
  refine wCC Tryz.func95 (hf := fun hb => (h hne)) (hk := ?_)
  refine wG tK ?_
  refine wT ?_
  simp [hne]
 | false =>
  have hne : e.fid = k := by simpa using h9
  refine wG tK ?_
  refine cw_pass (.bool false) rfl ?_
  simp only [go_sem]
  refine wG tK ?_
  refine wT ?_
  simp [hne]
theorem within_step (l : List Node) (hl : Small l) (fid : Int) (f : Nat) (ih : ∀ (k : Int) (b : Bool),Zi l fid f k = some b → FnOK Tryz.prog 95 [.sl (l.map ZN),.int .i64 fid,.int .i64 k] [] (fun r _ => r = .bool b)) (k : Int) (b : Bool) (hb : Zi l fid (f + 1) k = some b) :
  FnOK Tryz.prog 95 [.sl (l.map ZN),.int .i64 fid,.int .i64 k] [] (fun r _ => r = .bool b) := by
 unfold Zi at hb
 refine ZF tK (Tryz.func95) rfl (fun C => ?_)
 simp only [Tryz.ntmps95,Tryz.results95,go_sem]
 refine wG tK ?_
 refine wD (fun h => ?_) (fun h => ?_)
 ·have e : fid = k := by simpa using h
  rw [if_pos e] at hb
  refine wG tK ?_
  refine wT ?_
  simpa using hb
 have e : ¬ fid = k := by simpa using h
 rw [if_neg e] at hb
 refine ZZ 3 rfl (rfl) ?_
 refine ZZ 4 rfl (rfl) ?_
 refine ZZ 5 rfl (rfl) ?_
 simp only [go_sem]
 refine wG tK ?_
 refine wC Tryz.func47 (hf := (find_ok l k hl)) (hk := ?_)
 have hsm := hl.find k
 simp only [go_sem,findR]
 rw [isAt_eq]
 generalize hfd : Yf l k = o at hb hsm
 cases o with
 | none =>
  simp only [Option.getD_none,Option.isSome_none] at hb ⊢
  refine wGq tK ?_ ?_ (by simp only [go_sem,ZN,Yz]; try exact rfl)
  ·simp [ZN]
  refine wD (fun h => ?_) (fun h => ?_)
  ·refine wG tK ?_
   refine wT ?_
   simpa using hb
  ·cases h
 | some n =>
  simp only [Option.getD_some,Option.isSome_some] at hb hsm ⊢
  split at hb
  ·rename_i hall
   injection hb with hb
   have hcl := entry_containsFunc n.entries hsm.entries (f := 121) (caps := [.rp [.int .i64 k] 0,.rp [.sl (l.map ZN)] 0,.rp [.int .i64 fid] 0]) (p := fun e => !(decide (e.fid = k)) && (Zi l fid f e.fid).getD false) ⟨_,Go.Proofs.Tryz.func121,by kernel_rfl,rfl⟩ rfl (fun x hx => withinIs_ok l fid k x ((Zi l fid f x.fid).getD false) (fun hne => by
    have h1 := List.all_eq_true.1 hall x hx
    simp only [hne,decide_false,Bool.false_or] at h1
    cases h2 : Zi l fid f x.fid with
    | none => rw [h2] at h1; cases h1
    | some c => exact ih x.fid c h2))
   refine wGq tK ?_ ?_ (by simp only [go_sem,ZN]; try exact rfl)
   ·simp [ZN]
   refine wD (fun h => ?_) (fun h => ?_)
   ·cases h
   refine wGq tK ?_ ?_ (by simp only [go_sem,ZN]; try exact rfl)
   ·simp [ZN]
   refine wC Tryz.func120 (hf := (hcl)) (hk := ?_)
   refine wG tK ?_
   refine wT ?_
   simpa using hb
  ·cases hb
theorem within_ok (l : List Node) (hl : Small l) (fid : Int) : ∀ (f : Nat) (k : Int) (b : Bool),Zi l fid f k = some b → FnOK Tryz.prog 95 [.sl (l.map ZN),.int .i64 fid,.int .i64 k] [] (fun r _ => r = .bool b)
 | 0,_,_,h => by cases h
 | f + 1,k,b,h => within_step l hl fid f (within_ok l hl fid f) k b h
end La
namespace La
open Go Go.Eng Go.Proofs
open Classical in
noncomputable def withinB (l : List Node) (fid k : Int) : Bool := decide (∃ f,Zi l fid f k = some true)
def toN (l : List Node) (a : Act) : Node := if a.to = a.dir then Yv (Yg l a.dir) a.name else Yg l a.to
noncomputable def renameE (l : List Node) (a : Act) : Int := if namedE l a = 0 then (if dirE l a.to = 0 then (if roomE (toN l a) a.toName = 0 then (if isAt l a.fid = true then (if withinB l a.to a.fid = true then 11 else 0) else 12) else roomE (toN l a) a.toName) else dirE l a.to) else namedE l a
noncomputable def renameL (l : List Node) (a : Act) (v : Int) : List Node := if renameE l a = 0 then Yu (if a.to = a.dir then l else Yu l { Yv (Yg l a.dir) a.name with version := v }) { Ye (toN l a) a.toName a.fid with version := v } else l
noncomputable def Yb (l : List Node) (a : Act) : Int := if a.kind = 1 then makeE l a else if a.kind = 2 then makeE l a else if a.kind = 3 then storeE l a else if a.kind = 4 then removeE l a else if a.kind = 5 then renameE l a else 1
noncomputable def Yj (l : List Node) (a : Act) (v : Int) : List Node := if a.kind = 1 then makeL l a v else if a.kind = 2 then makeL l a v else if a.kind = 3 then storeL l a v else if a.kind = 4 then removeL l a v else if a.kind = 5 then renameL l a v else l
noncomputable def applyR (l : List Node) (a : Act) (v : Int) : AV := if Yb l a = 0 then .tup [.sl ((Yj l a v).map ZN),.int .i64 0] else .tup [.sl [],.int .i64 (Yb l a)]
structure FitA (l : List Node) (a : Act) : Prop where
 small : Small l
 len : l.length ≤ 99999990
 ent : ∀ n,n ∈ l → n.entries.length ≤ 99999990
 name : a.name.length ≤ 100000000
 toName : a.toName.length ≤ 100000000
 data : a.data.length ≤ 100000000
theorem apply_raw (l : List Node) (a : Act) (v : Int) (hf : FitA l a)
  (hren : a.kind = 5 → ∀ (G Y N : Nat → Nat),FnOK Tryz.prog 56 [.ptr 15 9 0 0] (dH (ZD l a v) G Y N) (fun r H => r = .int .i64 (renameE l a) ∧ ∀ i b,Yk (dH (ZD (renameL l a v) a v) G Y N) i = some b → Yk H i = some b)) :
  FnOK Tryz.prog 34 [.sl (l.map ZN),.agg (ZA a),.int .i64 v] [] (fun r _ => r = if Yb l a = 0 then .tup [.sl ((Yj l a v).map ZN),.int .i64 0] else .tup [.nils,.int .i64 (Yb l a)]) := by
 have hl := hf.small
 have c1 := make_ok l a v hl hf.len hf.ent hf.name
 have c3 := store_ok l a v hl hf.data
 have c4 := remove_ok l a v hl hf.len hf.name
 generalize hE : Yb l a = e
 generalize hL : Yj l a v = L
 refine ZF tK (Tryz.func34) rfl (fun C => ?_)
 simp only [Tryz.ntmps34,Tryz.results34,go_sem]
 refine wGq tK ?_ ?_ (by simp only [go_sem,ZA]; try exact rfl)
 ·simp
 refine ZZ 4 rfl (rfl) ?_
 simp only [go_sem]
 refine ZW ZM ?_
 refine ZS rfl ?_
 refine sG tK ?_
 refine sC Tryz.func38 (hf := (own_ok l hl)) (hk := ?_)
 refine sN tK 2 ?_ (h := by simp only [go_sem,ZA]; try exact rfl) (hp := by simp [go_sem,ZA])
 refine sB tK ?_
 refine sW tK ?_
 refine sE ?_
 refine dS tK ?_
 refine wKd ?_
 try simp only [go_sem,gA,gB,gC]
 refine wG tK ?_
 refine wD (fun h => ?_) (fun h => ?_)
 ·have hk : a.kind = 1 := by simpa using h
  have q1 : makeE l a = e := by rw [← hE]; simp [Yb,hk]
  have q2 : makeL l a v = L := by rw [← hL]; simp [Yj,hk]
  rw [q1,q2] at c1
  refine wG tK ?_
  refine wDT (hb := by simp [hk]) (hk := ?_)
  refine wG tK ?_
  refine wP [15] Tryz.func53 (hf := (c1)) (hk := ?_)
  refine wG tK ?_
  refine wD (fun h => ?_) (fun h => ?_)
  ·have he : e ≠ 0 := by simpa using h
   refine wG tK ?_
   refine wT ?_
   simp [he]
  ·have he : e = 0 := by simpa using h
   refine wGq tK ?_ ?_ (by simp only [go_sem,ZD]; try exact rfl)
   ·simp [ZD]
   refine wT ?_
   simp [he]
 have hk1 : ¬ a.kind = 1 := by simpa using h
 refine wG tK ?_
 by_cases hk2 : a.kind = 2
 ·have hk : a.kind = 2 := hk2
  have q1 : makeE l a = e := by rw [← hE]; simp [Yb,hk]
  have q2 : makeL l a v = L := by rw [← hL]; simp [Yj,hk]
  rw [q1,q2] at c1
  refine wDT (hb := by simp [hk]) (hk := ?_)
  refine wG tK ?_
  refine wP [15] Tryz.func53 (hf := (c1)) (hk := ?_)
  refine wG tK ?_
  refine wD (fun h => ?_) (fun h => ?_)
  ·have he : e ≠ 0 := by simpa using h
   refine wG tK ?_
   refine wT ?_
   simp [he]
  ·have he : e = 0 := by simpa using h
   refine wGq tK ?_ ?_ (by simp only [go_sem,ZD]; try exact rfl)
   ·simp [ZD]
   refine wT ?_
   simp [he]
 refine wDF (hb := by simpa using hk2) (hk := ?_)
 refine wG tK ?_
 refine wD (fun h => ?_) (fun h => ?_)
 ·have hk : a.kind = 3 := by simpa using h
  have q1 : storeE l a = e := by rw [← hE]; simp [Yb,hk]
  have q2 : storeL l a v = L := by rw [← hL]; simp [Yj,hk]
  rw [q1,q2] at c3
  refine wG tK ?_
  refine wP [15] Tryz.func54 (hf := (c3)) (hk := ?_)
  refine wG tK ?_
  refine wD (fun h => ?_) (fun h => ?_)
  ·have he : e ≠ 0 := by simpa using h
   refine wG tK ?_
   refine wT ?_
   simp [he]
  ·have he : e = 0 := by simpa using h
   refine wGq tK ?_ ?_ (by simp only [go_sem,ZD]; try exact rfl)
   ·simp [ZD]
   refine wT ?_
   simp [he]
 have hk3 : ¬ a.kind = 3 := by simpa using h
 refine wG tK ?_
 refine wD (fun h => ?_) (fun h => ?_)
 ·have hk : a.kind = 4 := by simpa using h
  have q1 : removeE l a = e := by rw [← hE]; simp [Yb,hk]
  have q2 : removeL l a v = L := by rw [← hL]; simp [Yj,hk]
  rw [q1,q2] at c4
  refine wG tK ?_
  refine wP [15] Tryz.func55 (hf := (c4)) (hk := ?_)
  refine wG tK ?_
  refine wD (fun h => ?_) (fun h => ?_)
  ·have he : e ≠ 0 := by simpa using h
   refine wG tK ?_
   refine wT ?_
   simp [he]
  ·have he : e = 0 := by simpa using h
   refine wGq tK ?_ ?_ (by simp only [go_sem,ZD]; try exact rfl)
   ·simp [ZD]
   refine wT ?_
   simp [he]
 have hk4 : ¬ a.kind = 4 := by simpa using h
 refine wG tK ?_
 refine wD (fun h => ?_) (fun h => ?_)
 ·have hk : a.kind = 5 := by simpa using h
  have c5 := hren hk
  have q1 : renameE l a = e := by rw [← hE]; simp [Yb,hk]
  have q2 : renameL l a v = L := by rw [← hL]; simp [Yj,hk]
  rw [q1,q2] at c5
  refine wG tK ?_
  refine wP [15] Tryz.func56 (hf := (c5)) (hk := ?_)
  refine wG tK ?_
  refine wD (fun h => ?_) (fun h => ?_)
  ·have he : e ≠ 0 := by simpa using h
   refine wG tK ?_
   refine wT ?_
   simp [he]
  ·have he : e = 0 := by simpa using h
   refine wGq tK ?_ ?_ (by simp only [go_sem,ZD]; try exact rfl)
   ·simp [ZD]
   refine wT ?_
   simp [he]
 have hk5 : ¬ a.kind = 5 := by simpa using h
 have q1 : e = 1 := by rw [← hE]; simp [Yb,hk1,hk2,hk3,hk4,hk5]
 subst q1
 refine wG tK ?_
 refine wDT (hb := by simp) (hk := ?_)
 refine wG tK ?_
 refine wT ?_
 simp
theorem apply_ok (l : List Node) (a : Act) (v : Int) (hf : FitA l a)
  (hren : a.kind = 5 → ∀ (G Y N : Nat → Nat),FnOK Tryz.prog 56 [.ptr 15 9 0 0] (dH (ZD l a v) G Y N) (fun r H => r = .int .i64 (renameE l a) ∧ ∀ i b,Yk (dH (ZD (renameL l a v) a v) G Y N) i = some b → Yk H i = some b)) :
  FnOK Tryz.prog 34 [.sl (l.map ZN),.agg (ZA a),.int .i64 v] [] (fun r _ => r = applyR l a v) := by
 refine FnOK.nrmR (apply_raw l a v hf hren) ?_
 unfold applyR
 split
 ·have h1 : nrmR ((Yj l a v).map ZN) = (Yj l a v).map ZN := by
   rw [nrmR_map,List.map_map]
   exact List.map_congr_left fun n _ => nrm_nodeRow n
  simp only [nrm,nrmL,h1]
 ·rfl
end La
namespace La
open Go Go.Eng Go.Proofs
theorem withinF_step (l : List Node) (fid : Int) : ∀ (f : Nat) (k : Int) (b : Bool),Zi l fid f k = some b → Zi l fid (f + 1) k = some b
 | 0,_,_,h => by cases h
 | f + 1,k,b,h => by
  rw [Zi] at h ⊢
  by_cases hk : fid = k
  ·rw [if_pos hk] at h ⊢; exact h
  ·rw [if_neg hk] at h ⊢
   cases e : Yf l k with
   | none => rw [e] at h; exact h
   | some n =>
    rw [e] at h
    simp only at h ⊢
    split at h
    ·rename_i hall
     injection h with h
     have key : ∀ x,x ∈ n.entries → decide (x.fid = k) = false → Zi l fid (f + 1) x.fid = Zi l fid f x.fid := fun x hx hne => by
      have h1 := List.all_eq_true.1 hall x hx
      rw [hne,Bool.false_or] at h1
      cases h2 : Zi l fid f x.fid with
      | none => rw [h2] at h1; cases h1
      | some c => exact withinF_step l fid f x.fid c h2
     rw [if_pos (List.all_eq_true.2 fun x hx => by
      cases hne : decide (x.fid = k) with
      | true => rfl
      | false => rw [key x hx hne,← hne]; exact List.all_eq_true.1 hall x hx),← h]
     congr 1
     rw [Bool.eq_iff_iff,List.any_eq_true,List.any_eq_true]
     constructor
     ·rintro ⟨x,hx,h3⟩
      refine ⟨x,hx,?_⟩
      cases hne : decide (x.fid = k) with
      | true => rw [hne] at h3; exact h3
      | false => rw [key x hx hne,hne] at h3; exact h3
     ·rintro ⟨x,hx,h3⟩
      refine ⟨x,hx,?_⟩
      cases hne : decide (x.fid = k) with
      | true => rw [hne] at h3; exact h3
      | false => rw [hne] at h3; rw [key x hx hne]; exact h3
    ·cases h
theorem withinF_le {l : List Node} {fid k : Int} {b : Bool} {f g : Nat} (hfg : f ≤ g) (h : Zi l fid f k = some b) : Zi l fid g k = some b := by
 obtain ⟨d,rfl⟩ := Nat.exists_eq_add_of_le hfg
 clear hfg
 induction d with
 | zero => exact h
 | succ d ih => exact withinF_step l fid _ k b ih
open Classical in
theorem withinB_of {l : List Node} {fid k : Int} {b : Bool} {f : Nat} (h : Zi l fid f k = some b) : withinB l fid k = b := by
 unfold withinB
 cases b with
 | true => exact decide_eq_true ⟨f,h⟩
 | false =>
  refine decide_eq_false ?_
  rintro ⟨g,hg⟩
  rcases Nat.le_total f g with hle | hle
  ·rw [withinF_le hle h] at hg; cases hg
  ·rw [withinF_le hle hg] at h; cases h
theorem getN_small {l : List Node} (hl : Small l) (k : Int) : (Yg l k).Small := hl.find k
theorem rename_ok (l : List Node) (a : Act) (v : Int) (hf : FitA l a) (f : Nat) (hw : Zi l a.to f a.fid = some (withinB l a.to a.fid)) (G Y N : Nat → Nat) : FnOK Tryz.prog 56 [.ptr 15 9 0 0] (dH (ZD l a v) G Y N)
  (fun r H => r = .int .i64 (renameE l a) ∧ ∀ i b,Yk (dH (ZD (renameL l a v) a v) G Y N) i = some b → Yk H i = some b) := by
 have hl := hf.small
 have hlen := hf.len
 have hmE : renameL l a v = if renameE l a = 0 then Yu (if a.to = a.dir then l else Yu l { Yv (Yg l a.dir) a.name with version := v }) { Ye (toN l a) a.toName a.fid with version := v } else l := rfl
 rw [hmE]
 unfold renameE
 have hwi := within_ok l hl a.to f a.fid _ hw
 generalize withinB l a.to a.fid = wb at hwi
 have hsn := getN_small hl a.dir
 have hst := getN_small hl a.to
 have hent : ∀ k,(Yg l k).entries.length ≤ 99999990 := fun k => by
  unfold Yg
  cases e : Yf l k with
  | none => simp [Yz]
  | some n => exact hf.ent n (findN_mem e)
 have hlv := leave_ok (Yg l a.dir) a.name hsn
 have hls := leaveN_small hsn a.name
 have hto : (toN l a).Small := by unfold toN; split; exact hls; exact hst
 have htoe : (toN l a).entries.length ≤ 99999990 := by
  unfold toN
  split
  ·have h1 := List.length_filter_le (fun e : Entry => !(e.name == a.name)) (Yg l a.dir).entries
   have h2 := hent a.dir
   have h3 : (Yv (Yg l a.dir) a.name).entries.length ≤ (Yg l a.dir).entries.length := h1
   omega
  ·exact hent a.to
 have hroom := room_ok (toN l a) a.toName hto hf.toName
 have hent2 := enter_ok (toN l a) a.toName a.fid hto
 have hens := enterN_small hto a.toName a.fid (by omega)
 have hp1 := put_in l a v (Yv (Yg l a.dir) a.name) hl hls
 have hl1 : Small (if a.to = a.dir then l else Yu l { Yv (Yg l a.dir) a.name with version := v }) := by
  split
  ·exact hl
  ·exact putN_small hl ⟨hls.data,hls.entries⟩ (by omega)
 have hp2 := put_in (if a.to = a.dir then l else Yu l { Yv (Yg l a.dir) a.name with version := v }) a v (Ye (toN l a) a.toName a.fid) hl1 hens
 have hT : toN l a = if a.to = a.dir then Yv (Yg l a.dir) a.name else Yg l a.to := rfl
 unfold dH
 refine ZF tK (Tryz.func56) rfl (fun C => ?_)
 simp only [Tryz.ntmps56,Tryz.results56,go_sem]
 refine wG tK ?_
 refine wP [15] Tryz.func92 (hf := (named_ok l a v hl hf.name)) (hk := ?_)
 generalize Yu (if a.to = a.dir then l else Yu l { Yv (Yg l a.dir) a.name with version := v }) { Ye (toN l a) a.toName a.fid with version := v } = l2 at hp2
 generalize Ye (toN l a) a.toName a.fid = en at hent2 hp2
 generalize toN l a = T at *
 generalize Yv (Yg l a.dir) a.name = lv at *
 generalize Yg l a.dir = n at *
 generalize hge : namedE l a = e
 refine wGq tK ?_ ?_ (by simp only [go_sem,ZN]; try exact rfl)
 ·simp [ZN]
 refine wD (fun h => ?_) (fun h => ?_)
 ·have he : e ≠ 0 := by simpa using h
  refine wG tK ?_
  refine wU ?_ (hold2 ?_ ?_)
  ·simp [he]
  ·simp [go_sem,ZD,he]
  ·simp [go_sem]
 have he : e = 0 := by simpa using h
 subst he
 simp only [if_true]
 refine wGq tK ?_ ?_ (by simp only [go_sem,ZD]; try exact rfl)
 ·simp [ZD]
 refine wP [15] Tryz.func88 (hf := (dir_ok l a v a.to hl)) (hk := ?_)
 generalize Yg l a.to = m at *
 generalize hgd : dirE l a.to = e
 refine wGq tK ?_ ?_ (by simp only [go_sem,ZN]; try exact rfl)
 ·simp [ZN]
 refine wD (fun h => ?_) (fun h => ?_)
 ·have he : e ≠ 0 := by simpa using h
  refine wG tK ?_
  refine wU ?_ (hold2 ?_ ?_)
  ·simp [he]
  ·simp [go_sem,ZD,he]
  ·simp [go_sem]
 have he : e = 0 := by simpa using h
 subst he
 simp only [if_true]
 refine wG tK ?_
 refine ZW ZM ?_
 refine ZS rfl ?_
 refine sNq tK 11 ?_ ?_ (h := by simp only [go_sem,ZD]; try exact rfl)
 ·simp [ZD]
 refine sE ?_
 refine wKd ?_
 try simp only [go_sem,gA,gB,gC]
 refine wD (fun h => ?_) (fun h => ?_)
 ·have htd : a.to = a.dir := by simpa using h
  simp only [htd,if_true] at hT hp2
  subst hT
  refine wG tK ?_
  refine ZW ZM ?_
  refine ZS rfl ?_
  refine sNq tK 6 ?_ ?_ (h := by simp only [go_sem,ZD,ZN]; try exact rfl)
  ·simp [ZD,ZN]
  refine sC Tryz.func93 (hf := (hlv)) (hk := ?_)
  refine sE ?_
  refine dSq tK ?_ ?_
  ·simp [go_sem,ZN]
  refine wKd ?_
  try simp only [go_sem,gA,gB,gC]
  refine wG tK ?_
  refine ZW ZM ?_
  refine ZS rfl ?_
  refine sNq tK 6 ?_ ?_ (h := by simp only [go_sem,ZD,ZN]; try exact rfl)
  ·simp [ZD,ZN]
  refine sC Tryz.func89 (hf := (hroom)) (hk := ?_)
  refine sE ?_
  refine dS tK ?_
  refine wKd ?_
  try simp only [go_sem,gA,gB,gC]
  generalize hgr : roomE T a.toName = e
  refine wG tK ?_
  refine wD (fun h => ?_) (fun h => ?_)
  ·have he : e ≠ 0 := by simpa using h
   refine wG tK ?_
   refine wU ?_ (hold2 ?_ ?_)
   ·simp [he]
   ·simp [go_sem,ZD,he]
   ·simp [go_sem]
  have he : e = 0 := by simpa using h
  subst he
  simp only [if_true]
  refine wG tK ?_
  refine ZW ZM ?_
  refine ZS rfl ?_
  refine sNq tK 9 ?_ ?_ (h := by simp only [go_sem,ZD]; try exact rfl)
  ·simp [ZD]
  refine sC Tryz.func47 (hf := (find_ok l a.fid hl)) (hk := ?_)
  simp only [go_sem,findR]
  generalize hgx : (Yf l a.fid).getD Yz = x
  generalize hga : isAt l a.fid = ia
  refine sG tK ?_
  refine sW tK ?_
  simp only [go_sem,ZN]
  refine sT tK ?_
  refine sE ?_
  refine dS tK ?_
  refine wKd ?_
  try simp only [go_sem,gA,gB,gC]
  refine wG tK ?_
  refine wD (fun h => ?_) (fun h => ?_)
  ·have h0 : ia = false := by simpa using h
   subst h0
   refine wG tK ?_
   refine wU ?_ (hold2 ?_ ?_)
   ·simp
   ·simp [go_sem,ZD]
   ·simp [go_sem]
  have h0 : ia = true := by simpa using h
  subst h0
  simp only [if_true]
  refine wG tK ?_
  refine ZW ZM ?_
  refine ZS rfl ?_
  refine sNq tK 14 ?_ ?_ (h := by simp only [go_sem,ZD]; try exact rfl)
  ·simp [ZD]
  refine sC Tryz.func95 (hf := (hwi)) (hk := ?_)
  refine sE ?_
  refine wKd ?_
  try simp only [go_sem,gA,gB,gC]
  refine wD (fun h => ?_) (fun h => ?_)
  ·have h0 : wb = true := by simpa using h
   subst h0
   refine wG tK ?_
   refine wU ?_ (hold2 ?_ ?_)
   ·simp
   ·simp [go_sem,ZD]
   ·simp [go_sem]
  have h0 : wb = false := by simpa using h
  subst h0
  simp only [Bool.false_eq_true,if_false,if_true]
  refine wG tK ?_
  refine ZW ZM ?_
  refine ZS rfl ?_
  refine sNq tK 11 ?_ ?_ (h := by simp only [go_sem,ZD]; try exact rfl)
  ·simp [ZD]
  refine sE ?_
  refine wKd ?_
  try simp only [go_sem,gA,gB,gC]
  refine wDF (hb := by simp [htd]) (hk := ?_)
  refine wG tK ?_
  refine ZW ZM ?_
  refine ZS rfl ?_
  refine sNq tK 12 ?_ ?_ (h := by simp only [go_sem,ZD,ZN]; try exact rfl)
  ·simp [ZD,ZN]
  refine sC Tryz.func91 (hf := (hent2)) (hk := ?_)
  refine sE ?_
  refine draw_trip rfl (by kernel_rfl) rfl (wTP [15] Tryz.func90 (hf := (hp2))) rfl ?_
  refine wKd ?_
  try simp only [go_sem,gA,gB,gC]
  refine wG tK ?_
  refine wU ?_ (hold2 ?_ ?_)
  ·simp
  ·simp [go_sem,ZD]
  ·simp [go_sem]
 ·have htd : ¬ a.to = a.dir := by simpa using h
  simp only [htd,if_false] at hT hp2
  subst hT
  generalize Yu l { lv with version := v } = l1 at *
  refine wG tK ?_
  refine ZW ZM ?_
  refine ZS rfl ?_
  refine sNq tK 6 ?_ ?_ (h := by simp only [go_sem,ZD,ZN]; try exact rfl)
  ·simp [ZD,ZN]
  refine sC Tryz.func89 (hf := (hroom)) (hk := ?_)
  refine sE ?_
  refine dS tK ?_
  refine wKd ?_
  try simp only [go_sem,gA,gB,gC]
  generalize hgr : roomE T a.toName = e
  refine wG tK ?_
  refine wD (fun h => ?_) (fun h => ?_)
  ·have he : e ≠ 0 := by simpa using h
   refine wG tK ?_
   refine wU ?_ (hold2 ?_ ?_)
   ·simp [he]
   ·simp [go_sem,ZD,he]
   ·simp [go_sem]
  have he : e = 0 := by simpa using h
  subst he
  simp only [if_true]
  refine wG tK ?_
  refine ZW ZM ?_
  refine ZS rfl ?_
  refine sNq tK 9 ?_ ?_ (h := by simp only [go_sem,ZD]; try exact rfl)
  ·simp [ZD]
  refine sC Tryz.func47 (hf := (find_ok l a.fid hl)) (hk := ?_)
  simp only [go_sem,findR]
  generalize hgx : (Yf l a.fid).getD Yz = x
  generalize hga : isAt l a.fid = ia
  refine sG tK ?_
  refine sW tK ?_
  simp only [go_sem,ZN]
  refine sT tK ?_
  refine sE ?_
  refine dS tK ?_
  refine wKd ?_
  try simp only [go_sem,gA,gB,gC]
  refine wG tK ?_
  refine wD (fun h => ?_) (fun h => ?_)
  ·have h0 : ia = false := by simpa using h
   subst h0
   refine wG tK ?_
   refine wU ?_ (hold2 ?_ ?_)
   ·simp
   ·simp [go_sem,ZD]
   ·simp [go_sem]
  have h0 : ia = true := by simpa using h
  subst h0
  simp only [if_true]
  refine wG tK ?_
  refine ZW ZM ?_
  refine ZS rfl ?_
  refine sNq tK 14 ?_ ?_ (h := by simp only [go_sem,ZD]; try exact rfl)
  ·simp [ZD]
  refine sC Tryz.func95 (hf := (hwi)) (hk := ?_)
  refine sE ?_
  refine wKd ?_
  try simp only [go_sem,gA,gB,gC]
  refine wD (fun h => ?_) (fun h => ?_)
  ·have h0 : wb = true := by simpa using h
   subst h0
   refine wG tK ?_
   refine wU ?_ (hold2 ?_ ?_)
   ·simp
   ·simp [go_sem,ZD]
   ·simp [go_sem]
  have h0 : wb = false := by simpa using h
  subst h0
  simp only [Bool.false_eq_true,if_false,if_true]
  refine wG tK ?_
  refine ZW ZM ?_
  refine ZS rfl ?_
  refine sNq tK 11 ?_ ?_ (h := by simp only [go_sem,ZD]; try exact rfl)
  ·simp [ZD]
  refine sE ?_
  refine wKd ?_
  try simp only [go_sem,gA,gB,gC]
  refine wDT (hb := by simp [htd]) (hk := ?_)
  refine wG tK ?_
  refine ZW ZM ?_
  refine ZS rfl ?_
  refine sNq tK 7 ?_ ?_ (h := by simp only [go_sem,ZD,ZN]; try exact rfl)
  ·simp [ZD,ZN]
  refine sC Tryz.func93 (hf := (hlv)) (hk := ?_)
  refine sE ?_
  refine draw_trip rfl (by kernel_rfl) rfl (wTP [15] Tryz.func90 (hf := (hp1))) rfl ?_
  refine wKd ?_
  try simp only [go_sem,gA,gB,gC]
  refine wG tK ?_
  refine ZW ZM ?_
  refine ZS rfl ?_
  refine sNq tK 12 ?_ ?_ (h := by simp only [go_sem,ZD,ZN]; try exact rfl)
  ·simp [ZD,ZN]
  refine sC Tryz.func91 (hf := (hent2)) (hk := ?_)
  refine sE ?_
  refine draw_trip rfl (by kernel_rfl) rfl (wTP [15] Tryz.func90 (hf := (hp2))) rfl ?_
  refine wKd ?_
  try simp only [go_sem,gA,gB,gC]
  refine wG tK ?_
  refine wU ?_ (hold2 ?_ ?_)
  ·simp
  ·simp [go_sem,ZD]
  ·simp [go_sem]
end La
namespace La
open Go
theorem findN_put {l : List Node} (h : Up l) (n : Node) (k : Int) : Yf (Yu l n) k = if k = n.fid then some n else Yf l k := by
 by_cases e : k = n.fid
 ·subst e; rw [if_pos rfl]; exact puts_found h n
 ·rw [if_neg e]; exact (puts_other h n e).symm
theorem findN_drop {l : List Node} (h : Up l) (f k : Int) : Yf (dropN l f) k = if k = f then none else Yf l k := by
 obtain ⟨h1,h2⟩ := dropN_up h f
 by_cases e : k = f
 ·subst e
  rw [if_pos rfl]
  exact (findN_none h1).2 fun x hx => ((h2 x).1 hx).2
 ·rw [if_neg e]
  cases e1 : Yf l k with
  | none =>
   rw [findN_none h1]
   exact fun x hx => (findN_none h).1 e1 x ((h2 x).1 hx).1
  | some x =>
   obtain ⟨k1,k2⟩ := (ZO h).1 e1
   exact (ZO h1).2 ⟨(h2 x).2 ⟨k1,by rw [k2]; exact e⟩,k2⟩
end La
namespace La
open Go Go.Eng
def Falls (r : Int → Nat) (l : List Node) : Prop := ∀ n,n ∈ l → ∀ e,e ∈ n.entries → r e.fid < r n.fid
inductive Reach (l : List Node) : Int → Int → Prop
 | refl (k : Int) : Reach l k k
 | head (n : Node) (e : Entry) (t : Int) (hn : n ∈ l) (he : e ∈ n.entries) (h : Reach l e.fid t) : Reach l n.fid t
theorem Reach.tail {l : List Node} {k : Int} {n : Node} (hn : n ∈ l) {e : Entry} (he : e ∈ n.entries) (h : Reach l k n.fid) : Reach l k e.fid := by
 generalize ht : n.fid = t at h
 induction h with
 | refl k => subst ht; exact .head n e _ hn he (.refl _)
 | head m d t hm hd h ih => exact .head m d _ hm hd (ih ht)
theorem within_ends {l : List Node} (hu : Up l) {r : Int → Nat} (hr : Falls r l) (t : Int) : ∀ (f : Nat) (k : Int),r k < f → ∃ b,Zi l t f k = some b
 | 0,k,h => by omega
 | f + 1,k,h => by
  rw [Zi]
  split
  ·exact ⟨_,rfl⟩
  ·cases e : Yf l k with
   | none => exact ⟨_,rfl⟩
   | some n =>
    obtain ⟨hn,hk⟩ := (ZO hu).1 e
    simp only
    rw [if_pos (List.all_eq_true.2 fun x hx => by
     have h1 := hr n hn x hx
     obtain ⟨b,hb⟩ := within_ends hu hr t f x.fid (by rw [hk] at h1; omega)
     rw [hb,Option.isSome_some,Bool.or_true])]
    exact ⟨_,rfl⟩
theorem within_reach {l : List Node} (hu : Up l) {r : Int → Nat} (hr : Falls r l) {k t : Int} (h : Reach l k t) : ∀ (f : Nat) (b : Bool),Zi l t f k = some b → b = true := by
 induction h with
 | refl k =>
  intro f b hb
  cases f with
  | zero => cases hb
  | succ f => rw [Zi,if_pos rfl] at hb; injection hb with hb; exact hb.symm
 | head n e t hn he h ih =>
  intro f b hb
  cases f with
  | zero => cases hb
  | succ f =>
   rw [Zi] at hb
   split at hb
   ·injection hb with hb; exact hb.symm
   ·rw [(ZO hu).2 ⟨hn,rfl⟩] at hb
    simp only at hb
    split at hb
    ·rename_i hall
     injection hb with hb
     rw [← hb,List.any_eq_true]
     have hne : decide (e.fid = n.fid) = false := decide_eq_false fun h0 => by have := hr n hn e he; rw [h0] at this; omega
     have h1 := List.all_eq_true.1 hall e he
     rw [hne,Bool.false_or] at h1
     refine ⟨e,he,?_⟩
     cases h2 : Zi l t f e.fid with
     | none => rw [h2] at h1; cases h1
     | some c => rw [hne,ih f c h2]; rfl
    ·cases hb
theorem enterE_mem {l : List Entry} {s : List UInt8} {f : Int} {x : Entry} (h : x ∈ Zt l s f) : x = ⟨s,f⟩ ∨ x ∈ l := by
 unfold Zt at h
 split at h
 ·rcases List.mem_or_eq_of_mem_set h with h | h
  ·exact .inr h
  ·exact .inl h
 ·rcases List.mem_append.1 h with h | h
  ·exact .inr (List.mem_of_mem_take h)
  ·rcases List.mem_cons.1 h with h | h
   ·exact .inl h
   ·exact .inr (List.mem_of_mem_drop h)
theorem leaveE_mem {l : List Entry} {s : List UInt8} {x : Entry} (h : x ∈ leaveE l s) : x ∈ l := (List.mem_filter.1 h).1
theorem pmem {l : List Node} {n x : Node} (h : x ∈ Yu l n) : x = n ∨ x ∈ l := by
 unfold Yu at h
 split at h
 ·rcases List.mem_or_eq_of_mem_set h with h | h
  ·exact .inr h
  ·exact .inl h
 ·rcases List.mem_append.1 h with h | h
  ·exact .inr (List.mem_of_mem_take h)
  ·rcases List.mem_cons.1 h with h | h
   ·exact .inl h
   ·exact .inr (List.mem_of_mem_drop h)
structure Good (l : List Node) : Prop where
 up : Up l
 falls : ∃ r,Falls r l
 len : l.length ≤ 24
 data : ∀ n,n ∈ l → n.data.length ≤ 20
 ent : ∀ n,n ∈ l → n.entries.length ≤ 6
theorem Good.ends {l : List Node} (h : Good l) (t k : Int) : ∃ f,Zi l t f k = some (withinB l t k) := by
 obtain ⟨r,hr⟩ := h.falls
 obtain ⟨b,hb⟩ := within_ends h.up hr t (r k + 1) k (by omega)
 exact ⟨_,by rw [withinB_of hb]; exact hb⟩
theorem dirE_zero {l : List Node} {k : Int} (h : dirE l k = 0) : ∃ n,Yf l k = some n ∧ Yg l k = n ∧ n.dir = true := by
 unfold dirE at h
 unfold Yg
 cases e : Yf l k with
 | none => rw [e] at h; cases h
 | some n =>
  rw [e] at h
  simp only at h
  cases hd : n.dir with
  | false => rw [hd] at h; cases h
  | true => exact ⟨n,rfl,rfl,hd⟩
theorem putN_at {l : List Node} {n : Node} (h : isAt l n.fid = true) : (Yu l n).length = l.length := by
 unfold Yu; rw [if_pos h,List.length_set]
theorem isAt_of {l : List Node} {k : Int} {n : Node} (h : Yf l k = some n) : isAt l k = true := by rw [isAt_eq,h]; rfl
theorem enterE_len (l : List Entry) (s : List UInt8) (f : Int) : (Zt l s f).length ≤ l.length + 1 := by
 unfold Zt
 split
 ·simp
 ·have := eplace_le l s
  simp; omega
theorem leaveE_len (l : List Entry) (s : List UInt8) : (leaveE l s).length ≤ l.length := List.length_filter_le _ _
theorem roomE_zero {n : Node} {s : List UInt8} (h : roomE n s = 0) : n.entries.length ≤ 5 := by
 unfold roomE at h
 split at h
 ·split at h
  ·cases h
  ·split at h
   ·cases h
   ·omega
 ·cases h
end La
namespace La
open Go Go.Eng Go.Proofs
theorem good_make {l : List Node} (h : Good l) (a : Act) (v : Int) (he : makeE l a = 0) : Good (makeL l a v) := by
 have hL : makeL l a v = Yu (Yu l { Ye (Yg l a.dir) a.name a.fid with version := v }) (madeN a v) := by unfold makeL; rw [if_pos he]
 rw [hL]
 unfold makeE at he
 split at he
 ·rename_i hd
  obtain ⟨n,hf,hg,_⟩ := dirE_zero hd
  rw [hg] at he ⊢
  obtain ⟨hn,hnk⟩ := (ZO h.up).1 hf
  split at he
  ·rename_i hro
   have h5 := roomE_zero hro
   split at he
   ·cases he
   ·rename_i hnew
    have hno : isAt l a.fid = false := by
     cases e : isAt l a.fid with
     | false => rfl
     | true => rw [e] at hnew; exact absurd rfl hnew
    have hnoN : ∀ x,x ∈ l → x.fid ≠ a.fid := (findN_none h.up).1 (by
     cases e : Yf l a.fid with
     | none => rfl
     | some m => rw [isAt_of e] at hno; cases hno)
    split at he
    ·cases he
    ·rename_i h24
     obtain ⟨r,hr⟩ := h.falls
     have hfid : ({ Ye n a.name a.fid with version := v } : Node).fid = n.fid := rfl
     have hu1 := putN_up h.up { Ye n a.name a.fid with version := v }
     refine ⟨(putN_up hu1.1 (madeN a v)).1,⟨fun x => if x = a.fid then 0 else r x + 1,fun x hx e hx2 => ?_⟩,?_,fun x hx => ?_,fun x hx => ?_⟩
     ·rcases pmem hx with rfl | hx
      ·simp [madeN] at hx2
      ·rcases pmem hx with rfl | hx
       ·have hnf : n.fid ≠ a.fid := hnoN n hn
        have hx3 : e ∈ Zt n.entries a.name a.fid := hx2
        show (if e.fid = a.fid then 0 else r e.fid + 1) < (if n.fid = a.fid then 0 else r n.fid + 1)
        rw [if_neg hnf]
        rcases enterE_mem hx3 with rfl | hx3
        ·simp
        ·have := hr n hn e hx3
         split <;> omega
       ·have hnf : x.fid ≠ a.fid := hnoN x hx
        have := hr x hx e hx2
        simp only
        rw [if_neg hnf]
        split <;> omega
     ·have h1 := putN_length (Yu l { Ye n a.name a.fid with version := v }) (madeN a v)
      have h2 : (Yu l { Ye n a.name a.fid with version := v }).length = l.length := putN_at (by rw [hfid,hnk]; exact isAt_of hf)
      omega
     ·rcases pmem hx with rfl | hx
      ·simp [madeN]
      ·rcases pmem hx with rfl | hx
       ·exact h.data n hn
       ·exact h.data x hx
     ·rcases pmem hx with rfl | hx
      ·simp [madeN]
      ·rcases pmem hx with rfl | hx
       ·have := enterE_len n.entries a.name a.fid
        show (Zt n.entries a.name a.fid).length ≤ 6
        omega
       ·exact h.ent x hx
  ·rename_i hro; exact absurd he hro
 ·rename_i hd; exact absurd he hd
theorem good_store {l : List Node} (h : Good l) (a : Act) (v : Int) (he : storeE l a = 0) : Good (storeL l a v) := by
 have hL : storeL l a v = Yu l { Yg l a.fid with data := a.data,version := v } := by unfold storeL; rw [if_pos he]
 rw [hL]
 unfold storeE at he
 cases hf : Yf l a.fid with
 | none => rw [hf] at he; cases he
 | some n =>
  rw [hf] at he
  simp only at he
  obtain ⟨hn,hnk⟩ := (ZO h.up).1 hf
  have hg : Yg l a.fid = n := by unfold Yg; rw [hf]; rfl
  rw [hg]
  split at he
  ·cases he
  ·split at he
   ·cases he
   ·rename_i h20
    obtain ⟨r,hr⟩ := h.falls
    refine ⟨(putN_up h.up _).1,⟨r,fun x hx e hx2 => ?_⟩,?_,fun x hx => ?_,fun x hx => ?_⟩
    ·rcases pmem hx with rfl | hx
     ·exact hr n hn e hx2
     ·exact hr x hx e hx2
    ·rw [putN_at (by show isAt l n.fid = true; rw [hnk]; exact isAt_of hf)]; exact h.len
    ·rcases pmem hx with rfl | hx
     ·show a.data.length ≤ 20; omega
     ·exact h.data x hx
    ·rcases pmem hx with rfl | hx
     ·exact h.ent n hn
     ·exact h.ent x hx
theorem namedE_zero {l : List Node} {a : Act} (h : namedE l a = 0) : ∃ n,Yf l a.dir = some n ∧ Yg l a.dir = n := by
 unfold namedE at h
 split at h
 ·rename_i hd
  obtain ⟨n,h1,h2,_⟩ := dirE_zero hd
  exact ⟨n,h1,h2⟩
 ·rename_i hd; exact absurd h hd
theorem good_leave {l : List Node} (h : Good l) {n : Node} (hn : n ∈ l) (hf : Yf l n.fid = some n) (s : List UInt8) (v : Int) {r : Int → Nat} (hr : Falls r l) :
  Good (Yu l { Yv n s with version := v }) ∧ Falls r (Yu l { Yv n s with version := v }) := by
 have hr2 : Falls r (Yu l { Yv n s with version := v }) := fun x hx e hx2 => by
  rcases pmem hx with rfl | hx
  ·exact hr n hn e (leaveE_mem hx2)
  ·exact hr x hx e hx2
 refine ⟨⟨(putN_up h.up _).1,⟨r,hr2⟩,?_,fun x hx => ?_,fun x hx => ?_⟩,hr2⟩
 ·rw [putN_at (by show isAt l n.fid = true; exact isAt_of hf)]; exact h.len
 ·rcases pmem hx with rfl | hx
  ·exact h.data n hn
  ·exact h.data x hx
 ·rcases pmem hx with rfl | hx
  ·have := leaveE_len n.entries s
   have := h.ent n hn
   show (leaveE n.entries s).length ≤ 6
   omega
  ·exact h.ent x hx
theorem good_remove {l : List Node} (h : Good l) (a : Act) (v : Int) (he : removeE l a = 0) : Good (removeL l a v) := by
 have hL : removeL l a v = dropN (Yu l { Yv (Yg l a.dir) a.name with version := v }) a.fid := by unfold removeL; rw [if_pos he]
 rw [hL]
 unfold removeE at he
 split at he
 ·rename_i hnm
  obtain ⟨n,hf,hg⟩ := namedE_zero hnm
  rw [hg]
  obtain ⟨hn,hnk⟩ := (ZO h.up).1 hf
  obtain ⟨r,hr⟩ := h.falls
  obtain ⟨h1,hr1⟩ := good_leave h hn (by rw [hnk]; exact hf) a.name v hr
  have hsub : ∀ x,x ∈ dropN (Yu l { Yv n a.name with version := v }) a.fid → x ∈ Yu l { Yv n a.name with version := v } := fun x hx => (List.mem_filter.1 hx).1
  refine ⟨(dropN_up h1.up a.fid).1,⟨r,fun x hx e hx2 => hr1 x (hsub x hx) e hx2⟩,?_,fun x hx => h1.data x (hsub x hx),fun x hx => h1.ent x (hsub x hx)⟩
  have := List.length_filter_le (fun n : Node => !(n.fid == a.fid)) (Yu l { Yv n a.name with version := v })
  have := h1.len
  unfold dropN
  omega
 ·rename_i hnm; exact absurd he hnm
open Classical in
theorem good_rename {l : List Node} (h : Good l) (a : Act) (v : Int) (he : renameE l a = 0) : Good (renameL l a v) := by
 have hL : renameL l a v = Yu (if a.to = a.dir then l else Yu l { Yv (Yg l a.dir) a.name with version := v }) { Ye (toN l a) a.toName a.fid with version := v } := by unfold renameL; rw [if_pos he]
 rw [hL]
 unfold renameE at he
 split at he
 ·rename_i hnm
  obtain ⟨n,hf,hg⟩ := namedE_zero hnm
  obtain ⟨hn,hnk⟩ := (ZO h.up).1 hf
  split at he
  ·rename_i hdt
   obtain ⟨t,htf,htg,_⟩ := dirE_zero hdt
   obtain ⟨htm,htk⟩ := (ZO h.up).1 htf
   split at he
   ·rename_i hro
    have h5 := roomE_zero hro
    split at he
    ·split at he
     ·cases he
     ·rename_i hwb
      obtain ⟨f,hw⟩ := h.ends a.to a.fid
      obtain ⟨r,hr⟩ := h.falls
      have hnr : ¬ Reach l a.fid a.to := fun hR => by
       have := within_reach h.up hr hR f _ hw
       exact hwb this
      -- the node that gets the entry: that directory,some entries less
      have hTf : (toN l a).fid = a.to := by
       unfold toN
       split
       ·rename_i htd; show (Yg l a.dir).fid = a.to; rw [hg,hnk,htd]
       ·rw [htg,htk]
      have hTe : ∀ e,e ∈ (toN l a).entries → e ∈ t.entries := fun e hx => by
       unfold toN at hx
       split at hx
       ·rename_i htd
        have h1 := leaveE_mem hx
        rw [hg] at h1
        rw [htd,hf] at htf
        injection htf with htf
        rwa [← htf]
       ·rwa [htg] at hx
      have hTd : (toN l a).data.length ≤ 20 := by
       unfold toN
       split
       ·show (Yg l a.dir).data.length ≤ 20; rw [hg]; exact h.data n hn
       ·rw [htg]; exact h.data t htm
      have key : ∀ l1 : List Node,Up l1 → (∀ x,x ∈ l1 → x.data.length ≤ 20 ∧ x.entries.length ≤ 6) → l1.length ≤ 24 → isAt l1 a.to = true →
        (∀ x,x ∈ l1 → ∃ y,y ∈ l ∧ y.fid = x.fid ∧ ∀ e,e ∈ x.entries → e ∈ y.entries) → Good (Yu l1 { Ye (toN l a) a.toName a.fid with version := v }) := fun l1 hu1 hs1 hl1 ha1 hsub => by
       let q : Int → Nat := fun x => if Reach l a.fid x then r x else r x + (r a.fid + 1)
       have hq : ∀ y,y ∈ l → ∀ e,e ∈ y.entries → q e.fid < q y.fid := fun y hy e hx => by
        have h1 := hr y hy e hx
        show (if Reach l a.fid e.fid then r e.fid else r e.fid + (r a.fid + 1)) < (if Reach l a.fid y.fid then r y.fid else r y.fid + (r a.fid + 1))
        by_cases hR : Reach l a.fid y.fid
        ·rw [if_pos hR,if_pos (hR.tail hy hx)]; exact h1
        ·rw [if_neg hR]
         split <;> omega
       refine ⟨(putN_up hu1 _).1,⟨q,fun x hx e hx2 => ?_⟩,?_,fun x hx => ?_,fun x hx => ?_⟩
       ·rcases pmem hx with rfl | hx
        ·have hx3 : e ∈ Zt (toN l a).entries a.toName a.fid := hx2
         show q e.fid < q (toN l a).fid
         rw [hTf]
         rcases enterE_mem hx3 with rfl | hx3
         ·show (if Reach l a.fid a.fid then r a.fid else r a.fid + (r a.fid + 1)) < (if Reach l a.fid a.to then r a.to else r a.to + (r a.fid + 1))
          rw [if_pos (.refl _),if_neg hnr]; omega
         ·have := hq t htm e (hTe e hx3)
          rwa [htk] at this
        ·obtain ⟨y,hy,hyf,hye⟩ := hsub x hx
         have := hq y hy e (hye e hx2)
         rwa [hyf] at this
       ·rw [putN_at (by show isAt l1 (toN l a).fid = true; rw [hTf]; exact ha1)]; exact hl1
       ·rcases pmem hx with rfl | hx
        ·exact hTd
        ·exact (hs1 x hx).1
       ·rcases pmem hx with rfl | hx
        ·have := enterE_len (toN l a).entries a.toName a.fid
         show (Zt (toN l a).entries a.toName a.fid).length ≤ 6
         omega
        ·exact (hs1 x hx).2
      split
      ·exact key l h.up (fun x hx => ⟨h.data x hx,h.ent x hx⟩) h.len (isAt_of htf) (fun x hx => ⟨x,hx,rfl,fun _ h => h⟩)
      ·rename_i htd
       rw [hg]
       obtain ⟨h1,_⟩ := good_leave h hn (by rw [hnk]; exact hf) a.name v hr
       refine key _ h1.up (fun x hx => ⟨h1.data x hx,h1.ent x hx⟩) h1.len ?_ (fun x hx => ?_)
       ·have : Yf (Yu l { Yv n a.name with version := v }) a.to = some t := by
         rw [findN_put h.up,if_neg (fun e => htd (e.trans (show n.fid = a.dir from hnk)))]; exact htf
        exact isAt_of this
       ·rcases pmem hx with rfl | hx
        ·exact ⟨n,hn,rfl,fun e hx2 => leaveE_mem hx2⟩
        ·exact ⟨x,hx,rfl,fun _ h => h⟩
    ·cases he
   ·rename_i hro; exact absurd he hro
  ·rename_i hdt; exact absurd he hdt
 ·rename_i hnm; exact absurd he hnm
theorem good_apply {l : List Node} (h : Good l) (a : Act) (v : Int) (he : Yb l a = 0) : Good (Yj l a v) := by
 unfold Yb at he
 unfold Yj
 split at he
 ·rename_i h1; rw [if_pos h1]; exact good_make h a v he
 ·rename_i h1
  rw [if_neg h1]
  split at he
  ·rename_i h2; rw [if_pos h2]; exact good_make h a v he
  ·rename_i h2
   rw [if_neg h2]
   split at he
   ·rename_i h3; rw [if_pos h3]; exact good_store h a v he
   ·rename_i h3
    rw [if_neg h3]
    split at he
    ·rename_i h4; rw [if_pos h4]; exact good_remove h a v he
    ·rename_i h4
     rw [if_neg h4]
     split at he
     ·rename_i h5; rw [if_pos h5]; exact good_rename h a v he
     ·cases he
theorem good_root : Good [⟨0,true,[],[],0⟩] := ⟨by unfold Up; simp,⟨fun _ => 0,fun n hn e he => by rw [List.mem_singleton.1 hn] at he; simp at he⟩,by simp,fun n hn => by rw [List.mem_singleton.1 hn]; simp,fun n hn => by rw [List.mem_singleton.1 hn]; simp⟩
theorem Good.small {l : List Node} (h : Good l) : Small l := ⟨by have := h.len; omega,fun n hn => ⟨by have := h.data n hn; omega,by have := h.ent n hn; omega⟩⟩
theorem Good.fit {l : List Node} (h : Good l) {a : Act} (h1 : a.name.length ≤ 100000000) (h2 : a.toName.length ≤ 100000000) (h3 : a.data.length ≤ 100000000) : FitA l a :=
 ⟨h.small,by have := h.len; omega,fun n hn => by have := h.ent n hn; omega,h1,h2,h3⟩
structure ActFit (a : Act) : Prop where
 name : a.name.length ≤ 100000000
 toName : a.toName.length ≤ 100000000
 data : a.data.length ≤ 100000000
theorem apply_good {l : List Node} (h : Good l) (a : Act) (v : Int) (ha : ActFit a) : FnOK Tryz.prog 34 [.sl (l.map ZN),.agg (ZA a),.int .i64 v] [] (fun r _ => r = applyR l a v) := by
 obtain ⟨f,hf⟩ := h.ends a.to a.fid
 exact apply_ok l a v (h.fit ha.name ha.toName ha.data) (fun _ => rename_ok l a v (h.fit ha.name ha.toName ha.data) f hf)
def rootN : Node := ⟨0,true,[],[],0⟩
end La
