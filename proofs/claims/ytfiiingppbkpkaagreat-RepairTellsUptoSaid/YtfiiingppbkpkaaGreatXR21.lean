/- Texts of this claim, part 21: PDrop, Drop, Fresh, PForce, PTells, RLaw11b, RLaw11c, OpnE. No condition. -/
import Derived.Test.YtfiiingppbkpkaaGreatXR10
import Derived.Test.YtfiiingppbkpkaaGreatXR7
import Derived.Test.YtfiiingppbkpkaaGreatXR20
import Derived.Test.YtfiiingppbkpkaaGreatXR16
import Derived.Test.YtfiiingppbkpkaaGreatXR6
import Derived.ChangeArms
import Derived.Test.YtfiiingppbkpkaaGreatXR12
set_option maxRecDepth 10000
set_option maxHeartbeats 4000000
set_option linter.unusedSimpArgs false
set_option linter.unusedVariables false
namespace La
open Go Go.Eng
def goneC (k i : Nat) (lost : List (Int × Bool)) (r : Rec) : Bool := i == k || (fids r.act).any (getB lost)
def lostAt (l : List Rec) (k : Nat) : Nat → List (Int × Bool)
 | 0 => []
 | i + 1 => if goneC k i (lostAt l k i) (l.getD i default) = true then Zp (lostAt l k i) (l.getD i default).act.fid true else lostAt l k i
def goneB (l : List Rec) (k i : Nat) : Bool := goneC k i (lostAt l k i) (l.getD i default)
def restTo (l : List Rec) (k : Nat) : Nat → List Int
 | 0 => []
 | i + 1 => if (decide (k < i) && goneB l k i) = true then restTo l k i ++ [(i : Int)] else restTo l k i
def leftTo (l : List Rec) (k : Nat) : Nat → List Rec
 | 0 => []
 | i + 1 => if goneB l k i = true then leftTo l k i else leftTo l k i ++ [l.getD i default]
theorem getB_nil (x : Int) : getB [] x = false := rfl
theorem lostAt_low (l : List Rec) (k : Nat) : ∀ i,i ≤ k → lostAt l k i = []
 | 0,_ => rfl
 | i + 1,h => by
  have ih := lostAt_low l k i (by omega)
  have : goneC k i (lostAt l k i) (l.getD i default) = false := by
   rw [ih]; unfold goneC
   have h1 : (i == k) = false := by simpa using (show i ≠ k by omega)
   rw [h1,Bool.false_or,List.any_eq_false]
   intro x _; simp [getB_nil]
  unfold lostAt
  rw [this,ih]; rfl
theorem goneB_low {l : List Rec} {k i : Nat} (h : i < k) : goneB l k i = false := by
 unfold goneB goneC
 rw [lostAt_low l k i (by omega)]
 have h1 : (i == k) = false := by simpa using (show i ≠ k by omega)
 rw [h1,Bool.false_or,List.any_eq_false]
 intro x _; simp [getB_nil]
theorem goneB_self (l : List Rec) (k : Nat) : goneB l k k = true := by unfold goneB goneC; simp
theorem lostAt_start (l : List Rec) (k : Nat) : lostAt l k (k + 1) = Zp [] (l.getD k default).act.fid true := by
 have h : goneC k k (lostAt l k k) (l.getD k default) = true := goneB_self l k
 have h2 := lostAt_low l k k (Nat.le_refl _)
 show (if goneC k k (lostAt l k k) (l.getD k default) = true then Zp (lostAt l k k) (l.getD k default).act.fid true else lostAt l k k) = _
 rw [if_pos h,h2]
theorem lostAt_succ (l : List Rec) (k i : Nat) : lostAt l k (i + 1) = if goneB l k i = true then Zp (lostAt l k i) (l.getD i default).act.fid true else lostAt l k i := rfl
theorem goneB_high {l : List Rec} {k i : Nat} (h : k < i) : goneB l k i = (fids (l.getD i default).act).any (getB (lostAt l k i)) := by
 unfold goneB goneC
 have h1 : (i == k) = false := by simpa using (show i ≠ k by omega)
 rw [h1,Bool.false_or]
theorem restTo_low (l : List Rec) (k : Nat) : ∀ i,i ≤ k + 1 → restTo l k i = []
 | 0,_ => rfl
 | i + 1,h => by
  have ih := restTo_low l k i (by omega)
  unfold restTo
  rw [show decide (k < i) = false from decide_eq_false (by omega),ih]; rfl
theorem restTo_mem {l : List Rec} {k : Nat} {x : Int} : ∀ {i},x ∈ restTo l k i ↔ ∃ j : Nat,j < i ∧ x = (j : Int) ∧ k < j ∧ goneB l k j = true
 | 0 => by simp [restTo]
 | i + 1 => by
  have ih := @restTo_mem l k x i
  unfold restTo
  by_cases h : (decide (k < i) && goneB l k i) = true
  ·rw [if_pos h,List.mem_append,ih]
   simp only [Bool.and_eq_true,decide_eq_true_eq] at h
   constructor
   ·rintro (⟨j,h1,h2⟩ | h1)
    ·exact ⟨j,by omega,h2⟩
    ·exact ⟨i,by omega,List.mem_singleton.1 h1,h⟩
   ·rintro ⟨j,h1,h2,h3⟩
    by_cases e : j = i
    ·subst e; exact .inr (List.mem_singleton.2 h2)
    ·exact .inl ⟨j,by omega,h2,h3⟩
  ·rw [if_neg h,ih]
   simp only [Bool.and_eq_true,decide_eq_true_eq] at h
   constructor
   ·rintro ⟨j,h1,h2⟩; exact ⟨j,by omega,h2⟩
   ·rintro ⟨j,h1,h2,h3⟩
    by_cases e : j = i
    ·subst e; exact absurd h3 h
    ·exact ⟨j,by omega,h2,h3⟩
def goneL (l : List Rec) (k : Nat) : List Int := restTo l k l.length ++ [(k : Int)]
theorem goneL_has {l : List Rec} {k i : Nat} (hi : i < l.length) : (goneL l k).contains (i : Int) = goneB l k i := by
 rw [Bool.eq_iff_iff,List.contains_iff_mem]
 unfold goneL
 rw [List.mem_append,restTo_mem,List.mem_singleton]
 constructor
 ·rintro (⟨j,_,h2,_,h4⟩ | h)
  ·rw [show i = j by omega]; exact h4
  ·rw [show i = k by omega]; exact goneB_self l k
 ·intro h
  rcases Nat.lt_trichotomy i k with h1 | h1 | h1
  ·rw [goneB_low h1] at h; cases h
  ·exact .inr (by omega)
  ·exact .inl ⟨i,hi,rfl,h1,h⟩
theorem leftTo_succ (l : List Rec) (k i : Nat) : leftTo l k (i + 1) = if goneB l k i = true then leftTo l k i else leftTo l k i ++ [l.getD i default] := rfl
theorem restTo_succ (l : List Rec) (k i : Nat) : restTo l k (i + 1) = if (decide (k < i) && goneB l k i) = true then restTo l k i ++ [(i : Int)] else restTo l k i := rfl
theorem left_count (l : List Rec) (k : Nat) : ∀ i,(leftTo l k i).length + (restTo l k i).length + (if k < i then 1 else 0) = i
 | 0 => by simp [leftTo,restTo]
 | i + 1 => by
  have ih := left_count l k i
  rw [leftTo_succ,restTo_succ]
  rcases Nat.lt_trichotomy i k with h1 | h1 | h1
  ·have e1 : (decide (k < i) && goneB l k i) = false := by rw [goneB_low h1,Bool.and_false]
   rw [e1,goneB_low h1,if_neg Bool.false_ne_true,if_neg Bool.false_ne_true,List.length_append,List.length_singleton,if_neg (show ¬ k < i + 1 by omega)]
   rw [if_neg (show ¬ k < i by omega)] at ih
   omega
  ·subst h1
   have e1 : (decide (i < i) && goneB l i i) = false := by rw [show decide (i < i) = false from decide_eq_false (by omega)]; rfl
   rw [e1,goneB_self,if_pos rfl,if_neg Bool.false_ne_true,if_pos (show i < i + 1 by omega)]
   rw [if_neg (show ¬ i < i by omega)] at ih
   omega
  ·rw [show decide (k < i) = true from decide_eq_true h1,Bool.true_and,if_pos (show k < i + 1 by omega)]
   rw [if_pos h1] at ih
   cases goneB l k i with
   | true => rw [if_pos rfl,if_pos rfl,List.length_append,List.length_singleton]; omega
   | false => rw [if_neg Bool.false_ne_true,if_neg Bool.false_ne_true,List.length_append,List.length_singleton]; omega
end La
namespace La
open Go Go.Eng Go.Proofs
def loH (m : List (Int × Bool)) (G Y N : Nat → Nat) : List (Nat × Blk) := [(5,.cells 54 1 [[.mp 16]]),(16,.map (mB m))] ++ Yx [5,16] G Y N
theorem lo_ok (m : List (Int × Bool)) (f : Int) (G Y N : Nat → Nat) : FnOK Tryz.prog 44 [.int .i64 f,.ptr 5 1 0 0] (loH m G Y N) (fun r H => r = .bool (getB m f) ∧ Holds (loH m G Y N) H) := by
 unfold loH
 refine ZF tK (Tryz.func44) rfl (fun C => ?_)
 simp only [Tryz.ntmps44,Tryz.results44,go_sem]
 refine wG tK ?_
 refine wT ?_
 exact ⟨rfl,fun i b hb => hb⟩
theorem loIdx_ok (m : List (Int × Bool)) (l : List Int) (hlen : l.length ≤ 100000000) (G Y N : Nat → Nat) : FnOK Tryz.prog 70 [.sl (l.map ZI),.fn 44 [.ptr 5 1 0 0]] (loH m G Y N)
  (fun r H => r = .int .i64 (idxI (l.findIdx? (getB m))) ∧ Holds (loH m G Y N) H) := by
 unfold loH
 refine ZF tK (Tryz.func70) rfl (fun C => ?_)
 simp only [Tryz.ntmps70,Tryz.results70,go_sem]
 refine wG tK ?_
 refine ZL (fun i : Nat => i ≤ l.length ∧ ∀ x,x ∈ l.take i → getB m x = false) (fun i => l.length - i) (fun i => [(8,.int .i64 i),(5,.any),(9,.any),(10,.any),(11,.any),(12,.any),(13,.any),(14,.any),(15,.any),(16,.any),(17,.any),(18,.any)]) (fun _ => []) 0 ⟨by omega,by simp⟩ ?_ fun i hi => ?_
 ·simp only [go_sem]
  exact ZU (by simp [go_sem]) (by simp [go_sem]) (by simp [go_sem])
 obtain ⟨hi,hno⟩ := hi
 simp only [go_sem]
 refine wG tK ?_
 refine wD (fun h => ?_) (fun h => ?_)
 ·have hlt : i < l.length := by simp at h; omega
  have hg : (l.map ZI).getD i [] = ZI (l.getD i default) := Fam.getD hlt
  have htk := ZT hlt
  have hgi : l[i]? = some (l.getD i default) := by rw [List.getD_eq_getElem?_getD,List.getElem?_eq_getElem hlt]; rfl
  have hc := lo_ok m (l.getD i default)
  unfold loH at hc
  generalize l.getD i default = n at hg htk hgi hc
  refine wGq tK ?_ ?_ (by simp only [go_sem,hg,ZI]; try exact rfl)
  ·simp [hlt,ZI]
  refine wP [5,16] Tryz.func44 (hf := (hc)) (hk := ?_)
  refine wG tK ?_
  refine wD (fun h => ?_) (fun h => ?_)
  ·refine wG tK ?_
   refine wU ?_ ?_
   ·rw [findIdx_at hgi hno h]; rfl
   ·skip
    simp only [Yx,gH,gI,gJ,gK]
    repeat' refine ZH ?_ ?_
    all_goals first | exact YH _ | rfl | simp [go_sem]
  ·have hw : IntKind.i64.wrap ((i : Int) + 1) = (i : Int) + 1 := wrap_small (by omega) (by omega)
   refine wG tK ?_ (by simp only [go_sem,hw]; try exact rfl) (by simp [go_sem,hw])
   refine ZB ⟨i + 1,⟨by omega,?_⟩,by omega,ZU ?_ ?_ ?_⟩
   ·rw [htk]
    intro x hx
    rcases List.mem_append.1 hx with hx | hx
    ·exact hno x hx
    ·rw [List.mem_singleton.1 hx]; exact h
   ·simp [go_sem]
   ·simp [go_sem]
   ·simp [go_sem]
 ·have e : i = l.length := by simp at h; omega
  refine wG tK ?_
  refine wU ?_ ?_
  ·rw [e,List.take_length] at hno
   rw [List.findIdx?_eq_none_iff.2 hno]; rfl
  ·skip
   simp only [Yx,gH,gI,gJ,gK]
   repeat' refine ZH ?_ ?_
   all_goals first | exact YH _ | rfl | simp [go_sem]
theorem loAny_ok (m : List (Int × Bool)) (l : List Int) (hlen : l.length ≤ 100000000) (G Y N : Nat → Nat) : FnOK Tryz.prog 42 [.sl (l.map ZI),.fn 44 [.ptr 5 1 0 0]] (loH m G Y N)
  (fun r H => r = .bool (l.any (getB m)) ∧ Holds (loH m G Y N) H) := by
 have hc := loIdx_ok m l hlen
 unfold loH at hc ⊢
 refine ZF tK (Tryz.func42) rfl (fun C => ?_)
 simp only [Tryz.ntmps42,Tryz.results42,go_sem]
 refine wG tK ?_
 refine wP [5,16] Tryz.func70 (hf := (hc)) (hk := ?_)
 refine wG tK ?_
 refine wU ?_ ?_
 ·rw [idxI_any]
 ·skip
  simp only [Yx,gH,gI,gJ,gK]
  repeat' refine ZH ?_ ?_
  all_goals first | exact YH _ | rfl | simp [go_sem]
theorem mB_begin (k : Int) : Zp ([] : List (Int × AV)) k (.bool true) = mB (Zp [] k true) := rfl
theorem rests_held (l : List Rec) (k : Nat) (hk : k < l.length) (hlen : l.length ≤ 80000000) : FnOK Tryz.prog 23 [.sl (l.map ZR),.int .i64 k] []
  (fun r H => r = .osl 50 1 0 (restTo l k l.length).length ∧ ∀ i b,Yk [(50,.cells 3 1 ((restTo l k l.length).map ZI))] i = some b → Yk H i = some b) := by
 have hgk : (l.map ZR).getD k [] = ZR (l.getD k default) := Fam.getD hk
 have hst := lostAt_start l k
 have hlow := restTo_low l k (k + 1) (Nat.le_refl _)
 have hlk : k < 100000000 := by omega
 have hwk : IntKind.i64.wrap ((k : Int) + 1) = ((k + 1 : Nat) : Int) := by rw [Eng.wrap_small (by omega) (by omega)]; rfl
 generalize l.getD k default = rk at *
 refine ZF tK (Tryz.func23) rfl (fun C => ?_)
 simp only [Tryz.ntmps23,Tryz.results23,go_sem]
 refine wR ?_
 refine wN tK 1 ?_
 refine wR ?_
 refine wN tK 8 ?_
 refine Yn 15 (by simp only [go_sem]; exact rfl) (fun c15 h15 => ?_)
 simp only [go_sem]
 have hc : c15 = false := by
  subst h15
  simp; omega
 refine Vf (hc) ?_
 refine wGq tK ?_ ?_ (by simp only [go_sem,hgk,ZR,hwk]; try exact rfl)
 ·simp [hgk,ZR,hk,AV.deepB,AV.pureB]
 refine Yl (Ze 50 3 1 (by simp only [go_sem]; try exact rfl)) ?_
 simp only [go_sem]
 refine ZL (fun i : Nat => k + 1 ≤ i ∧ i ≤ l.length) (fun i => l.length - i) (fun i => [(6,.osl 50 1 0 (restTo l k i).length),(7,.int .i64 i),(26,.any),(27,.any),(28,.any),(29,.any),(30,.any),(31,.any),(32,.any),(33,.any),(34,.any),(35,.any),(36,.any),(37,.any),(38,.any),(39,.any),(40,.any),(41,.any),(42,.any),(43,.any),(44,.any),(45,.any),(46,.any),(47,.any),(48,.any),(49,.any),(50,.any)]) (fun i => [(16,.map (mB (lostAt l k i))),(50,.cells 3 1 ((restTo l k i).map ZI))]) (k + 1) ⟨by omega,by omega⟩ ?_ fun i hi => ?_
 ·rw [hlow,hst]
  simp only [go_sem]
  exact ZU (by simp [go_sem]) (by simp [go_sem,mB_begin]) (by simp [go_sem])
 obtain ⟨hki,hi⟩ := hi
 refine wG tK ?_
 refine wD (fun h => ?_) (fun h => ?_)
 ·have hlt : i < l.length := by simp at h; omega
  have hg : (l.map ZR).getD i [] = ZR (l.getD i default) := Fam.getD hlt
  have hwi := wi1 (i := i) (by omega)
  have hgo := goneB_high (l := l) (show k < i by omega)
  have hls := lostAt_succ l k i
  have hrs := restTo_succ l k i
  have hlc := left_count l k i
  rw [show decide (k < i) = true from decide_eq_true (by omega),Bool.true_and] at hrs
  generalize l.getD i default = r at *
  have hfi := fids_ok r.act
  have hf3 := fids_len r.act
  have hany := loAny_ok (lostAt l k i) (fids r.act) (by omega)
  rw [← hgo] at hany
  unfold loH at hany
  unfold ZA at hfi
  refine wGq tK ?_ ?_ (by simp only [go_sem,hg,ZR]; try exact rfl)
  ·simp [hg,ZR,hlt]
  refine wC Tryz.func43 (hf := (hfi)) (hk := ?_)
  refine wG tK ?_
  refine wP [5,16] Tryz.func42 (hf := (hany)) (hk := ?_)
  refine wG tK ?_
  cases hb : goneB l k i with
  | true =>
   rw [hb,if_pos rfl] at hls hrs
   refine wDT (hb := by simp) (hk := ?_)
   refine wG tK ?_
   refine ZW ZM ?_
   refine ZS rfl ?_
   refine sNq tK 7 ?_ ?_ (h := by simp only [go_sem,hg,ZR]; try exact rfl)
   ·simp [hg,ZR,hlt]
   refine sE ?_
   refine dS tK ?_
   refine wKd ?_
   try simp only [go_sem,gA,gB,gC]
   refine wGq tK ?_ ?_ (by simp only [go_sem,hwi]; try exact rfl)
   ·simp [rowsOf]; omega
   refine ZB ⟨i + 1,by omega,by omega,ZU ?_ ?_ ?_⟩
   ·simp [go_sem,hrs]
   ·simp [go_sem,hls,hrs,ZI]
   ·simp [go_sem]
  | false =>
   rw [hb,if_neg Bool.false_ne_true] at hls hrs
   refine wDF (hb := by simp) (hk := ?_)
   refine wG tK ?_ (by simp only [go_sem,hwi]; try exact rfl) (by simp [go_sem,hwi])
   refine ZB ⟨i + 1,by omega,by omega,ZU ?_ ?_ ?_⟩
   ·simp [go_sem,hrs]
   ·simp [go_sem,hls,hrs]
   ·simp [go_sem]
 ·have e : i = l.length := by simp at h; omega
  subst e
  refine wG tK ?_
  refine wT ?_
  simp [go_sem]
theorem rests_read (l : List Rec) (k : Nat) (hk : k < l.length) (hlen : l.length ≤ 80000000) : FnOK Tryz.prog 23 [.sl (l.map ZR),.int .i64 k] [] (fun r _ => r = .sl ((restTo l k l.length).map ZI)) := by
 have h := rests_held l k hk hlen
 have e : (restTo l k l.length).length = ((restTo l k l.length).map ZI).length := by simp
 rw [e] at h
 exact FnOK.read h (intRow_pure _)
def outK (l : List Rec) (k : Int) : Prop := k < 0 ∨ k ≥ l.length
theorem drop_out (l : List Rec) (k : Int) (ho : outK l k) (hlen : l.length ≤ 80000000) : FnOK Tryz.prog 26 [.sl (l.map ZR),.int .i64 k] [] (fun r _ => r = .tup [.nils,.int .i64 6]) := by
 unfold outK at ho
 refine ZF tK (Tryz.func26) rfl (fun C => ?_)
 simp only [Tryz.ntmps26,Tryz.results26,go_sem]
 refine wR ?_
 refine wN tK 2 ?_
 refine wR ?_
 refine wN tK 8 ?_
 refine Yn 17 (by simp only [go_sem]; exact rfl) (fun c17 h17 => ?_)
 simp only [go_sem]
 have hc : c17 = true := by
  subst h17
  rcases ho with h | h
  ·simp [h]
  ·by_cases h2 : k < 0
   ·simp [h2]
   ·simp [h]
 refine Vt (hc) ?_
 refine wG tK ?_
 refine wT ?_
 rfl
theorem drop_raw (l : List Rec) (k : Nat) (hk : k < l.length) (hl : SmallL l) (hlen : l.length ≤ 80000000) : FnOK Tryz.prog 26 [.sl (l.map ZR),.int .i64 k] []
  (fun r _ => r = .tup [.sl ((leftTo l k l.length).map ZR),.int .i64 0]) := by
 have hre := rests_held l k hk hlen
 have how := logs_own l hl
 have hcl := left_count l k l.length
 have hgl : (goneL l k).length ≤ 100000000 := by unfold goneL; simp; omega
 have hgr : (goneL l k).map ZI = (restTo l k l.length).map ZI ++ [[.int .i64 (k : Int)]] := by unfold goneL; rw [List.map_append]; rfl
 have hgln : (goneL l k).length = (restTo l k l.length).length + 1 := by unfold goneL; simp
 have hlk : k < 100000000 := by omega
 refine ZF tK (Tryz.func26) rfl (fun C => ?_)
 simp only [Tryz.ntmps26,Tryz.results26,go_sem]
 refine wR ?_
 refine wN tK 2 ?_
 refine wR ?_
 refine wN tK 8 ?_
 refine Yn 17 (by simp only [go_sem]; exact rfl) (fun c17 h17 => ?_)
 simp only [go_sem]
 have hc : c17 = false := by
  subst h17
  simp; omega
 refine Vf (hc) ?_
 refine wG tK ?_
 refine wCG [] 1000 Tryz.func23 (hf := (hre)) (hk := ?_)
 refine wGq tK ?_ ?_
 ·simp [rowsOf]; omega
 rw [← hgr,← hgln]
 refine ZZ 23 rfl (intRow_pure _) ?_
 simp only [go_sem]
 refine wC Tryz.func46 (hf := (how)) (hk := ?_)
 refine wG tK ?_
 refine Yl (Ze 39 56 9 (by simp only [go_sem]; try exact rfl)) ?_
 simp only [go_sem]
 refine ZL (fun i : Nat => i ≤ l.length) (fun i => l.length - i) (fun i => [(7,.osl 39 9 0 (leftTo l k i).length),(8,.any),(9,.any),(27,.int .i64 i),(28,.any),(29,.any),(30,.any),(31,.any),(32,.any),(33,.any),(34,.any),(35,.any),(36,.any),(37,.any),(38,.any),(39,.any),(40,.any)]) (fun i => [(39,.cells 56 9 ((leftTo l k i).map ZR))]) 0 (by omega) ?_ fun i hi => ?_
 ·simp only [go_sem]
  exact ZU (by simp [go_sem,leftTo]) (by simp [go_sem,leftTo]) (by simp [go_sem])
 simp only [go_sem]
 refine wG tK ?_
 refine wD (fun h => ?_) (fun h => ?_)
 ·have hlt : i < l.length := by simp at h; omega
  have hg : (l.map ZR).getD i [] = ZR (l.getD i default) := Fam.getD hlt
  have hwi := wi1 (i := i) (by omega)
  have hls := leftTo_succ l k i
  have hlc := left_count l k i
  have hcn := contains_ok (goneL l k) hgl (i : Int)
  rw [goneL_has hlt] at hcn
  generalize l.getD i default = r at *
  refine wGq tK ?_ ?_ (by simp only [go_sem,hg,ZR]; try exact rfl)
  ·simp [hg,ZR,hlt]
  refine wC Tryz.func48 (hf := (hcn)) (hk := ?_)
  refine wG tK ?_
  cases hb : goneB l k i with
  | true =>
   rw [hb,if_pos rfl] at hls
   refine wDF (hb := by simp) (hk := ?_)
   refine wG tK ?_ (by simp only [go_sem,hwi]; try exact rfl) (by simp [go_sem,hwi])
   refine ZB ⟨i + 1,by omega,by omega,ZU ?_ ?_ ?_⟩
   ·simp [go_sem,hls]
   ·simp [go_sem,hls]
   ·simp [go_sem]
  | false =>
   rw [hb,if_neg Bool.false_ne_true] at hls
   refine wDT (hb := by simp) (hk := ?_)
   refine wGq tK ?_ ?_ (by simp only [go_sem,hwi]; try exact rfl)
   ·simp [rowsOf]; omega
   refine ZB ⟨i + 1,by omega,by omega,ZU ?_ ?_ ?_⟩
   ·simp [go_sem,hls]
   ·simp [go_sem,hls,ZR]
   ·simp [go_sem]
 ·have e : i = l.length := by simp at h; omega
  subst e
  refine wG tK ?_
  refine ZZ 39 rfl (recRow_pure _) ?_
  simp only [go_sem]
  refine wT ?_
  simp
def Zf (t : List Node) (r : Rec) : Rec := match Yf t r.act.fid with
 | none => r
 | some n => if r.version ≥ 0 then { r with version := n.version } else r
def freshTo (t : List Node) (l : List Rec) (i : Nat) : List Rec := (l.take i).map (Zf t) ++ l.drop i
theorem freshTo_len (t : List Node) (l : List Rec) {i : Nat} (h : i ≤ l.length) : (freshTo t l i).length = l.length := by unfold freshTo; simp; omega
theorem freshTo_at (t : List Node) {l : List Rec} {i : Nat} (h : i < l.length) : (freshTo t l i).getD i default = l.getD i default := by
 unfold freshTo
 rw [List.getD_eq_getElem?_getD,List.getElem?_append_right (by simp; omega),List.getD_eq_getElem?_getD]
 simp
 rw [show min i l.length = i by omega,Nat.sub_self,Nat.add_zero]
theorem freshTo_succ (t : List Node) {l : List Rec} {i : Nat} (h : i < l.length) : freshTo t l (i + 1) = (freshTo t l i).set i (Zf t (l.getD i default)) := by
 unfold freshTo
 rw [ZT h,drop_getD h,List.map_append,List.append_assoc]
 have hl : ((l.take i).map (Zf t)).length = i := by simp; omega
 rw [List.set_append_right _ _ (by omega),hl,Nat.sub_self]
 rfl
theorem freshTo_same {t : List Node} {l : List Rec} {i : Nat} (h : i < l.length) (hs : Zf t (l.getD i default) = l.getD i default) : freshTo t l (i + 1) = freshTo t l i := by
 rw [freshTo_succ t h,hs]
 refine List.ext_getElem? fun j => ?_
 rw [List.getElem?_set]
 split
 ·rename_i e; subst e
  have := freshTo_at t h
  rw [List.getD_eq_getElem?_getD] at this
  have hl := freshTo_len t l (i := i) (by omega)
  rw [if_pos (by omega)]
  rw [List.getElem?_eq_getElem (by omega)] at this ⊢
  simp only [Option.getD_some] at this
  rw [this]
 ·rfl
theorem rfresh_ok (l : List Rec) (t : List Node) (hl : SmallL l) (hlen : l.length ≤ 80000000) (ht : Small t) : FnOK Tryz.prog 25 [.sl (l.map ZR),.sl (t.map ZN)] []
  (fun r _ => r = .sl ((l.map (Zf t)).map ZR)) := by
 have how := logs_ownH l hl
 have hz : freshTo t l 0 = l := by simp [freshTo]
 have hn : freshTo t l l.length = l.map (Zf t) := by unfold freshTo; rw [List.take_length,List.drop_length,List.append_nil]
 rw [← hn]
 refine ZF tK (Tryz.func25) rfl (fun C => ?_)
 simp only [Tryz.ntmps25,Tryz.results25,go_sem]
 refine wG tK ?_
 refine wCG [] 1000 Tryz.func46 (hf := (how)) (hk := ?_)
 refine wG tK ?_
 refine ZL (fun i : Nat => i ≤ l.length) (fun i => l.length - i) (fun i => [(6,.any),(7,.any),(8,.any),(9,.any),(14,.int .i64 i),(15,.any),(16,.any),(17,.any),(18,.any),(19,.any),(20,.any),(21,.any),(22,.any),(23,.any),(24,.any),(25,.any),(26,.any),(27,.any),(28,.any),(29,.any),(30,.any),(31,.any),(32,.any),(33,.any),(34,.any),(35,.any),(36,.any),(37,.any),(38,.any),(39,.any),(40,.any),(41,.any),(42,.any),(43,.any)]) (fun i => [(1019,.cells 56 9 ((freshTo t l i).map ZR))]) 0 (by omega) ?_ fun i hi => ?_
 ·rw [hz]
  simp only [go_sem]
  exact ZU (by simp [go_sem]) (by simp [go_sem]) (by simp [go_sem])
 simp only [go_sem]
 refine wG tK ?_
 refine wD (fun h => ?_) (fun h => ?_)
 ·have hlt : i < l.length := by simp at h; omega
  have hfl := freshTo_len t l hi
  have hg : ((freshTo t l i).map ZR).getD i [] = ZR (l.getD i default) := by rw [Fam.getD (by omega),freshTo_at t hlt]
  have hwi := wi1 (i := i) (by omega)
  have hsu := freshTo_succ t hlt
  have hsa := freshTo_same (t := t) hlt
  have hfd := find_ok t (l.getD i default).act.fid ht
  generalize l.getD i default = r at *
  refine wGq tK ?_ ?_ (by simp only [go_sem,hg,ZR]; try exact rfl)
  ·simp [hg,ZR,hlt,hfl]
  refine wC Tryz.func47 (hf := (hfd)) (hk := ?_)
  simp only [go_sem,findR]
  rw [isAt_eq]
  unfold Zf at hsu hsa
  cases hfn : Yf t r.act.fid with
  | none =>
   rw [hfn] at hsa hsu
   simp only at hsa hsu
   have hsa := hsa trivial
   simp only [Option.getD_none,Option.isSome_none]
   refine wGq tK ?_ ?_ (by simp only [go_sem,hg,ZR,Yz,ZN]; try exact rfl)
   ·simp [Yz,ZN]
   refine wDF (hb := by simp) (hk := ?_)
   refine wG tK ?_ (by simp only [go_sem,hwi]; try exact rfl) (by simp [go_sem,hwi])
   refine ZB ⟨i + 1,by omega,by omega,ZU ?_ ?_ ?_⟩
   ·simp [go_sem]
   ·simp [go_sem,hsa]
   ·simp [go_sem]
  | some n =>
   rw [hfn] at hsa hsu
   simp only at hsa hsu
   simp only [Option.getD_some,Option.isSome_some]
   refine wGq tK ?_ ?_ (by simp only [go_sem,hg,ZR,ZN]; try exact rfl)
   ·simp [hg,ZR,ZN,hfl,hlt]
   by_cases hv : r.version ≥ 0
   ·rw [if_pos hv] at hsu
    have Zh := set_map ZR (freshTo t l i) i { r with version := n.version }
    rw [← hsu] at Zh
    simp only [ZR] at Zh
    refine wDT (hb := by simp [hv]) (hk := ?_)
    refine wGq tK ?_ ?_ (by simp only [go_sem,hwi,hg,ZR,ZN]; try exact rfl)
    ·simp [hg,ZR,ZN,hfl,hlt]
    refine ZB ⟨i + 1,by omega,by omega,ZU ?_ ?_ ?_⟩
    ·simp [go_sem]
    ·simp [go_sem,hg,ZR,Zh,-List.map_set]
    ·simp [go_sem]
   ·rw [if_neg hv] at hsa
    have hsa := hsa rfl
    refine wDF (hb := by simp at hv; simp [hv]) (hk := ?_)
    refine wG tK ?_ (by simp only [go_sem,hwi]; try exact rfl) (by simp [go_sem,hwi])
    refine ZB ⟨i + 1,by omega,by omega,ZU ?_ ?_ ?_⟩
    ·simp [go_sem]
    ·simp [go_sem,hsa]
    ·simp [go_sem]
 ·have e : i = l.length := by simp at h; omega
  subst e
  refine wG tK ?_
  refine ZZ 1019 rfl (recRow_pure _) ?_
  simp only [go_sem]
  have hfl := freshTo_len t l (Nat.le_refl l.length)
  have htk : ((freshTo t l l.length).map ZR).take l.length = (freshTo t l l.length).map ZR := List.take_of_length_le (by simp [hfl])
  refine wT ?_
  rw [if_pos (by omega),htk]
theorem freshR_fit {t : List Node} {r : Rec} (h : ActFit r.act) : ActFit (Zf t r).act := by
 unfold Zf
 split
 ·exact h
 ·split <;> exact h
theorem freshR_small {t : List Node} {r : Rec} (h : r.act.Small) : (Zf t r).act.Small := by
 unfold Zf
 split
 ·exact h
 ·split <;> exact h
theorem freshL_small {t : List Node} {l : List Rec} (h : SmallL l) : SmallL (l.map (Zf t)) := ⟨by rw [List.length_map]; exact h.len,fun r hr => by
 obtain ⟨q,hq,rfl⟩ := List.mem_map.1 hr
 exact freshR_small (h.each q hq)⟩
theorem force_ok (s : Srv) (h : SrvOK 40000000 s) (c : Int) (l : List Rec) (hl : SmallL l) (hl2 : l.length ≤ 2000000) (hfit : ∀ r,r ∈ l → ActFit r.act) :
  FnOK Tryz.prog 27 [.agg (ZQ s),.int .i64 c,.sl (l.map ZR)] []
   (fun r _ => r = .tup [.agg (ZQ (takeS s c (l.map (Zf s.tree)))),.sl ((judgeJ s.tree s.next ((s.past.length + 1 : Nat) : Int) (l.map (Zf s.tree))).vs.map ZV)]) := by
 have hfr := rfresh_ok l s.tree hl (by omega) h.hist.good.small
 have htk := take_ok s h c (l.map (Zf s.tree)) (freshL_small hl) (by rw [List.length_map]; exact hl2) (fun r hr => by
  obtain ⟨q,hq,rfl⟩ := List.mem_map.1 hr
  exact freshR_fit (hfit q hq))
 generalize takeS s c (l.map (Zf s.tree)) = q at *
 generalize judgeJ s.tree s.next ((s.past.length + 1 : Nat) : Int) (l.map (Zf s.tree)) = g at *
 generalize l.map (Zf s.tree) = l2 at *
 unfold ZQ at htk ⊢
 refine ZF tK (Tryz.func27) rfl (fun C => ?_)
 simp only [Tryz.ntmps27,Tryz.results27,go_sem]
 refine wG tK ?_
 refine ZZ 3 rfl (rfl) ?_
 simp only [go_sem]
 refine ZW ZM ?_
 refine ZS rfl ?_
 refine sN tK 5 ?_
 refine sC Tryz.func25 (hf := (hfr)) (hk := ?_)
 refine sC Tryz.func15 (hf := (htk)) (hk := ?_)
 refine sN tK 2 ?_
 refine sT tK ?_
 refine sN tK 1 ?_
 refine sE ?_
 refine wKd ?_
 try simp only [go_sem,gA,gB,gC]
 refine wG tK ?_
 refine wT ?_
 rfl
theorem freshR_act (t : List Node) (r : Rec) : (Zf t r).act = r.act := by
 unfold Zf
 split
 ·rfl
 ·split <;> rfl
def onB (m : List (Int × Bool)) (a : Act) : Bool := (fids a).any (getB m)
structure RT (l : List Rec) (k : Int) (LO : Nat → List (Int × Bool)) (RE : Nat → List Int) (LE : Nat → List Rec) : Prop where
 lo0 : LO 0 = []
 re0 : RE 0 = []
 le0 : LE 0 = []
 gone : ∀ i,i < l.length → ((i : Int) = k ∨ ((i : Int) > k ∧ onB (LO i) (l.getD i default).act = true)) → LO (i + 1) = Zp (LO i) (l.getD i default).act.fid true ∧ LE (i + 1) = LE i
 stay : ∀ i,i < l.length → ¬ ((i : Int) = k ∨ ((i : Int) > k ∧ onB (LO i) (l.getD i default).act = true)) → LO (i + 1) = LO i ∧ LE (i + 1) = LE i ++ [l.getD i default]
 rest : ∀ i,i < l.length → (((i : Int) > k ∧ onB (LO i) (l.getD i default).act = true) ∧ k ≥ 0) → RE (i + 1) = RE i ++ [(i : Int)]
 norest : ∀ i,i < l.length → ¬ (((i : Int) > k ∧ onB (LO i) (l.getD i default).act = true) ∧ k ≥ 0) → RE (i + 1) = RE i
 reLen : ∀ i,(RE i).length ≤ i
 leLen : ∀ i,(LE i).length ≤ i
theorem onB_nil (a : Act) : onB [] a = false := by
 unfold onB
 rw [List.any_eq_false]
 intro x _
 simp [getB_nil]
theorem rt_in {l : List Rec} {k : Nat} (hk : k < l.length) : RT l (k : Int) (lostAt l k) (restTo l k) (leftTo l k) := by
 have hgi : ∀ i : Nat,((i : Int) = (k : Int) ∨ ((i : Int) > (k : Int) ∧ onB (lostAt l k i) (l.getD i default).act = true)) ↔ goneB l k i = true := fun i => by
  rcases Nat.lt_trichotomy i k with h | h | h
  ·rw [goneB_low h]
   constructor
   ·rintro (h1 | ⟨h1,_⟩) <;> omega
   ·intro h1; cases h1
  ·subst h
   exact ⟨fun _ => goneB_self l i,fun _ => .inl rfl⟩
  ·rw [goneB_high h]
   constructor
   ·rintro (h1 | ⟨_,h1⟩)
    ·omega
    ·exact h1
   ·exact fun h1 => .inr ⟨by omega,h1⟩
 have hri : ∀ i : Nat,(((i : Int) > (k : Int) ∧ onB (lostAt l k i) (l.getD i default).act = true) ∧ (k : Int) ≥ 0) ↔ (decide (k < i) && goneB l k i) = true := fun i => by
  rw [Bool.and_eq_true,decide_eq_true_eq]
  constructor
  ·rintro ⟨⟨h1,h2⟩,_⟩
   exact ⟨by omega,(hgi i).1 (.inr ⟨h1,h2⟩)⟩
  ·rintro ⟨h1,h2⟩
   rcases (hgi i).2 h2 with h3 | h3
   ·omega
   ·exact ⟨h3,by omega⟩
 have hlc := left_count l k
 refine ⟨rfl,rfl,rfl,fun i _ h => ?_,fun i _ h => ?_,fun i _ h => ?_,fun i _ h => ?_,fun i => ?_,fun i => ?_⟩
 ·exact ⟨by rw [lostAt_succ,if_pos ((hgi i).1 h)],by rw [leftTo_succ,if_pos ((hgi i).1 h)]⟩
 ·exact ⟨by rw [lostAt_succ,if_neg (fun h2 => h ((hgi i).2 h2))],by rw [leftTo_succ,if_neg (fun h2 => h ((hgi i).2 h2))]⟩
 ·rw [restTo_succ,if_pos ((hri i).1 h)]
 ·rw [restTo_succ,if_neg (fun h2 => h ((hri i).2 h2))]
 ·have := hlc i; omega
 ·have := hlc i; omega
theorem rt_out {l : List Rec} {k : Int} (hk : outK l k) : RT l k (fun _ => []) (fun _ => []) (fun i => l.take i) where
 lo0 := rfl
 re0 := rfl
 le0 := by simp
 gone := fun i hi h => by
  exfalso
  rw [onB_nil] at h
  unfold outK at hk
  rcases h with h | ⟨_,h⟩
  ·omega
  ·cases h
 stay := fun i hi _ => ⟨rfl,ZT hi⟩
 rest := fun i hi h => by
  exfalso
  rw [onB_nil] at h
  cases h.1.2
 norest := fun i hi _ => rfl
 reLen := fun i => by simp
 leLen := fun i => by simp; omega
theorem rests_outR (l : List Rec) (k : Int) (ho : outK l k) (hlen : l.length ≤ 80000000) : FnOK Tryz.prog 23 [.sl (l.map ZR),.int .i64 k] [] (fun r _ => r = .nils) := by
 unfold outK at ho
 refine ZF tK (Tryz.func23) rfl (fun C => ?_)
 simp only [Tryz.ntmps23,Tryz.results23,go_sem]
 refine wR ?_
 refine wN tK 1 ?_
 refine wR ?_
 refine wN tK 8 ?_
 refine Yn 15 (by simp only [go_sem]; exact rfl) (fun c15 h15 => ?_)
 simp only [go_sem]
 have hc : c15 = true := by
  subst h15
  rcases ho with h | h
  ·simp [h]
  ·by_cases h2 : k < 0
   ·simp [h2]
   ·simp [h]
 refine Vt (hc) ?_
 refine wG tK ?_
 refine wT ?_
 rfl
theorem rests_out (l : List Rec) (k : Int) (ho : outK l k) (hlen : l.length ≤ 80000000) : FnOK Tryz.prog 23 [.sl (l.map ZR),.int .i64 k] [] (fun r _ => r = .sl (([] : List Int).map ZI)) := FnOK.nrmR (rests_outR l k ho hlen) rfl
theorem drop_outS (l : List Rec) (k : Int) (ho : outK l k) (hlen : l.length ≤ 80000000) : FnOK Tryz.prog 26 [.sl (l.map ZR),.int .i64 k] [] (fun r _ => r = .tup [.sl (([] : List Rec).map ZR),.int .i64 6]) := FnOK.nrmR (drop_out l k ho hlen) rfl
def freshU (t : List Node) (l : List Rec) (i : Nat) : List Rec := (l.take i).map (Zf t)
theorem freshU_succ (t : List Node) {l : List Rec} {i : Nat} (h : i < l.length) : freshU t l (i + 1) = freshU t l i ++ [Zf t (l.getD i default)] := by
 unfold freshU
 rw [ZT h,List.map_append]; rfl
theorem freshU_len (t : List Node) (l : List Rec) (i : Nat) : (freshU t l i).length ≤ i := by unfold freshU; simp; omega
theorem onT_succ {F : List Int} {m : List (Int × Bool)} {j : Nat} (h : j < F.length) : (F.take (j + 1)).any (getB m) = ((F.take j).any (getB m) || getB m (F.getD j 0)) := by
 have : F.take (j + 1) = F.take j ++ [F.getD j 0] := by rw [List.take_add_one,List.getD_eq_getElem?_getD,List.getElem?_eq_getElem h]; rfl
 rw [this,List.any_append]
 simp
theorem forceTake (s : Srv) (h : SrvOK 40000000 s) (c : Int) (l : List Rec) (hl : SmallL l) (hlen : l.length ≤ 2000000) (hfit : ∀ r,r ∈ l → ActFit r.act) : ∃ (S : Srv) (vs : List Verdict),
  FnOK Tryz.prog 27 [.agg (ZQ s),.int .i64 c,.sl (l.map ZR)] [] (fun r _ => r = .tup [.agg (ZQ S),.sl (vs.map ZV)]) ∧
  FnOK Tryz.prog 16 [.agg (ZQ s),.int .i64 c,.sl ((l.map (Zf s.tree)).map ZR)] [] (fun r _ => r = .tup [.agg (ZQ S),.sl (vs.map ZV)]) ∧
  FnOK Tryz.prog 8 [.agg (ZQ S),.agg (ZQ S)] [] (fun r _ => r = .bool true) ∧
  FnOK Tryz.prog 17 [.sl (vs.map ZV),.sl (vs.map ZV)] [] (fun r _ => r = .bool true) := by
 have hfit2 : ∀ r,r ∈ l.map (Zf s.tree) → ActFit r.act := fun r hr => by
  obtain ⟨q,hq,rfl⟩ := List.mem_map.1 hr
  rw [freshR_act]
  exact hfit q hq
 have hl2 : (l.map (Zf s.tree)).length ≤ 2000000 := by rw [List.length_map]; exact hlen
 have hs2 := h.take c hfit2
 have hvl : (judgeJ s.tree s.next ((s.past.length + 1 : Nat) : Int) (l.map (Zf s.tree))).vs.length = (l.map (Zf s.tree)).length := (JInv.judge h.hist c s.next _ hfit2).vlen
 exact ⟨_,_,force_ok s h c l hl hlen hfit,rtake_ok s h (by omega) c _ hl2 hfit2,sameServer_self _ hs2.hist.good.small (by have := hs2.len; omega),sameVerdicts_self _ (by omega)⟩
theorem repTells_loop (rooms : List Int) (steps : List Step) (l : List Rec) (hlen : l.length ≤ 2000000) (hl : SmallL l) (hfit : ∀ r,r ∈ l → ActFit r.act) (k : Int) (c : Int) (LO : Nat → List (Int × Bool)) (RE : Nat → List Int) (LE : Nat → List Rec) (hRT : RT l k LO RE LE) (W : Wor) (t : List Node) (ht : W.s.tree = t) (hup : Up t) (hts : Small t) (htl : t.length ≤ 100)
  (hb : FnOK Tryz.prog 7 [.sl (rooms.map ZI),.sl (steps.map ZX)] [] (fun r _ => r = .agg (worRow W)))
  (hre : FnOK Tryz.prog 23 [.sl (l.map ZR),.int .i64 k] [] (fun r _ => r = .sl ((RE l.length).map ZI)))
  (dm : List Rec) (de : Int) (hdr : FnOK Tryz.prog 26 [.sl (l.map ZR),.int .i64 k] [] (fun r _ => r = .tup [.sl (dm.map ZR),.int .i64 de]))
  (hd : (outK l k ∧ dm = [] ∧ de = 6) ∨ (¬ outK l k ∧ dm = LE l.length ∧ de = 0))
  (hs : t.length = 0 ∨ SrvOK 40000000 W.s) :
  FnOK Tryz.prog 4 [.sl (l.map ZR),.int .i64 k,.sl (rooms.map ZI),.sl (steps.map ZX),.int .i64 c] [] (fun r _ => r = .bool true) := by
 have hof := of_rm t (by omega)
 have hgf : ∀ k,Zg (mN (mapD t)) k = (Yf t k).map fun n => AV.agg (ZN n) := fun k => by rw [mN_get,mapD_get hup]
 have hfz : freshU t l 0 = [] := by simp [freshU]
 have hfs := fun i => @freshU_succ t l i
 have hfl := freshU_len t l
 have hfe : freshU t l l.length = l.map (Zf t) := by unfold freshU; rw [List.take_length]
 generalize freshU t l = FU at *
 have hrl := hRT.reLen
 have hll := hRT.leLen
 have hl0 := hRT.lo0
 have hr0 := hRT.re0
 have he0 := hRT.le0
 unfold worRow at hb
 rw [ht] at hb
 refine ZF tK (Tryz.func4) rfl (fun C => ?_)
 simp only [Tryz.ntmps4,Tryz.results4,go_sem]
 refine wG tK ?_
 refine wC Tryz.func7 (hf := (hb)) (hk := ?_)
 refine wG tK ?_
 refine wC Tryz.func20 (hf := (hof)) (hk := ?_)
 refine wG tK ?_
 refine Yl (Ze 73 3 1 (by simp only [go_sem]; try exact rfl)) ?_
 refine Yl (Ze 92 56 9 (by simp only [go_sem]; try exact rfl)) ?_
 refine Yl (Ze 113 56 9 (by simp only [go_sem]; try exact rfl)) ?_
 simp only [go_sem]
 refine ZL (fun i : Nat => i ≤ l.length) (fun i => l.length - i) (fun i => [(14,.osl 73 1 0 (RE i).length),(15,.osl 92 9 0 (LE i).length),(16,.osl 113 9 0 (FU i).length),(17,.any),(18,.any),(19,.any),(20,.any),(21,.any),(22,.any),(23,.any),(40,.int .i64 i),(41,.any),(42,.any),(43,.any),(44,.any),(45,.any),(46,.any),(47,.any),(48,.any),(49,.any),(50,.any),(51,.any),(52,.any),(53,.any),(54,.any),(55,.any),(56,.any),(57,.any),(58,.any),(59,.any),(60,.any),(61,.any),(62,.any),(63,.any),(64,.any),(65,.any),(66,.any),(67,.any),(68,.any),(69,.any),(70,.any),(71,.any),(72,.any),(73,.any),(74,.any),(75,.any),(76,.any),(77,.any),(78,.any),(79,.any),(80,.any),(81,.any),(82,.any),(83,.any),(84,.any),(85,.any),(86,.any),(87,.any),(88,.any),(89,.any),(90,.any),(91,.any),(92,.any),(93,.any),(94,.any),(95,.any),(96,.any),(97,.any),(98,.any),(99,.any),(100,.any),(101,.any),(102,.any),(103,.any),(104,.any),(105,.any),(106,.any),(107,.any),(108,.any),(109,.any),(110,.any),(111,.any),(112,.any),(113,.any),(114,.any)])
  (fun i => [(37,.map (mB (LO i))),(73,.cells 3 1 ((RE i).map ZI)),(92,.cells 56 9 ((LE i).map ZR)),(113,.cells 56 9 ((FU i).map ZR))]) 0 (by omega) ?_ fun i hi => ?_
 ·rw [hl0,hr0,he0,hfz]
  simp only [go_sem]
  exact ZU (by simp [go_sem]) (by simp [go_sem,mB]) (by simp [go_sem,mB])
 simp only [go_sem]
 refine wG tK ?_
 refine wD (fun h => ?_) (fun h => ?_)
 ·have hlt : i < l.length := by simp at h; omega
  have hg : (l.map ZR).getD i [] = ZR (l.getD i default) := Fam.getD hlt
  have how' := wi1 (i := i) (by omega)
  have hgone := hRT.gone i hlt
  have hstay := hRT.stay i hlt
  have hrest := hRT.rest i hlt
  have hnorest := hRT.norest i hlt
  have hrli := hrl i
  have hlli := hll i
  have hfli := hfl i
  have hfu0 := hfs i hlt
  have hfi := refFids_ok (l.getD i default).act
  have hfn3 := fids_len (l.getD i default).act
  unfold onB at hgone hstay hrest hnorest
  generalize l.getD i default = r at *
  have hfu : ∀ q,q = r → FU (i + 1) = FU i ++ [Zf t q] := fun q hq => by rw [hq]; exact hfu0
  have hg1 := hgf r.act.fid
  generalize fids r.act = F at *
  generalize LO i = LOi at *
  generalize RE i = REi at *
  generalize LE i = LEi at *
  generalize FU i = FUi at *
  have htqR : List.take REi.length (REi.map ZI) = REi.map ZI := List.take_of_length_le (by simp)
  have htqL : List.take LEi.length (LEi.map ZR) = LEi.map ZR := List.take_of_length_le (by simp)
  have htqF : List.take FUi.length (FUi.map ZR) = FUi.map ZR := List.take_of_length_le (by simp)
  unfold ZA at hfi
  refine wR ?_
  refine wNq tK 6 ?_ ?_ (h := by simp only [go_sem,hg,ZR]; try exact rfl)
  ·simp [hg,ZR,hlt]
  refine wG tK ?_
  refine wC Tryz.func21 (hf := (hfi)) (hk := ?_)
  refine wG tK ?_
  refine ZL (fun j : Nat => j ≤ F.length) (fun j => F.length - j) (fun j => [(19,.bool ((F.take j).any (getB LOi))),(21,.any),(49,.int .i64 j),(50,.any),(51,.any),(52,.any),(53,.any),(54,.any),(55,.any),(56,.any),(57,.any),(58,.any),(59,.any)]) (fun _ => []) 0 (by omega) ?_ fun j hj => ?_
  ·simp only [go_sem]
   exact ZU (by simp [go_sem]) (by simp [go_sem]) (by simp [go_sem])
  simp only [go_sem]
  refine wG tK ?_
  refine wD (fun h => ?_) (fun h => ?_)
  ·have hltj : j < F.length := by simp at h; omega
   have hgj : (F.map ZI).getD j [] = [.int .i64 (F.getD j 0)] := by
    rw [List.getD_eq_getElem?_getD,List.getElem?_map,List.getD_eq_getElem?_getD,List.getElem?_eq_getElem hltj]; rfl
   have howj : IntKind.i64.wrap ((j : Int) + 1) = ((j + 1 : Nat) : Int) := by rw [Eng.wrap_small (by omega) (by omega)]; rfl
   have hos := @onT_succ F LOi j hltj
   generalize F.getD j 0 = f at *
   generalize (F.take j).any (getB LOi) = o at *
   refine wGq tK ?_ ?_ (by simp only [go_sem,hgj,howj]; try exact rfl)
   ·simp [hgj,hltj]
   refine ZB ⟨j + 1,by omega,by omega,ZU ?_ ?_ ?_⟩
   ·simp [go_sem,hos]
    exact howj
   ·simp [go_sem]
   ·simp [go_sem]
  ·have e : j = F.length := by simp at h; omega
   subst e
   rw [List.take_length]
   generalize F.any (getB LOi) = on at *
   refine wR ?_
   refine wN tK 10 ?_
   refine Yn 69 (by simp only [go_sem]; exact rfl) (fun c69 h69 => ?_)
   simp only [go_sem]
   have hc1 : c69 = true ↔ (((i : Int) > k ∧ on = true) ∧ k ≥ 0) := by
    rw [← h69]
    cases on <;> by_cases h1 : (i : Int) > k <;> simp [h1]
   clear h69
   refine wG tK ?_
   by_cases hrc : ((i : Int) > k ∧ on = true) ∧ k ≥ 0
   ·have hRE := hrest hrc
    have hgc : (i : Int) = k ∨ ((i : Int) > k ∧ on = true) := .inr hrc.1
    obtain ⟨hLO,hLE⟩ := hgone hgc
    refine Vt (hc1.2 hrc) ?_
    refine wR ?_
    refine wNq tK 5 ?_ ?_
    ·simp [htqR,refs,ZI]
     omega
    refine wR ?_
    refine wNq tK 11 ?_ ?_
    ·simp
     try exact fun h => ⟨h,fun h2 => ⟨h,h2⟩⟩
    refine Yn 84 (by simp only [go_sem]; exact rfl) (fun c84 h84 => ?_)
    simp only [go_sem]
    have hc2 : c84 = true := by
     rw [← h84]
     have h1 := hrc.1.1
     have h2 := hrc.1.2
     by_cases h3 : (i : Int) = k <;> simp [h1,h2,h3]
    clear h84
    refine Vt (hc2) ?_
    refine wR ?_
    refine wN tK 5 ?_ (h := by simp only [go_sem,mB_put]; try exact rfl) (hp := by simp [go_sem,mB_put])
    refine wR ?_
    refine wNq tK 4 ?_ ?_
    ·simp
    cases hff : Yf t r.act.fid with
    | none =>
     have hFU := hfu r rfl
     rw [hff] at hg1
     simp only [Option.map_none] at hg1
     simp only [Zf,hff] at hFU
     refine wN tK 1 ?_ (h := by simp only [go_sem,hg1]; try exact rfl) (hp := by simp [go_sem,hg1])
     refine wG tK ?_
     refine Vf rfl ?_
     refine wGq tK ?_ ?_ (by simp only [go_sem,how']; try exact rfl)
     ·simp [htqF,refs]
      try omega
     refine ZB ⟨i + 1,by omega,by omega,ZU ?_ ?_ ?_⟩
     ·simp [go_sem,hLE,hRE,hLO,hFU]
     ·simp [go_sem,hLE,hRE,hLO,hFU,htqR,htqL,htqF,ZR,ZI]
     ·simp [go_sem]
    | some n =>
     have hFU := hfu r rfl
     rw [hff] at hg1
     simp only [Option.map_some] at hg1
     refine wN tK 1 ?_ (h := by simp only [go_sem,hg1,ZN]; try exact rfl) (hp := by simp [go_sem,hg1,ZN])
     refine wG tK ?_
     by_cases hv : r.version ≥ 0
     ·simp only [Zf,hff,if_pos hv] at hFU
      refine wDT (hb := by simp [hv]) (hk := ?_)
      refine wGq tK ?_ ?_ (by simp only [go_sem,how']; try exact rfl)
      ·simp [htqF,refs]
       try omega
      refine ZB ⟨i + 1,by omega,by omega,ZU ?_ ?_ ?_⟩
      ·simp [go_sem,hLE,hRE,hLO,hFU]
      ·simp [go_sem,hLE,hRE,hLO,hFU,htqR,htqL,htqF,ZR,ZI]
      ·simp [go_sem]
     ·simp only [Zf,hff,if_neg hv] at hFU
      refine wDF (hb := by simp at hv; simp [hv]) (hk := ?_)
      refine wGq tK ?_ ?_ (by simp only [go_sem,how']; try exact rfl)
      ·simp [htqF,refs]
       try omega
      refine ZB ⟨i + 1,by omega,by omega,ZU ?_ ?_ ?_⟩
      ·simp [go_sem,hLE,hRE,hLO,hFU]
      ·simp [go_sem,hLE,hRE,hLO,hFU,htqR,htqL,htqF,ZR,ZI]
      ·simp [go_sem]
   ·have hRE := hnorest hrc
    refine wDF (hb := by simpa using fun h0 => hrc (hc1.1 h0)) (hk := ?_)
    refine wR ?_
    refine wNq tK 11 ?_ ?_
    ·simp
     try exact fun h => ⟨h,fun h2 => ⟨h,h2⟩⟩
    refine Yn 84 (by simp only [go_sem]; exact rfl) (fun c84 h84 => ?_)
    simp only [go_sem]
    have hc2 : c84 = true ↔ ((i : Int) = k ∨ ((i : Int) > k ∧ on = true)) := by
     rw [← h84]
     by_cases h3 : (i : Int) = k
     ·simp [h3]
     ·by_cases h1 : (i : Int) > k <;> cases on <;> simp [h1,h3]
    clear h84
    by_cases hgc : (i : Int) = k ∨ ((i : Int) > k ∧ on = true)
    ·obtain ⟨hLO,hLE⟩ := hgone hgc
     refine Vt (hc2.2 hgc) ?_
     refine wR ?_
     refine wN tK 5 ?_ (h := by simp only [go_sem,mB_put]; try exact rfl) (hp := by simp [go_sem,mB_put])
     refine wR ?_
     refine wNq tK 4 ?_ ?_
     ·simp
     cases hff : Yf t r.act.fid with
     | none =>
      have hFU := hfu r rfl
      rw [hff] at hg1
      simp only [Option.map_none] at hg1
      simp only [Zf,hff] at hFU
      refine wN tK 1 ?_ (h := by simp only [go_sem,hg1]; try exact rfl) (hp := by simp [go_sem,hg1])
      refine wG tK ?_
      refine Vf rfl ?_
      refine wGq tK ?_ ?_ (by simp only [go_sem,how']; try exact rfl)
      ·simp [htqF,refs]
       try omega
      refine ZB ⟨i + 1,by omega,by omega,ZU ?_ ?_ ?_⟩
      ·simp [go_sem,hLE,hRE,hLO,hFU]
      ·simp [go_sem,hLE,hRE,hLO,hFU,htqR,htqL,htqF,ZR,ZI]
      ·simp [go_sem]
     | some n =>
      have hFU := hfu r rfl
      rw [hff] at hg1
      simp only [Option.map_some] at hg1
      refine wN tK 1 ?_ (h := by simp only [go_sem,hg1,ZN]; try exact rfl) (hp := by simp [go_sem,hg1,ZN])
      refine wG tK ?_
      by_cases hv : r.version ≥ 0
      ·simp only [Zf,hff,if_pos hv] at hFU
       refine wDT (hb := by simp [hv]) (hk := ?_)
       refine wGq tK ?_ ?_ (by simp only [go_sem,how']; try exact rfl)
       ·simp [htqF,refs]
        try omega
       refine ZB ⟨i + 1,by omega,by omega,ZU ?_ ?_ ?_⟩
       ·simp [go_sem,hLE,hRE,hLO,hFU]
       ·simp [go_sem,hLE,hRE,hLO,hFU,htqR,htqL,htqF,ZR,ZI]
       ·simp [go_sem]
      ·simp only [Zf,hff,if_neg hv] at hFU
       refine wDF (hb := by simp at hv; simp [hv]) (hk := ?_)
       refine wGq tK ?_ ?_ (by simp only [go_sem,how']; try exact rfl)
       ·simp [htqF,refs]
        try omega
       refine ZB ⟨i + 1,by omega,by omega,ZU ?_ ?_ ?_⟩
       ·simp [go_sem,hLE,hRE,hLO,hFU]
       ·simp [go_sem,hLE,hRE,hLO,hFU,htqR,htqL,htqF,ZR,ZI]
       ·simp [go_sem]
    ·obtain ⟨hLO,hLE⟩ := hstay hgc
     refine wDF (hb := by simpa using fun h0 => hgc (hc2.1 h0)) (hk := ?_)
     refine wR ?_
     refine wNq tK 5 ?_ ?_
     ·simp [htqL,refs]
      omega
     refine wR ?_
     refine wNq tK 4 ?_ ?_
     ·simp
     cases hff : Yf t r.act.fid with
     | none =>
      have hFU := hfu r rfl
      rw [hff] at hg1
      simp only [Option.map_none] at hg1
      simp only [Zf,hff] at hFU
      refine wN tK 1 ?_ (h := by simp only [go_sem,hg1]; try exact rfl) (hp := by simp [go_sem,hg1])
      refine wG tK ?_
      refine Vf rfl ?_
      refine wGq tK ?_ ?_ (by simp only [go_sem,how']; try exact rfl)
      ·simp [htqF,refs]
       try omega
      refine ZB ⟨i + 1,by omega,by omega,ZU ?_ ?_ ?_⟩
      ·simp [go_sem,hLE,hRE,hLO,hFU]
      ·simp [go_sem,hLE,hRE,hLO,hFU,htqR,htqL,htqF,ZR,ZI]
      ·simp [go_sem]
     | some n =>
      have hFU := hfu r rfl
      rw [hff] at hg1
      simp only [Option.map_some] at hg1
      refine wN tK 1 ?_ (h := by simp only [go_sem,hg1,ZN]; try exact rfl) (hp := by simp [go_sem,hg1,ZN])
      refine wG tK ?_
      by_cases hv : r.version ≥ 0
      ·simp only [Zf,hff,if_pos hv] at hFU
       refine wDT (hb := by simp [hv]) (hk := ?_)
       refine wGq tK ?_ ?_ (by simp only [go_sem,how']; try exact rfl)
       ·simp [htqF,refs]
        try omega
       refine ZB ⟨i + 1,by omega,by omega,ZU ?_ ?_ ?_⟩
       ·simp [go_sem,hLE,hRE,hLO,hFU]
       ·simp [go_sem,hLE,hRE,hLO,hFU,htqR,htqL,htqF,ZR,ZI]
       ·simp [go_sem]
      ·simp only [Zf,hff,if_neg hv] at hFU
       refine wDF (hb := by simp at hv; simp [hv]) (hk := ?_)
       refine wGq tK ?_ ?_ (by simp only [go_sem,how']; try exact rfl)
       ·simp [htqF,refs]
        try omega
       refine ZB ⟨i + 1,by omega,by omega,ZU ?_ ?_ ?_⟩
       ·simp [go_sem,hLE,hRE,hLO,hFU]
       ·simp [go_sem,hLE,hRE,hLO,hFU,htqR,htqL,htqF,ZR,ZI]
       ·simp [go_sem]
 ·have e : i = l.length := by simp at h; omega
  subst e
  have hrn := hrl l.length
  have hln := hll l.length
  have hsi := sameInts_self (RE l.length) (by omega)
  have hfr := rfresh_ok l t hl (by omega) hts
  have hsl := sameLog_ok (l.map (Zf t)) (l.map (Zf t)) (by simp; omega) (by simp; omega)
  have hsl2 := sameLog_ok (LE l.length) (LE l.length) (by omega) (by omega)
  rw [decide_eq_true rfl] at hsl hsl2
  rw [hfe]
  generalize RE l.length = RN at *
  generalize LE l.length = LN at *
  have htqF : List.take l.length ((l.map (Zf t)).map ZR) = (l.map (Zf t)).map ZR := List.take_of_length_le (by simp)
  refine ZZ 73 rfl (intRow_pure _) ?_
  simp only [go_sem]
  refine ZZ 92 rfl (recRow_pure _) ?_
  simp only [go_sem]
  refine ZZ 113 rfl (recRow_pure _) ?_
  simp only [go_sem,htqF]
  refine wG tK ?_
  refine wC Tryz.func23 (hf := (hre)) (hk := ?_)
  refine wG tK ?_
  refine wC Tryz.func22 (hf := (hsi)) (hk := ?_)
  refine wG tK ?_
  refine wCC Tryz.func25 (hf := fun hb => (hfr)) (hk := ?_)
  refine wG tK ?_
  refine wCC Tryz.func24 (hf := fun hb => (hsl)) (hk := ?_)
  refine wG tK ?_
  refine Vf rfl ?_
  refine wG tK ?_
  refine wC Tryz.func26 (hf := (hdr)) (hk := ?_)
  refine wR ?_
  refine wN tK 5 ?_
  refine wR ?_
  refine wN tK 8 ?_
  refine Yn 143 (by simp only [go_sem]; exact rfl) (fun c143 h143 => ?_)
  simp only [go_sem]
  have hc3 : c143 = true ↔ outK l k := by
   rw [← h143]
   unfold outK
   by_cases h1 : k < 0 <;> simp [h1]
  clear h143
  rcases hd with ⟨h1,rfl,rfl⟩ | ⟨h1,rfl,rfl⟩
  ·refine Vt (hc3.2 h1) ?_
   refine wG tK ?_
   refine Vf rfl ?_
   refine wG tK ?_
   rcases hs with h0 | hs
   ·refine wDT (hb := by simp; exact List.eq_nil_of_length_eq_zero h0) (hk := ?_)
    refine wG tK ?_
    refine wT ?_
    rfl
   ·obtain ⟨S,vs,hf1,hf2,hf3,hf4⟩ := forceTake W.s hs c l hl hlen hfit
    have hne := hs.hist.ne
    rw [ht] at hne
    unfold ZQ at hf1 hf2 hf3
    rw [ht] at hf1 hf2
    refine wDF (hb := by simp; exact fun h0 => by rw [h0] at hne; exact absurd hne (by simp)) (hk := ?_)
    refine wG tK ?_
    refine wC Tryz.func27 (hf := (hf1)) (hk := ?_)
    refine wG tK ?_
    refine wC Tryz.func16 (hf := (hf2)) (hk := ?_)
    refine wG tK ?_
    refine wC Tryz.func8 (hf := (hf3)) (hk := ?_)
    refine wG tK ?_
    refine wCC Tryz.func17 (hf := fun hb => (hf4)) (hk := ?_)
    refine wG tK ?_
    refine wT ?_
    rfl
  ·refine wDF (hb := by simpa using fun h0 => h1 (hc3.1 h0)) (hk := ?_)
   refine wG tK ?_
   refine wCC Tryz.func24 (hf := fun hb => (hsl2)) (hk := ?_)
   refine wG tK ?_
   refine Vf rfl ?_
   refine wG tK ?_
   rcases hs with h0 | hs
   ·refine wDT (hb := by simp; exact List.eq_nil_of_length_eq_zero h0) (hk := ?_)
    refine wG tK ?_
    refine wT ?_
    rfl
   ·obtain ⟨S,vs,hf1,hf2,hf3,hf4⟩ := forceTake W.s hs c l hl hlen hfit
    have hne := hs.hist.ne
    rw [ht] at hne
    unfold ZQ at hf1 hf2 hf3
    rw [ht] at hf1 hf2
    refine wDF (hb := by simp; exact fun h0 => by rw [h0] at hne; exact absurd hne (by simp)) (hk := ?_)
    refine wG tK ?_
    refine wC Tryz.func27 (hf := (hf1)) (hk := ?_)
    refine wG tK ?_
    refine wC Tryz.func16 (hf := (hf2)) (hk := ?_)
    refine wG tK ?_
    refine wC Tryz.func8 (hf := (hf3)) (hk := ?_)
    refine wG tK ?_
    refine wCC Tryz.func17 (hf := fun hb => (hf4)) (hk := ?_)
    refine wG tK ?_
    refine wT ?_
    rfl
theorem repTells_ok (l : List Rec) (k : Int) (rooms : List Int) (steps : List Step) (c : Int) (hlen : l.length ≤ 2000000) (hl : SmallL l) (hfit : ∀ r,r ∈ l → ActFit r.act) (hr : rooms.length ≤ 100000000) (hst : StepsOK steps) :
  FnOK Tryz.prog 4 [.sl (l.map ZR),.int .i64 k,.sl (rooms.map ZI),.sl (steps.map ZX),.int .i64 c] [] (fun r _ => r = .bool true) := by
 have hb := rbuild_ok rooms hr steps hst
 have hsl := hst.len
 have hW : ∃ t,(bldW rooms steps).s.tree = t ∧ Up t ∧ Small t ∧ t.length ≤ 100 ∧ (t.length = 0 ∨ SrvOK 40000000 (bldW rooms steps).s) := by
  by_cases hE : roomsE rooms = 0
  ·have hs := (bldW_inv hE steps).srv.mono (show 20 * steps.length ≤ 40000000 by omega)
   have := hs.hist.good.len
   exact ⟨_,rfl,hs.hist.good.up,hs.hist.good.small,by omega,.inr hs⟩
  ·rw [bldW_no hE]
   exact ⟨[],rfl,List.Pairwise.nil,⟨by simp,fun n hn => by cases hn⟩,by simp,.inl rfl⟩
 obtain ⟨t,h1,h2,h3,h4,h5⟩ := hW
 by_cases ho : outK l k
 ·exact repTells_loop rooms steps l hlen hl hfit k c _ _ _ (rt_out ho) _ t h1 h2 h3 h4 hb (rests_out l k ho (by omega)) [] 6 (drop_outS l k ho (by omega)) (.inl ⟨ho,rfl,rfl⟩) h5
 ·obtain ⟨n,rfl⟩ : ∃ n : Nat,k = (n : Int) := ⟨k.toNat,by unfold outK at ho; omega⟩
  have hn : n < l.length := by unfold outK at ho; omega
  exact repTells_loop rooms steps l hlen hl hfit n c _ _ _ (rt_in hn) _ t h1 h2 h3 h4 hb (rests_read l n hn (by omega)) _ 0 (drop_raw l n hn hl (by omega)) (.inr ⟨ho,rfl,rfl⟩) h5
end La
namespace La
open Go Go.Eng Go.Proofs Go.Proofs.YtfiiingppbkpkaaGreat
def RdC (w : World) (cs : List Value) (xs : List AV) : Prop := cs.length = xs.length ∧ ∀ (j : Nat) y,xs[j]? = some y → RdP (fun b => b < w.heap.size) w (cs.getD j undef) y
theorem rdc_nil {w : World} {cs : List Value} {off : Nat} (h : cs.length = off) : RdC w (cs.drop off) [] :=
 ⟨by simp; omega,fun j y hj => by simp at hj⟩
theorem rdc_cons {w : World} {cs : List Value} {xs ys : List AV} (off s : Nat) (h : RdC w ((cs.drop off).take s) xs) (hs : xs.length = s) (k : RdC w (cs.drop (off + s)) ys) : RdC w (cs.drop off) (xs ++ ys) := by
 obtain ⟨h1,h2⟩ := h
 obtain ⟨k1,k2⟩ := k
 have hl : (cs.drop off).length = s + (cs.drop (off + s)).length := by
  simp only [List.length_take,List.length_drop] at h1 k1 ⊢
  omega
 refine ⟨by rw [List.length_append,hl,hs,k1],fun j y hj => ?_⟩
 by_cases hjs : j < s
 ·rw [List.getElem?_append_left (by omega)] at hj
  have := h2 j y hj
  rwa [List.getD_eq_getElem?_getD,List.getElem?_take,if_pos hjs,← List.getD_eq_getElem?_getD] at this
 ·rw [List.getElem?_append_right (by omega),hs] at hj
  have := k2 (j - s) y hj
  rw [List.getD_eq_getElem?_getD,List.getElem?_drop] at this
  rw [List.getD_eq_getElem?_getD,List.getElem?_drop]
  rwa [show off + s + (j - s) = off + j from by omega] at this
structure Rep (t : TypeId) {α : Type} (f : α → List AV) (q : α → Prop) (sz : α → Nat) : Prop where
 size : ∀ x,(f x).length = (Tryz.prog).cellsOf t
 opn : ∀ {H : Type} (enc : TypeId × Value → H) (w : World) (n : Nat) (cs : List Value) (y : DataW H × List MemPlace),DataW.trod enc Tryz.prog w 0 (fun _ => true) true n t cs = some y →
  ∃ x : α,q x ∧ sz x ≤ Rows.uptoBulk y.1 ∧ RdC w cs (f x)
theorem ZG {t : TypeId} {n : Nat} (h : tab.siz t = n) (h0 : n ≠ 0) : (Tryz.prog).cellsOf t = n := by
 obtain ⟨i,h1,h2,_⟩ := tK.siz t (by rw [h]; exact h0)
 unfold Program.cellsOf
 rw [h1]
 simp [h2,h]
theorem cT3 : (Tryz.prog).cellsOf 3 = 1 := ZG (t := 3) (n := 1) rfl (by decide)
theorem cT5 : (Tryz.prog).cellsOf 5 = 1 := ZG (t := 5) (n := 1) rfl (by decide)
theorem cT9 : (Tryz.prog).cellsOf 9 = 1 := ZG (t := 9) (n := 1) rfl (by decide)
theorem cT22 : (Tryz.prog).cellsOf 22 = 1 := ZG (t := 22) (n := 1) rfl (by decide)
theorem cT23 : (Tryz.prog).cellsOf 23 = 1 := ZG (t := 23) (n := 1) rfl (by decide)
theorem cT24 : (Tryz.prog).cellsOf 24 = 1 := ZG (t := 24) (n := 1) rfl (by decide)
theorem cT26 : (Tryz.prog).cellsOf 26 = 7 := ZG (t := 26) (n := 7) rfl (by decide)
theorem cT27 : (Tryz.prog).cellsOf 27 = 1 := ZG (t := 27) (n := 1) rfl (by decide)
theorem cT56 : (Tryz.prog).cellsOf 56 = 9 := ZG (t := 56) (n := 9) rfl (by decide)
theorem cT78 : (Tryz.prog).cellsOf 78 = 6 := ZG (t := 78) (n := 6) rfl (by decide)
theorem rep_int {t : TypeId} (ht : (Tryz.prog).underlying t = some (.int .i64)) (hs : (Tryz.prog).cellsOf t = 1) : Rep t (fun n : Int => [AV.int .i64 n]) (fun n => -9223372036854775808 ≤ n ∧ n ≤ 9223372036854775807) (fun _ => 1) where
 size := fun _ => by rw [hs]; rfl
 opn := fun enc w n cs y h => by
  obtain ⟨m,rfl,rfl,hw⟩ := DataW.trod_int ht h
  refine ⟨m,?_,by simp [Rows.uptoBulk],rfl,fun j y hj => ?_⟩
  ·simpa [Lit.wf,IntKind.min,IntKind.max,IntKind.bits,IntKind.signed] using hw
  ·cases j with
   | zero => simp only [List.getElem?_cons_zero,Option.some.injEq] at hj; subst hj; exact .int _ _
   | succ j => simp at hj
theorem rep_str {t : TypeId} (ht : (Tryz.prog).underlying t = some .string) (hs : (Tryz.prog).cellsOf t = 1) : Rep t (fun s : List UInt8 => [AV.str s]) (fun _ => True) (fun s => s.length + 1) where
 size := fun _ => by rw [hs]; rfl
 opn := fun enc w n cs y h => by
  obtain ⟨s,rfl,rfl,_⟩ := DataW.trod_string ht h
  refine ⟨s.data.toList,trivial,by simp [Rows.uptoBulk],rfl,fun j y hj => ?_⟩
  cases j with
  | zero => simp only [List.getElem?_cons_zero,Option.some.injEq] at hj; subst hj; exact .str _ _ rfl
  | succ j => simp at hj
theorem rep_byte {t : TypeId} (ht : (Tryz.prog).underlying t = some (.int .u8)) (hs : (Tryz.prog).cellsOf t = 1) : Rep t ZY (fun _ => True) (fun _ => 1) where
 size := fun _ => by rw [hs]; rfl
 opn := fun enc w n cs y h => by
  obtain ⟨m,rfl,rfl,hw⟩ := DataW.trod_int ht h
  have hb : 0 ≤ m ∧ m ≤ 255 := by simpa [Lit.wf,IntKind.min,IntKind.max,IntKind.bits,IntKind.signed] using hw
  refine ⟨UInt8.ofNat m.toNat,trivial,by simp [Rows.uptoBulk],rfl,fun j y hj => ?_⟩
  cases j with
  | zero =>
   simp only [ZY,List.getElem?_cons_zero,Option.some.injEq] at hj
   subst hj
   have : ((UInt8.ofNat m.toNat).toNat : Int) = m := by
    rw [UInt8.toNat_ofNat']
    omega
   rw [this]; exact .int _ _
  | succ j => simp [ZY] at hj
def szL {α : Type} (sz : α → Nat) : List α → Nat
 | [] => 0
 | x :: r => sz x + szL sz r
theorem szL_mem {α : Type} {sz : α → Nat} {x : α} : ∀ {l : List α},x ∈ l → sz x ≤ szL sz l
 | y :: r,h => by
  rcases List.mem_cons.1 h with rfl | h
  ·simp only [szL]; omega
  ·have := szL_mem (sz := sz) h; simp only [szL]; omega
theorem szL_len {α : Type} {sz : α → Nat} (h : ∀ x,1 ≤ sz x) : ∀ (l : List α),l.length ≤ szL sz l
 | [] => Nat.le_refl _
 | x :: r => by have := szL_len h r; have := h x; simp only [szL,List.length_cons]; omega
theorem pick_list {α H : Type} {q : α → Prop} {sz : α → Nat} {R : Nat → α → Prop} : ∀ (elems : List (DataW H × List MemPlace)) (i0 : Nat),(∀ (i : Nat) y,elems[i]? = some y → ∃ x,q x ∧ sz x ≤ Rows.uptoBulk y.1 ∧ R (i0 + i) x) →
  ∃ l : List α,l.length = elems.length ∧ (∀ x,x ∈ l → q x) ∧ szL sz l ≤ Rows.uptoBulkAll (elems.map (·.1)) ∧ ∀ (i : Nat) x,l[i]? = some x → R (i0 + i) x
 | [],_,_ => ⟨[],rfl,fun x h => by simp at h,by simp [szL],fun i x h => by simp at h⟩
 | y :: r,i0,h => by
  obtain ⟨x,h1,h2,h3⟩ := h 0 y rfl
  obtain ⟨l,k1,k2,k3,k4⟩ := pick_list (R := R) r (i0 + 1) (fun i z hz => by rw [show i0 + 1 + i = i0 + (i + 1) from by omega]; exact h (i + 1) z (by simpa using hz))
  refine ⟨x :: l,by simp [k1],fun z hz => ?_,?_,fun i z hz => ?_⟩
  ·rcases List.mem_cons.1 hz with rfl | hz
   ·exact h1
   ·exact k2 z hz
  ·simp only [szL,List.map_cons,Rows.uptoBulkAll]; omega
  ·cases i with
   | zero => simp only [List.getElem?_cons_zero,Option.some.injEq] at hz; subst hz; exact h3
   | succ i => rw [show i0 + (i + 1) = i0 + 1 + i from by omega]; exact k4 i z (by simpa using hz)
theorem cells_some {w : World} {a : Addr} {n : Nat} {cs : List Value} (h : w.cells? 0 a n = some cs) : cs.length = n ∧ ∀ i,i < n → w.cell? (a.add i) = cs[i]? := by
 unfold World.cells? at h
 rw [if_pos (Nat.zero_le _)] at h
 have hl := mapM_some_length h
 refine ⟨by simpa using hl,fun i hi => ?_⟩
 exact mapM_some_get h i i (by simp [hi])
theorem rep_slice {t e : TypeId} {α : Type} {f : α → List AV} {q : α → Prop} {sz : α → Nat} (ht : (Tryz.prog).underlying t = some (.slice e)) (hs : (Tryz.prog).cellsOf t = 1) (he : Rep e f q sz) (hsz : (Tryz.prog).cellsOf e ≠ 0) :
  Rep t (fun l : List α => [AV.sl (l.map f)]) (fun l => ∀ x,x ∈ l → q x) (fun l => szL sz l + 1) where
 size := fun _ => by rw [hs]; rfl
 opn := fun enc w n cs y h => by
  rcases DataW.trod_slice ht h with ⟨rfl,rfl⟩ | ⟨a,len,cap,elems,rest,m,rfl,rfl,rfl,h1,h2,h3,h4,h5,_⟩
  ·refine ⟨[],fun x hx => by simp at hx,by simp [szL,Rows.uptoBulk],rfl,fun j y hj => ?_⟩
   cases j with
   | zero =>
    simp only [List.map_nil,List.getElem?_cons_zero,Option.some.injEq] at hj; subst hj
    exact .sl none 0 0 [] 0 0 0 (fun _ _ => undef) rfl (Nat.le_refl _) (fun row h => by simp at h) (fun h => by omega) (fun i j h => by omega) (fun i row h => by simp at h)
   | succ j => simp at hj
  ·have key : ∀ (i : Nat) y,elems[i]? = some y → ∃ x,q x ∧ sz x ≤ Rows.uptoBulk y.1 ∧ (∃ cs,w.cells? 0 (a.add ((0 + i) * (Tryz.prog).cellsOf e)) ((Tryz.prog).cellsOf e) = some cs ∧ RdC w cs (f x)) := fun i y hy => by
    have hi : i < len := by rw [← h4]; exact (List.getElem?_eq_some_iff.1 hy).1
    have := h5 i hi
    rw [hy] at this
    obtain ⟨cs,k1,k2⟩ := Option.bind_eq_some_iff.1 this
    obtain ⟨x,q1,q2,q3⟩ := he.opn enc w m cs y k2
    exact ⟨x,q1,q2,cs,by rw [Nat.zero_add]; exact k1,q3⟩
   obtain ⟨l,l1,l2,l3,l4⟩ := pick_list (q := q) (sz := sz) (R := fun i x => ∃ cs,w.cells? 0 (a.add (i * (Tryz.prog).cellsOf e)) ((Tryz.prog).cellsOf e) = some cs ∧ RdC w cs (f x)) elems 0 key
   refine ⟨l,l2,by simp only [Rows.uptoBulk]; omega,rfl,fun j y hj => ?_⟩
   cases j with
   | succ j => simp at hj
   | zero =>
    simp only [List.getElem?_cons_zero,Option.some.injEq] at hj
    subst hj
    have hcell : ∀ i j,i < l.length → j < (Tryz.prog).cellsOf e → ∃ (b : a.spot = none ∨ True) (x : α) (cs : List Value),l[i]? = some x ∧ RdC w cs (f x) ∧ w.cell? (a.add (i * (Tryz.prog).cellsOf e) |>.add j) = cs[j]? ∧ j < cs.length := fun i j hi hj => by
     obtain ⟨cs,k1,k2⟩ := l4 i l[i] (List.getElem?_eq_getElem hi)
     obtain ⟨c1,c2⟩ := cells_some k1
     rw [Nat.zero_add] at c2
     exact ⟨.inr trivial,l[i],cs,List.getElem?_eq_getElem hi,k2,c2 j hj,by omega⟩
    by_cases h0 : l.length = 0
    ·have : l = [] := List.eq_nil_of_length_eq_zero h0
     subst this
     simp only [List.map_nil]
     have e0 : len = 0 := by rw [← h4,← l1]; rfl
     subst e0
     exact .sl (some a) 0 cap [] 0 0 0 (fun _ _ => undef) rfl (Nat.zero_le _) (fun row h => by simp at h) (fun h => by omega) (fun i j h => by omega) (fun i row h => by simp at h)
    ·have hspot : a.spot = none ∧ a.block < w.heap.size := by
      obtain ⟨_,x,cs,_,_,c3,c4⟩ := hcell 0 0 (by omega) (by omega)
      rw [List.getElem?_eq_getElem c4] at c3
      have c3' : w.cell? a = some cs[0] := by simpa [Addr.add] using c3
      unfold World.cell? at c3'
      split at c3'
      ·rename_i c e' f' hb
       split at c3'
       ·cases c3'
       ·rename_i hsp
        refine ⟨?_,?_⟩
        ·cases e : a.spot with
         | none => rfl
         | some k => rw [e] at hsp; simp at hsp
        ·exact (Array.getElem?_eq_some_iff.1 hb).1
      ·cases c3'
     obtain ⟨ab,ao,asp⟩ := a
     simp only at hspot
     obtain ⟨rfl,hlt⟩ := hspot
     have hadd : ∀ (i j : Nat),((⟨ab,ao,none⟩ : Addr).add (i * (Tryz.prog).cellsOf e) |>.add j) = ⟨ab,ao + (i * (Tryz.prog).cellsOf e + j),none⟩ := fun i j => by
      rw [add_plain,add_plain,Nat.add_assoc]
     refine .sl (some ⟨ab,ao,none⟩) len cap (l.map f) ((Tryz.prog).cellsOf e) ab ao (fun i j => (w.cell? ⟨ab,ao + (i * (Tryz.prog).cellsOf e + j),none⟩).getD undef) (by simp [l1,h4]) h2 (fun row hr => ?_) (fun _ => ⟨rfl,hlt⟩) (fun i j hi hj => ?_) (fun i row hrow j x hx => ?_)
     ·obtain ⟨x,_,rfl⟩ := List.mem_map.1 hr
      exact he.size x
     ·obtain ⟨_,x,cs,_,_,c3,c4⟩ := hcell i j (by omega) hj
      rw [hadd,List.getElem?_eq_getElem c4] at c3
      rw [c3]; rfl
     ·rw [List.getElem?_map] at hrow
      cases e1 : l[i]? with
      | none => rw [e1] at hrow; cases hrow
      | some x0 =>
       rw [e1] at hrow
       simp only [Option.map_some,Option.some.injEq] at hrow
       subst hrow
       have hi : i < l.length := (List.getElem?_eq_some_iff.1 e1).1
       have hj : j < (Tryz.prog).cellsOf e := by rw [← he.size x0]; exact (List.getElem?_eq_some_iff.1 hx).1
       obtain ⟨_,x1,cs,c1,c2,c3,c4⟩ := hcell i j hi hj
       rw [e1] at c1
       injection c1 with c1
       subst c1
       have := c2.2 j x hx
       rw [hadd,List.getElem?_eq_getElem c4] at c3
       simp only [c3,Option.getD_some]
       rwa [List.getD_eq_getElem?_getD,List.getElem?_eq_getElem c4] at this
theorem rep_i (t : TypeId) (ht : (Tryz.prog).underlying t = some (.int .i64)) (hs : tab.siz t = 1) : Rep t (fun n : Int => [AV.int .i64 n]) (fun _ => True) (fun _ => 1) :=
 ⟨(rep_int ht (ZG hs (by decide))).size,fun enc w n cs y h => by
  obtain ⟨x,_,h2,h3⟩ := (rep_int ht (ZG hs (by decide))).opn enc w n cs y h
  exact ⟨x,trivial,h2,h3⟩⟩
theorem szL_ones {α : Type} : ∀ (l : List α),szL (fun _ => 1) l = l.length
 | [] => rfl
 | x :: r => by simp only [szL,szL_ones r,List.length_cons]; omega
theorem rep_bytes : Rep 24 (fun l : List UInt8 => [AV.sl (l.map ZY)]) (fun _ => True) (fun l => szL (fun _ => 1) l + 1) :=
 ⟨fun _ => by rw [cT24]; rfl,fun enc w n cs y h => by
  obtain ⟨x,_,h2,h3⟩ := (rep_slice (f := ZY) (q := fun _ => True) (sz := (fun _ => 1)) Tryz.underlying24 (cT24) (rep_byte Tryz.underlying5 (cT5)) (by rw [cT5]; decide)).opn enc w n cs y h
  exact ⟨x,trivial,h2,h3⟩⟩
theorem rep_ints : Rep 22 (fun l : List Int => [AV.sl (l.map ZI)]) (fun _ => True) (fun l => szL (fun _ => 1) l + 1) :=
 ⟨fun _ => by rw [cT22]; rfl,fun enc w n cs y h => by
  obtain ⟨x,_,h2,h3⟩ := (rep_slice (f := ZI) (q := fun _ => True) (sz := (fun _ => 1)) Tryz.underlying22 (cT22) (rep_i 3 Tryz.underlying3 rfl) (by rw [cT3]; decide)).opn enc w n cs y h
  exact ⟨x,trivial,h2,h3⟩⟩
def Act.sz (a : Act) : Nat := a.name.length + a.toName.length + a.data.length + 1
def Rec.sz (r : Rec) : Nat := r.act.sz + 1
def Step.sz (x : Step) : Nat := x.path.length + x.toPath.length + x.data.length + 1
theorem rep_act : Rep 26 ZA (fun _ => True) Act.sz where
 size := fun x => by rw [cT26]; rfl
 opn := fun enc w n cs y h => by
  obtain ⟨xs,m,rfl,rfl,hl,hxl,hf⟩ := DataW.trod_struct Tryz.underlying26 h
  obtain ⟨y0,y1,y2,y3,y4,y5,y6,rfl⟩ : ∃ y0 y1 y2 y3 y4 y5 y6,xs = [y0,y1,y2,y3,y4,y5,y6] := by
   have hxl : xs.length = 7 := hxl
   match xs,hxl with
   | [a0,a1,a2,a3,a4,a5,a6],_ => exact ⟨a0,a1,a2,a3,a4,a5,a6,rfl⟩
  have e0 : DataW.trod enc Tryz.prog w 0 (fun _ => true) true m 3 ((cs.drop 0).take ((Tryz.prog).cellsOf 3)) = some y0 := hf 0 _ rfl
  obtain ⟨x0,q0,s0,r0⟩ := (rep_i 3 Tryz.underlying3 rfl).opn enc w m _ _ e0
  rw [cT3] at r0
  have e1 : DataW.trod enc Tryz.prog w 0 (fun _ => true) true m 3 ((cs.drop 1).take ((Tryz.prog).cellsOf 3)) = some y1 := hf 1 _ rfl
  obtain ⟨x1,q1,s1,r1⟩ := (rep_i 3 Tryz.underlying3 rfl).opn enc w m _ _ e1
  rw [cT3] at r1
  have e2 : DataW.trod enc Tryz.prog w 0 (fun _ => true) true m 3 ((cs.drop 2).take ((Tryz.prog).cellsOf 3)) = some y2 := hf 2 _ rfl
  obtain ⟨x2,q2,s2,r2⟩ := (rep_i 3 Tryz.underlying3 rfl).opn enc w m _ _ e2
  rw [cT3] at r2
  have e3 : DataW.trod enc Tryz.prog w 0 (fun _ => true) true m 9 ((cs.drop 3).take ((Tryz.prog).cellsOf 9)) = some y3 := hf 3 _ rfl
  obtain ⟨x3,q3,s3,r3⟩ := (rep_str Tryz.underlying9 (cT9)).opn enc w m _ _ e3
  rw [cT9] at r3
  have e4 : DataW.trod enc Tryz.prog w 0 (fun _ => true) true m 3 ((cs.drop 4).take ((Tryz.prog).cellsOf 3)) = some y4 := hf 4 _ rfl
  obtain ⟨x4,q4,s4,r4⟩ := (rep_i 3 Tryz.underlying3 rfl).opn enc w m _ _ e4
  rw [cT3] at r4
  have e5 : DataW.trod enc Tryz.prog w 0 (fun _ => true) true m 9 ((cs.drop 5).take ((Tryz.prog).cellsOf 9)) = some y5 := hf 5 _ rfl
  obtain ⟨x5,q5,s5,r5⟩ := (rep_str Tryz.underlying9 (cT9)).opn enc w m _ _ e5
  rw [cT9] at r5
  have e6 : DataW.trod enc Tryz.prog w 0 (fun _ => true) true m 24 ((cs.drop 6).take ((Tryz.prog).cellsOf 24)) = some y6 := hf 6 _ rfl
  obtain ⟨x6,q6,s6,r6⟩ := (rep_bytes).opn enc w m _ _ e6
  rw [cT24] at r6
  refine ⟨⟨x0,x1,x2,x3,x4,x5,x6⟩,trivial,?_,?_⟩
  ·simp only [szL_ones] at s6
   simp only [Act.sz,Rows.uptoBulk,Rows.uptoBulkAll,List.map_cons,List.map_nil]; omega
  ·have hl : cs.length = 7 := by rw [hl,cT26]
   have := rdc_cons 0 1 r0 rfl (rdc_cons 1 1 r1 rfl (rdc_cons 2 1 r2 rfl (rdc_cons 3 1 r3 rfl (rdc_cons 4 1 r4 rfl (rdc_cons 5 1 r5 rfl (rdc_cons 6 1 r6 rfl (rdc_nil hl)))))))
   rw [List.drop_zero] at this
   exact this
theorem rep_rec : Rep 56 ZR (fun _ => True) Rec.sz where
 size := fun x => by rw [cT56]; rfl
 opn := fun enc w n cs y h => by
  obtain ⟨xs,m,rfl,rfl,hl,hxl,hf⟩ := DataW.trod_struct Tryz.underlying56 h
  obtain ⟨y0,y1,y2,rfl⟩ : ∃ y0 y1 y2,xs = [y0,y1,y2] := by
   have hxl : xs.length = 3 := hxl
   match xs,hxl with
   | [a0,a1,a2],_ => exact ⟨a0,a1,a2,rfl⟩
  have e0 : DataW.trod enc Tryz.prog w 0 (fun _ => true) true m 26 ((cs.drop 0).take ((Tryz.prog).cellsOf 26)) = some y0 := hf 0 _ rfl
  obtain ⟨x0,q0,s0,r0⟩ := (rep_act).opn enc w m _ _ e0
  rw [cT26] at r0
  have e1 : DataW.trod enc Tryz.prog w 0 (fun _ => true) true m 3 ((cs.drop 7).take ((Tryz.prog).cellsOf 3)) = some y1 := hf 1 _ rfl
  obtain ⟨x1,q1,s1,r1⟩ := (rep_i 3 Tryz.underlying3 rfl).opn enc w m _ _ e1
  rw [cT3] at r1
  have e2 : DataW.trod enc Tryz.prog w 0 (fun _ => true) true m 3 ((cs.drop 8).take ((Tryz.prog).cellsOf 3)) = some y2 := hf 2 _ rfl
  obtain ⟨x2,q2,s2,r2⟩ := (rep_i 3 Tryz.underlying3 rfl).opn enc w m _ _ e2
  rw [cT3] at r2
  refine ⟨⟨x0,x1,x2⟩,trivial,?_,?_⟩
  ·simp only [Rec.sz,Rows.uptoBulk,Rows.uptoBulkAll,List.map_cons,List.map_nil]; omega
  ·have hl : cs.length = 9 := by rw [hl,cT56]
   have := rdc_cons 0 7 r0 rfl (rdc_cons 7 1 r1 rfl (rdc_cons 8 1 r2 rfl (rdc_nil hl)))
   rw [List.drop_zero] at this
   exact this
theorem rep_recs : Rep 27 (fun l : List Rec => [AV.sl (l.map ZR)]) (fun _ => True) (fun l => szL Rec.sz l + 1) :=
 ⟨fun _ => by rw [cT27]; rfl,fun enc w n cs y h => by
  obtain ⟨x,_,h2,h3⟩ := (rep_slice (f := ZR) (q := fun _ => True) (sz := Rec.sz) Tryz.underlying27 (cT27) (rep_rec) (by rw [cT56]; decide)).opn enc w n cs y h
  exact ⟨x,trivial,h2,h3⟩⟩
theorem rep_step : Rep 78 ZX (fun _ => True) Step.sz where
 size := fun x => by rw [cT78]; rfl
 opn := fun enc w n cs y h => by
  obtain ⟨xs,m,rfl,rfl,hl,hxl,hf⟩ := DataW.trod_struct Tryz.underlying78 h
  obtain ⟨y0,y1,y2,y3,y4,y5,rfl⟩ : ∃ y0 y1 y2 y3 y4 y5,xs = [y0,y1,y2,y3,y4,y5] := by
   have hxl : xs.length = 6 := hxl
   match xs,hxl with
   | [a0,a1,a2,a3,a4,a5],_ => exact ⟨a0,a1,a2,a3,a4,a5,rfl⟩
  have e0 : DataW.trod enc Tryz.prog w 0 (fun _ => true) true m 3 ((cs.drop 0).take ((Tryz.prog).cellsOf 3)) = some y0 := hf 0 _ rfl
  obtain ⟨x0,q0,s0,r0⟩ := (rep_i 3 Tryz.underlying3 rfl).opn enc w m _ _ e0
  rw [cT3] at r0
  have e1 : DataW.trod enc Tryz.prog w 0 (fun _ => true) true m 3 ((cs.drop 1).take ((Tryz.prog).cellsOf 3)) = some y1 := hf 1 _ rfl
  obtain ⟨x1,q1,s1,r1⟩ := (rep_i 3 Tryz.underlying3 rfl).opn enc w m _ _ e1
  rw [cT3] at r1
  have e2 : DataW.trod enc Tryz.prog w 0 (fun _ => true) true m 3 ((cs.drop 2).take ((Tryz.prog).cellsOf 3)) = some y2 := hf 2 _ rfl
  obtain ⟨x2,q2,s2,r2⟩ := (rep_i 3 Tryz.underlying3 rfl).opn enc w m _ _ e2
  rw [cT3] at r2
  have e3 : DataW.trod enc Tryz.prog w 0 (fun _ => true) true m 9 ((cs.drop 3).take ((Tryz.prog).cellsOf 9)) = some y3 := hf 3 _ rfl
  obtain ⟨x3,q3,s3,r3⟩ := (rep_str Tryz.underlying9 (cT9)).opn enc w m _ _ e3
  rw [cT9] at r3
  have e4 : DataW.trod enc Tryz.prog w 0 (fun _ => true) true m 9 ((cs.drop 4).take ((Tryz.prog).cellsOf 9)) = some y4 := hf 4 _ rfl
  obtain ⟨x4,q4,s4,r4⟩ := (rep_str Tryz.underlying9 (cT9)).opn enc w m _ _ e4
  rw [cT9] at r4
  have e5 : DataW.trod enc Tryz.prog w 0 (fun _ => true) true m 24 ((cs.drop 5).take ((Tryz.prog).cellsOf 24)) = some y5 := hf 5 _ rfl
  obtain ⟨x5,q5,s5,r5⟩ := (rep_bytes).opn enc w m _ _ e5
  rw [cT24] at r5
  refine ⟨⟨x0,x1,x2,x3,x4,x5⟩,trivial,?_,?_⟩
  ·simp only [szL_ones] at s5
   simp only [Step.sz,Rows.uptoBulk,Rows.uptoBulkAll,List.map_cons,List.map_nil]; omega
  ·have hl : cs.length = 6 := by rw [hl,cT78]
   have := rdc_cons 0 1 r0 rfl (rdc_cons 1 1 r1 rfl (rdc_cons 2 1 r2 rfl (rdc_cons 3 1 r3 rfl (rdc_cons 4 1 r4 rfl (rdc_cons 5 1 r5 rfl (rdc_nil hl))))))
   rw [List.drop_zero] at this
   exact this
theorem rep_steps : Rep 23 (fun l : List Step => [AV.sl (l.map ZX)]) (fun _ => True) (fun l => szL Step.sz l + 1) :=
 ⟨fun _ => by rw [cT23]; rfl,fun enc w n cs y h => by
  obtain ⟨x,_,h2,h3⟩ := (rep_slice (f := ZX) (q := fun _ => True) (sz := Step.sz) Tryz.underlying23 (cT23) (rep_step) (by rw [cT78]; decide)).opn enc w n cs y h
  exact ⟨x,trivial,h2,h3⟩⟩
theorem open_arg {t : TypeId} {α : Type} {f : α → List AV} {q : α → Prop} {sz : α → Nat} (h : Rep t f q sz) {H : Type} {enc : TypeId × Value → H} {w : World} {v : Value} {d : DataW H} {ps : List MemPlace}
  (hd : DataW.Trod enc Tryz.prog w 0 (fun _ => true) true t v d ps) : ∃ x,q x ∧ sz x ≤ Rows.uptoBulk d ∧ RdC w v.cells.toList (f x) := by
 obtain ⟨n,hn⟩ := hd
 exact h.opn enc w n _ _ hn
theorem rdc_one {w : World} {v : Value} {x : AV} (h : RdC w v.cells.toList [x]) (hv : ∀ cs,v ≠ .agg cs) : RdP (fun b => b < w.heap.size) w v x := by
 have := h.2 0 x rfl
 cases v with
 | agg cs => exact absurd rfl (hv cs)
 | _ => exact this
theorem ints_len {l : List Int} (h : szL (fun _ => 1) l ≤ 1048576) : l.length ≤ 100000000 := by rw [szL_ones] at h; omega
theorem steps_ok {l : List Step} (h : szL Step.sz l ≤ 1048576) : StepsOK l :=
 ⟨by have := szL_len (sz := Step.sz) (fun r => by unfold Step.sz; omega) l; omega,fun x hx => by
  have := szL_mem (sz := Step.sz) hx
  have h2 : x.sz = x.path.length + x.toPath.length + x.data.length + 1 := rfl
  exact ⟨by omega,by omega⟩⟩
theorem actFit_of {a : Act} (h : a.sz ≤ 1048576) : ActFit a := ⟨by unfold Act.sz at h; omega,by unfold Act.sz at h; omega,by unfold Act.sz at h; omega⟩
theorem recsFit_of {l : List Rec} (h : szL Rec.sz l ≤ 1048576) : ∀ r,r ∈ l → ActFit r.act := fun r hr => actFit_of (by
 have := szL_mem (sz := Rec.sz) hr
 have h2 : r.sz = r.act.sz + 1 := rfl
 omega)
theorem recs_len {l : List Rec} (h : szL Rec.sz l ≤ 1048576) : l.length ≤ 2000000 := by
 have := szL_len (sz := Rec.sz) (fun r => by unfold Rec.sz; omega) l; omega
theorem smallL_of {l : List Rec} (h : szL Rec.sz l ≤ 1048576) : SmallL l :=
 ⟨by have := recs_len h; omega,fun r hr => by unfold Act.Small; have := (recsFit_of h r hr).data; omega⟩
end La
