/- Texts of this claim, part 15: RU, Cut, RSplit, RGo, RHoard, EngAQ. No condition. -/
import Derived.Test.YtfiiingppbkpkaaGreatXR12
import Derived.Test.YtfiiingppbkpkaaGreatXR14
import Derived.Test.YtfiiingppbkpkaaGreatXR7
import Derived.Test.YtfiiingppbkpkaaGreatXR10
import Derived.Test.YtfiiingppbkpkaaGreatXR8
import Derived.Test.YtfiiingppbkpkaaGreatXR13
set_option maxRecDepth 10000
set_option maxHeartbeats 4000000
set_option linter.unusedSimpArgs false
set_option linter.unusedVariables false
namespace La
open Go Go.Eng Go.Proofs
def uH (u : U) (G Y N : Nat → Nat) : List (Nat × Blk) := [(900,.cells 156 13 [uRow u])] ++ Yx [900] G Y N
theorem nodeK_hit {l : List Kept} (hn : (l.map fun k => k.node.fid).Nodup) {fid : Int} {i : Nat} (hi : i < l.length) (hf : (l.getD i default).node.fid = fid) : nodeK (l.take (i + 1)) fid = some (l.getD i default).node ∧ nodeK (l.take i) fid = none := by
 have h0 : nodeK (l.take i) fid = none := by
  unfold nodeK
  rw [Option.map_eq_none_iff,List.find?_eq_none]
  intro x hx
  obtain ⟨j,hj⟩ := List.getElem?_of_mem hx
  have hjl := (List.getElem?_eq_some_iff.1 hj).1
  rw [List.length_take] at hjl
  rw [List.getElem?_take,if_pos (by omega)] at hj
  simp only [beq_iff_eq]
  intro e
  have h2 : l[i]? = some (l.getD i default) := by rw [List.getD_eq_getElem?_getD,List.getElem?_eq_getElem hi]; rfl
  have := nodup_at hn hj h2 (e.trans hf.symm)
  omega
 refine ⟨?_,h0⟩
 unfold nodeK at h0 ⊢
 rw [ZT hi,List.find?_append]
 rw [Option.map_eq_none_iff] at h0
 have hb : ((l.getD i default).node.fid == fid) = true := by rw [hf]; exact beq_self_eq_true _
 rw [h0,Option.none_or,List.find?_cons]
 simp only [hb,Option.map_some]
theorem nodeK_miss {l : List Kept} {fid : Int} {i : Nat} (hi : i < l.length) (hf : (l.getD i default).node.fid ≠ fid) : nodeK (l.take (i + 1)) fid = nodeK (l.take i) fid := by
 unfold nodeK
 rw [ZT hi,List.find?_append,List.find?_cons]
 rw [show ((l.getD i default).node.fid == fid) = false by simpa using hf]
 simp
def lookTo (l : List Kept) (f w c : Int) (i : Nat) : List Kept := (l.take i).map (getF f w c)
theorem lookTo_succ {l : List Kept} (f w c : Int) {i : Nat} (h : i < l.length) : lookTo l f w c (i + 1) = lookTo l f w c i ++ [getF f w c (l.getD i default)] := by unfold lookTo; rw [ZT h,List.map_append]; rfl
theorem lookTo_len {l : List Kept} (f w c : Int) {i : Nat} (h : i ≤ l.length) : (lookTo l f w c i).length = i := by unfold lookTo; rw [List.length_map,List.length_take]; omega
theorem lookTo_all (l : List Kept) (f w c : Int) : lookTo l f w c l.length = l.map (getF f w c) := by unfold lookTo; rw [List.take_length]
@[go_sem,simp] theorem nodeRow_frz1 (id s : Nat) (rows : List (List AV)) (n : Node) : frzL id s rows (ZN n) = ZN n := rfl
@[go_sem,simp] theorem nodeRow_ren1 (off : Nat) (n : Node) : renL off (ZN n) = ZN n := rfl
@[go_sem,simp] theorem nodeRow_len (n : Node) : (ZN n).length = 5 := rfl
theorem row_noref {l : List AV} (h : refsL l = []) {x : AV} (hx : x ∈ l) (id : Nat) : ¬ id ∈ refs x := fun hi => by
 obtain ⟨j,hj⟩ := List.getElem?_of_mem hx
 have := Zr hj hi
 rw [h] at this
 cases this
def gotA (g : Got) : AV := .tup [.agg (ZN g.n),.int .i64 g.e]
theorem rget_ok {B T : Nat} (u : U) (h : UInv B T u) (hB : B ≤ 40000000) (hT : T ≤ 1000000000000) (fid worth : Int) (G Y N : Nat → Nat) : FnOK Tryz.prog 104 [.ptr 900 13 0 0,.int .i64 fid,.int .i64 worth] (uH u G Y N)
  (fun r H => r = gotA (getU u fid worth) ∧ Holds (uH (getU u fid worth).u G Y N) H) := by
 have hcl := h.cli.clock
 have hlen : u.c.cache.length ≤ 24 := by have := h.cli.len; have := h.cli.room; omega
 have hnod := h.cli.nod
 have hup := h.srv.hist.good.up
 have htl : u.s.tree.length ≤ 24 := h.srv.hist.good.len
 have hw : IntKind.i64.wrap (u.c.clock + 1) = u.c.clock + 1 := Eng.wrap_small (by omega) (by omega)
 have hof := of_rm u.s.tree (by omega)
 have hgf : ∀ k,Zg (mN (mapD u.s.tree)) k = (Yf u.s.tree k).map fun n => AV.agg (ZN n) := fun k => by rw [mN_get,mapD_get hup]
 have hgu : getU u fid worth = match nodeK u.c.cache fid with
  | some n => ⟨n,0,lookU u fid worth⟩
  | none => if u.c.away = true then ⟨Yz,12,lookU u fid worth⟩ else match Yf u.s.tree fid with
   | none => ⟨Yz,6,lookU u fid worth⟩
   | some n => ⟨n,0,keepU (lookU u fid worth) ⟨n,false,worth,u.c.clock + 1⟩⟩ := rfl
 have hD0 : lookTo u.c.cache fid worth (u.c.clock + 1) 0 = [] := rfl
 have hDs := fun i => @lookTo_succ u.c.cache fid worth (u.c.clock + 1) i
 have hDn := fun i => @lookTo_len u.c.cache fid worth (u.c.clock + 1) i
 have hDe := lookTo_all u.c.cache fid worth (u.c.clock + 1)
 generalize lookTo u.c.cache fid worth (u.c.clock + 1) = D at *
 unfold uH uRow
 refine ZF tK (Tryz.func104) rfl (fun C => ?_)
 simp only [Tryz.ntmps104,Tryz.results104,go_sem]
 refine wG tK ?_ (by simp only [go_sem,hw]; try exact rfl) (by simp [go_sem,hw])
 refine Yl (Ze 57 113 8 (by simp only [go_sem]; try exact rfl)) ?_
 simp only [go_sem]
 refine Yl (Zn 6) ?_
 refine Yl (Zn 9) ?_
 simp only [go_sem]
 refine ZL (fun i : Nat => i ≤ u.c.cache.length) (fun i => u.c.cache.length - i) (fun i => [(8,.osl 57 8 0 i),(10,.bool (nodeK (u.c.cache.take i) fid).isSome),(12,.any),(31,.int .i64 i),(32,.any),(33,.any),(34,.any),(35,.any),(36,.any),(37,.any),(38,.any),(39,.any),(40,.any),(41,.any),(42,.any),(43,.any),(44,.any),(45,.any),(46,.any),(47,.any),(48,.any),(49,.any),(50,.any),(51,.any),(52,.any),(53,.any),(54,.any),(55,.any),(56,.any),(57,.any),(58,.any)])
  (fun i => [(9,.cells 60 5 [ZN ((nodeK (u.c.cache.take i) fid).getD Yz)]),(57,.cells 113 8 ((D i).map ZK))]) 0 (by omega) ?_ fun i hi => ?_
 ·simp only [go_sem]
  rw [hD0]
  exact ZU (by simp [go_sem,nodeK]) (by simp [go_sem,nodeK,ZN,Yz]) (by simp [go_sem,ZN])
 simp only [go_sem]
 refine wG tK ?_
 refine wD (fun h => ?_) (fun h => ?_)
 ·have hlt : i < u.c.cache.length := by simp at h; omega
  have hg : (u.c.cache.map ZK).getD i [] = ZK (u.c.cache.getD i default) := Fam.getD hlt
  have hw1 := wi1 (i := i) (by omega)
  have hgt := hDs i hlt
  have hDl := hDn i hi
  have hit := @nodeK_hit u.c.cache hnod fid i hlt
  have hms := @nodeK_miss u.c.cache fid i hlt
  generalize D i = Di at *
  generalize u.c.cache.getD i default = k at *
  have htq : List.take i (Di.map ZK) = Di.map ZK := List.take_of_length_le (by simp [hDl])
  refine wGq tK ?_ ?_ (by simp only [go_sem,hg,ZK]; try exact rfl)
  ·simp [hg,ZK,hlt]
  refine wD (fun h => ?_) (fun h => ?_)
  ·have hf : k.node.fid = fid := by simpa using h
   obtain ⟨hnk,hn0⟩ := hit hf
   refine wG tK ?_
   refine wD (fun h => ?_) (fun h => ?_)
   ·have hwo : k.worth < worth := by simpa using h
    have hk : getF fid worth (u.c.clock + 1) k = { k with last := u.c.clock + 1,worth := worth } := by unfold getF maxI; rw [if_pos hf,if_pos hwo]
    refine wGq tK ?_ ?_ (by simp only [go_sem,hw1]; try exact rfl)
    ·simp [htq,refs]
     refine ⟨by intro row h; simp at h; subst h; rfl,by omega,by omega,fun x hx => ?_,fun x hx y hy => row_noref (keptRow_refsL x) hy _⟩
     first | exact row_noref (nodeRow_refsL _) hx _ | skip
    refine ZB ⟨i + 1,by omega,by omega,ZU ?_ ?_ ?_⟩
    ·simp [go_sem,hgt,hnk]
    ·simp [go_sem,hgt,htq,hk,ZK,ZN,hnk]
    ·simp [go_sem]
   ·have hwo : ¬ worth > k.worth := by simpa using h
    have hk : getF fid worth (u.c.clock + 1) k = { k with last := u.c.clock + 1 } := by unfold getF maxI; rw [if_pos hf,if_neg hwo]
    refine wGq tK ?_ ?_ (by simp only [go_sem,hw1]; try exact rfl)
    ·simp [htq,refs]
     refine ⟨by intro row h; simp at h; subst h; rfl,by omega,by omega,fun x hx => ?_,fun x hx y hy => row_noref (keptRow_refsL x) hy _⟩
     first | exact row_noref (nodeRow_refsL _) hx _ | skip
    refine ZB ⟨i + 1,by omega,by omega,ZU ?_ ?_ ?_⟩
    ·simp [go_sem,hgt,hnk]
    ·simp [go_sem,hgt,htq,hk,ZK,ZN,hnk]
    ·simp [go_sem]
  ·have hf : k.node.fid ≠ fid := by simpa using h
   have hnk := hms hf
   have hk : getF fid worth (u.c.clock + 1) k = k := by unfold getF; rw [if_neg hf]
   refine wGq tK ?_ ?_ (by simp only [go_sem,hw1]; try exact rfl)
   ·simp [htq,refs]
    refine ⟨by intro row h; simp at h; subst h; rfl,by omega,by omega,fun x hx => ?_,fun x hx y hy => row_noref (keptRow_refsL x) hy _⟩
    first | exact row_noref (nodeRow_refsL _) hx _ | skip
   refine ZB ⟨i + 1,by omega,by omega,ZU ?_ ?_ ?_⟩
   ·simp [go_sem,hgt,hnk]
   ·simp [go_sem,hgt,htq,hk,ZK,ZN,hnk]
   ·simp [go_sem]
 ·have e : i = u.c.cache.length := by simp at h; omega
  subst e
  rw [List.take_length,hDe]
  refine wR ?_
  have htk : List.take u.c.cache.length ((u.c.cache.map (getF fid worth (u.c.clock + 1))).map ZK) = (u.c.cache.map (getF fid worth (u.c.clock + 1))).map ZK := List.take_of_length_le (by simp)
  refine ZZ 57 rfl (keptRow_pure _) ?_
  simp only [go_sem,htk]
  refine wG tK ?_
  clear hgu
  cases hnk : nodeK u.c.cache fid with
  | some n =>
   have hG : getU u fid worth = ⟨n,0,lookU u fid worth⟩ := by unfold getU; rw [hnk]
   rw [hG]
   refine Vt rfl ?_
   refine wG tK ?_ (by simp only [go_sem,ZN]; try exact rfl) (by simp [go_sem,ZN])
   refine wU ?_ ?_
   ·rfl
   ·skip
    simp only [Yx,gH,gI,gJ,gK]
    repeat' refine ZH ?_ ?_
    all_goals first | exact YH _ | rfl | simp [go_sem]
  | none =>
   refine Vf rfl ?_
   refine wG tK ?_
   cases ha : u.c.away with
   | true =>
    have hG : getU u fid worth = ⟨Yz,12,lookU u fid worth⟩ := by unfold getU; rw [hnk]; simp [ha]
    rw [hG]
    refine Vt rfl ?_
    refine wG tK ?_ (by simp only [go_sem,ZN,Yz]; try exact rfl) (by simp [go_sem,ZN,Yz])
    refine wU ?_ ?_
    ·rfl
    ·skip
     simp only [Yx,gH,gI,gJ,gK]
     repeat' refine ZH ?_ ?_
     all_goals first | exact YH _ | rfl | simp [go_sem,lookU,ha]
   | false =>
    refine Vf rfl ?_
    refine wG tK ?_
    refine wC Tryz.func20 (hf := (hof)) (hk := ?_)
    have hg1 := hgf fid
    cases hff : Yf u.s.tree fid with
    | none =>
     rw [hff] at hg1
     simp only [Option.map_none] at hg1
     have hG : getU u fid worth = ⟨Yz,6,lookU u fid worth⟩ := by unfold getU; rw [hnk]; simp [ha,hff]
     rw [hG]
     refine wG tK ?_ (by simp only [go_sem,hg1]; try exact rfl) (by simp [go_sem,hg1])
     refine Vt rfl ?_
     refine wG tK ?_
     refine Yl (Zn 6) ?_
     simp only [go_sem]
     refine wU ?_ ?_
     ·rfl
     ·skip
      simp only [Yx,gH,gI,gJ,gK]
      repeat' refine ZH ?_ ?_
      all_goals first | exact YH _ | rfl | simp [go_sem,lookU,ha]
    | some n =>
     rw [hff] at hg1
     simp only [Option.map_some] at hg1
     refine wG tK ?_ (by simp only [go_sem,hg1,ZN]; try exact rfl) (by simp [go_sem,hg1,ZN])
     refine Vf rfl ?_
     refine wG tK ?_
     have hcz : (u.c.cache.map (getF fid worth (u.c.clock + 1))).length ≤ 90000000 := by rw [List.length_map]; omega
     have hG : getU u fid worth = ⟨n,0,keepU (lookU u fid worth) ⟨n,false,worth,u.c.clock + 1⟩⟩ := by unfold getU; rw [hnk]; simp [ha,hff]
     rw [hG]
     refine ZW ZM ?_
     refine ZS rfl ?_
     refine sN tK 17 ?_
     refine sB tK ?_
     cases hkp : keepK (u.c.cache.map (getF fid worth (u.c.clock + 1))) u.c.room ⟨n,false,worth,u.c.clock + 1⟩ with
     | none =>
      have hk := rkeep_no hcz hkp
      have hKU : keepU (lookU u fid worth) ⟨n,false,worth,u.c.clock + 1⟩ = lookU u fid worth := by unfold keepU lookU; simp only [hkp]
      rw [hKU]
      refine sC Tryz.func108 (hf := (hk)) (hk := ?_)
      refine sG tK ?_
      refine sE ?_
      refine wKd ?_
      try simp only [go_sem,gA,gB,gC]
      refine wG tK ?_
      refine Vf rfl ?_
      refine wG tK ?_
      refine wU ?_ ?_
      ·rfl
      ·skip
       simp only [Yx,gH,gI,gJ,gK]
       repeat' refine ZH ?_ ?_
       all_goals first | exact YH _ | rfl | simp [go_sem,lookU,ha]
     | some L =>
      have hk := rkeep_yes hcz hkp
      have hKU : keepU (lookU u fid worth) ⟨n,false,worth,u.c.clock + 1⟩ = ⟨{ (lookU u fid worth).c with cache := L },u.s⟩ := by unfold keepU lookU; simp only [hkp]
      rw [hKU]
      refine sC Tryz.func108 (hf := (hk)) (hk := ?_)
      refine sG tK ?_
      refine sE ?_
      refine wKd ?_
      try simp only [go_sem,gA,gB,gC]
      refine wG tK ?_
      refine Vt rfl ?_
      refine wG tK ?_
      refine wU ?_ ?_
      ·rfl
      ·skip
       simp only [Yx,gH,gI,gJ,gK]
       repeat' refine ZH ?_ ?_
       all_goals first | exact YH _ | rfl | simp [go_sem,lookU,ha]
def Cutting (c : UInt8) (s : List UInt8) (i : Nat) (done : List (List UInt8)) (cur : List UInt8) : Prop :=
 i ≤ s.length ∧ cutA c done cur (s.drop i) = cutL c s ∧ done.length ≤ i ∧ cur.length ≤ i
theorem cut_ok (s : List UInt8) (c : UInt8) (hs : s.length ≤ 100000000) : FnOK Tryz.prog 103 [.str s,.int .u8 (c.toNat : Int)] [] (fun r _ => r = .sl ((cutL c s).map strRow)) := by
 refine ZF tK (Tryz.func103) rfl (fun C => ?_)
 simp only [Tryz.ntmps103,Tryz.results103,go_sem]
 refine wG tK ?_
 refine Yl (le_mv 7 20) ?_
 refine ZL (fun x : Nat × List (List UInt8) × List UInt8 => Cutting c s x.1 x.2.1 x.2.2) (fun x => s.length - x.1) (fun x => [(5,.osl 20 1 0 (x.2.1.length + 1)),(6,.any),(7,.any),(10,.int .i64 x.1),(11,.any),(12,.any),(13,.any),(14,.any),(15,.any),(16,.any),(17,.any),(18,.any),(19,.any),(20,.any),(21,.any),(22,.any),(23,.any),(24,.any),(25,.any),(26,.any),(27,.any),(28,.any),(29,.any),(30,.any),(31,.any),(32,.any),(33,.any),(34,.any),(35,.any),(36,.any),(37,.any),(38,.any)]) (fun x => [(20,.cells 9 1 (x.2.1.map strRow ++ [[.str x.2.2]]))]) (0,[],[]) ⟨by omega,by rw [List.drop_zero,cutA_cut],by simp,by simp⟩ ?_ fun x hx => ?_
 ·simp only [go_sem]
  exact ZU (by simp [go_sem]) (by simp [go_sem]) (by simp [go_sem])
 obtain ⟨i,done,cur⟩ := x
 obtain ⟨hi,hc,hd,hcl⟩ := hx
 simp only at hi hc hd hcl
 simp only [go_sem]
 refine wG tK ?_
 refine wD (fun h => ?_) (fun h => ?_)
 ·have hlt : i < s.length := by simp at h; omega
  have hw := wi1 (i := i) (by omega)
  have hdr : s.drop i = s.getD i 0 :: s.drop (i + 1) := by
   rw [List.getD_eq_getElem?_getD,List.getElem?_eq_getElem hlt]; simp
  have hdt : (s.take (i + 1)).drop i = [s.getD i 0] := by
   rw [ZT hlt,List.drop_left' (by rw [List.length_take]; omega)]; rfl
  rw [hdr,cutA] at hc
  refine wGq tK ?_ ?_
  ·simp; omega
  generalize s.getD i 0 = x at hc hdt
  refine wD (fun h => ?_) (fun h => ?_)
  ·have hx : x = c := UInt8.toNat_inj.1 (by have : ((x.toNat : Nat) : Int) = c.toNat := (by simpa using h); omega)
   rw [if_pos hx] at hc
   have htk : List.take (done.length + 1) (done.map strRow ++ [[AV.str cur]]) = done.map strRow ++ [[AV.str cur]] := List.take_of_length_le (by simp)
   refine wGq tK ?_ ?_ (by simp only [go_sem,hw]; try exact rfl)
   ·simp [htk,refs]
    exact ⟨by intro row h; simp at h; subst h; rfl,by omega,fun x _ y hy => by simp [strRow] at hy; subst hy; simp [refs]⟩
   refine ZB ⟨(i + 1,done ++ [cur],[]),⟨by omega,hc,by simp; omega,by simp⟩,by simp only; omega,ZU ?_ ?_ ?_⟩
   ·simp [go_sem]
   ·simp [go_sem,htk,strRow]
   ·simp [go_sem]
  ·have hx : ¬ x = c := fun e => by subst e; simp at h
   rw [if_neg hx] at hc
   have hgr : (done.map strRow ++ [[AV.str cur]]).getD done.length [] = [AV.str cur] := by simp [List.getD_eq_getElem?_getD]
   have hsub : IntKind.i64.wrap (((done.length + 1 : Nat) : Int) - 1) = (done.length : Int) := by rw [Eng.wrap_small (by omega) (by omega)]; omega
   refine ZW ZM ?_
   refine ZS rfl ?_
   refine sNq tK 17 ?_ ?_ (h := by simp only [go_sem,hgr,hsub,hw]; try exact rfl)
   ·simp [hgr,hsub,hw]; omega
   refine sT tK ?_
   refine sE ?_
   refine wKd ?_
   simp only [go_sem,hdt]
   refine wG tK ?_ (by simp only [go_sem,hw]; try exact rfl) (by simp [go_sem,hw])
   refine ZB ⟨(i + 1,done,cur ++ [x]),⟨by omega,hc,by simp only; omega,by simp; omega⟩,by simp only; omega,ZU ?_ ?_ ?_⟩
   ·simp [go_sem]
   ·simp [go_sem]
   ·simp [go_sem]
 ·have e : i = s.length := by simp at h; omega
  subst e
  rw [List.drop_length,cutA] at hc
  have hrows : done.map strRow ++ [[AV.str cur]] = (cutL c s).map strRow := by rw [← hc]; simp [strRow]
  have hlen : done.length + 1 = (cutL c s).length := by rw [← hc]; simp
  rw [hrows,hlen]
  refine wG tK ?_
  refine ZZ 20 rfl (strRow_pure _) ?_
  refine wT ?_
  simp
theorem rsplit_raw (s : List UInt8) (hs : s.length ≤ 10000000) : FnOK Tryz.prog 79 [.str s] [] (fun r _ => Eng.nrm r = splitA (Ys s)) := by
 refine ZF tK (Tryz.func79) rfl (fun C => ?_)
 simp only [Tryz.ntmps79,Tryz.results79,go_sem]
 refine wR ?_
 refine wN tK 2 ?_
 refine wG tK ?_
 refine wD (fun h => ?_) (fun h => ?_)
 ·have h1 : 40 < s.length := by simp at h; omega
  refine wG tK ?_
  refine wT ?_
  simp [Ys,h1,splitA,Eng.nrm,Eng.nrmL]
 have h1 : ¬ 40 < s.length := by simp at h; omega
 refine wG tK ?_
 refine wD (fun h => ?_) (fun h => ?_)
 ·have h2 : s = [47] := by simpa using h
  refine wG tK ?_
  refine wT ?_
  simp [Ys,h1,h2,splitA,Eng.nrm,Eng.nrmL]
 have h2 : s ≠ [47] := by simpa using h
 refine wR ?_
 refine wN tK 3 ?_
 cases s with
 | nil =>
  refine wG tK ?_
  refine wD (fun h => ?_) (fun h => ?_)
  ·refine wG tK ?_
   refine wT ?_
   simp [Ys,splitA,Eng.nrm,Eng.nrmL]
  ·cases h
 | cons x r =>
  refine wG tK ?_
  refine wD (fun h => ?_) (fun h => ?_)
  ·have h3 : ¬ x = 47 := fun e => by subst e; simp at h
   have h1' : ¬ 40 < r.length + 1 := h1
   refine wG tK ?_
   refine wT ?_
   simp [Ys,h1',h3,splitA,Eng.nrm,Eng.nrmL]
  have h3 : x = 47 := UInt8.toNat_inj.1 (by have : ((x.toNat : Nat) : Int) = 47 := (by simpa using h); show x.toNat = 47; omega)
  subst h3
  refine wR ?_
  refine wN tK 1 ?_
  refine wC Tryz.func103 (hf := (cut_ok (47 :: r) 47 (by omega))) (hk := ?_)
  have hcut : cutL 47 (47 :: r) = [] :: cutL 47 r := by simp [cutL]
  have hR : Ys (47 :: r) = if (cutL 47 r).all nameB then (cutL 47 r,0) else ([],7) := by
   simp only [Ys,if_neg h1,if_neg h2,List.head?_cons,ne_eq,not_true_eq_false,if_false,List.drop_succ_cons,List.drop_zero]
  have hcl := cutL_le 47 r
  have hcp := cutL_part 47 r
  rw [hR,hcut]
  generalize cutL 47 r = L at hcl hcp
  simp only [List.length_cons] at hs
  refine wGq tK ?_ ?_
  ·simp [strRow]
  refine ZL (fun i : Nat => i ≤ L.length ∧ (L.take i).all nameB = true) (fun i => L.length - i) (fun i => [(6,.any),(24,.int .i64 i),(25,.any),(26,.any),(27,.any),(28,.any),(29,.any),(30,.any),(31,.any)]) (fun _ => []) 0 ⟨by omega,by simp⟩ ?_ fun i hi => ?_
  ·simp only [go_sem]
   exact ZU (by simp [go_sem]) (by simp [go_sem]) (by simp [go_sem])
  obtain ⟨hi,hs2⟩ := hi
  simp only [go_sem]
  refine wG tK ?_
  refine wD (fun h => ?_) (fun h => ?_)
  ·have hlt : i < L.length := by simp at h; omega
   have hw := wi1 (i := i) (by omega)
   have hg : (L.map strRow).getD i [] = strRow (L.getD i default) := Fam.getD hlt
   have htk := ZT hlt
   have hmem : L.getD i default ∈ L := by rw [List.getD_eq_getElem?_getD,List.getElem?_eq_getElem hlt]; exact List.getElem_mem hlt
   have hxl := hcp _ hmem
   have hno : nameB (L.getD i default) = false → L.all nameB = false := fun h0 => by
    cases e : L.all nameB with
    | false => rfl
    | true => rw [List.all_eq_true.1 e _ hmem] at h0; cases h0
   generalize L.getD i default = x at hg htk hxl hno hmem
   refine wGq tK ?_ ?_ (by simp only [go_sem,hg,strRow]; try exact rfl)
   ·simp [hg,strRow,hlt]
   refine wC Tryz.func96 (hf := (rname_ok x (by omega))) (hk := ?_)
   refine wG tK ?_
   refine wD (fun h => ?_) (fun h => ?_)
   ·have h0 : nameB x = false := by simpa using h
    refine wG tK ?_
    refine wT ?_
    simp [hno h0,splitA,Eng.nrm,Eng.nrmL]
   ·have h0 : nameB x = true := by simpa using h
    refine wG tK ?_ (by simp only [go_sem,hw]; try exact rfl) (by simp [go_sem,hw])
    refine ZB ⟨i + 1,⟨by omega,by rw [htk,List.all_append,hs2]; simp [h0]⟩,by omega,ZU ?_ ?_ ?_⟩
    ·simp [go_sem]
    ·simp [go_sem]
    ·simp [go_sem]
  ·have e : i = L.length := by simp at h; omega
   subst e
   rw [List.take_length] at hs2
   refine wG tK ?_
   refine wT ?_
   simp [hs2,splitA,Eng.nrm,Eng.nrmL,nrm_strs]
theorem rsplit_ok (s : List UInt8) (hs : s.length ≤ 10000000) : FnOK Tryz.prog 79 [.str s] [] (fun r _ => r = splitA (Ys s)) := fn_nrmP (rsplit_raw s hs)
@[go_sem,simp] theorem uRow_refsL (u : U) : refsL (uRow u) = [] := rfl
@[go_sem,simp] theorem uRow_length (u : U) : (uRow u).length = 13 := rfl
structure NodeOK (n : Node) : Prop where
 eup : EUp n.entries
 ent : n.entries.length ≤ 6
 data : n.data.length ≤ 20
theorem NodeOK.zero : NodeOK Yz := ⟨List.Pairwise.nil,by simp [Yz],by simp [Yz]⟩
theorem nodeK_mem {l : List Kept} {f : Int} {n : Node} (h : nodeK l f = some n) : ∃ k,k ∈ l ∧ k.node = n ∧ n.fid = f := by
 unfold nodeK at h
 obtain ⟨k,hk,rfl⟩ := Option.map_eq_some_iff.1 h
 exact ⟨k,List.mem_of_find?_eq_some hk,rfl,by simpa using List.find?_some hk⟩
theorem getU_node {B T : Nat} {u : U} (h : UInv B T u) (f w : Int) : NodeOK (getU u f w).n := by
 unfold getU
 split
 ·rename_i n hn
  obtain ⟨k,hk,rfl,_⟩ := nodeK_mem hn
  exact ⟨h.cli.eup k hk,h.cli.ent k hk,h.cli.data k hk⟩
 ·split
  ·exact .zero
  ·split
   ·exact .zero
   ·rename_i n hn
    have hm := ((ZO h.srv.hist.good.up).1 hn).1
    exact ⟨(h.srv.hist.whole.loc n hm).eup,h.srv.hist.good.ent n hm,h.srv.hist.good.data n hm⟩
theorem goR_node {B : Nat} (w : Int) : ∀ (l : List (List UInt8)) (T : Nat) (g : Got),UInv B T g.u → NodeOK g.n → NodeOK (goR w l g).n
 | [],T,g,h,hn => by
  unfold goR
  split
  ·exact hn
  ·exact .zero
 | s :: r,T,g,h,hn => by
  unfold goR
  split
  ·exact .zero
  ·split
   ·exact .zero
   ·split
    ·exact .zero
    ·rename_i f _; exact goR_node w r (T + 1) _ (getU_inv h f w) (getU_node h f w)
theorem goU_node {B T : Nat} {u : U} (h : UInv B T u) (l : List (List UInt8)) (w : Int) : NodeOK (goU u l w).n := goR_node w l (T + 1) _ (getU_inv h 0 w) (getU_node h 0 w)
theorem dirU_node {B T : Nat} {u : U} (h : UInv B T u) (path : List UInt8) : NodeOK (Yd u path).n := by
 unfold Yd
 split
 ·exact .zero
 ·split
  ·exact .zero
  ·exact goU_node h _ 0
theorem rgo_ok {B T : Nat} (u : U) (h : UInv B T u) (hB : B ≤ 40000000) (hT : T ≤ 900000000000) (l : List (List UInt8)) (hl : l.length ≤ 1000) (hls : ∀ x,x ∈ l → x.length ≤ 1000) (worth : Int) (G Y N : Nat → Nat) : FnOK Tryz.prog 80 [.ptr 900 13 0 0,.sl (l.map strRow),.int .i64 worth] (uH u G Y N)
  (fun r H => r = gotA (goU u l worth) ∧ Holds (uH (goU u l worth).u G Y N) H) := by
 have hg0 := rget_ok u h hB (by omega) 0 worth
 have hi0 := getU_inv h 0 worth
 have hn0 := getU_node h 0 worth
 have hgo : goU u l worth = goR worth l (getU u 0 worth) := rfl
 unfold uH gotA at hg0
 unfold uH gotA
 generalize getU u 0 worth = g0 at *
 generalize goU u l worth = gF at *
 refine ZF tK (Tryz.func80) rfl (fun C => ?_)
 simp only [Tryz.ntmps80,Tryz.results80,go_sem]
 refine wG tK ?_
 refine Yl (Zn 6) ?_
 simp only [go_sem]
 refine wP [900] Tryz.func104 (hf := (hg0)) (hk := ?_)
 refine wGq tK ?_ ?_ (by simp only [go_sem,ZN]; try exact rfl)
 ·simp [ZN]
 refine ZL (fun q : List (List UInt8) × Got => gF = goR worth q.1 q.2 ∧ q.1.length ≤ l.length ∧ (∀ x,x ∈ q.1 → x.length ≤ 1000) ∧ UInv B (T + 1 + (l.length - q.1.length)) q.2.u ∧ NodeOK q.2.n) (fun q => q.1.length)
  (fun q => [(1,.sl (q.1.map strRow)),(9,.int .i64 q.2.e),(10,.any),(11,.any),(12,.any),(13,.any),(14,.any),(15,.any),(16,.any),(17,.any),(18,.any),(19,.any),(20,.any),(21,.any),(22,.any),(23,.any),(24,.any),(25,.any),(26,.any),(27,.any),(28,.any),(29,.any),(30,.any),(31,.any),(32,.any),(33,.any),(34,.any),(35,.any),(36,.any),(37,.any),(38,.any),(39,.any),(40,.any),(41,.any),(42,.any),(43,.any),(44,.any),(45,.any),(46,.any),(47,.any),(48,.any)])
  (fun q => [(900,.cells 156 13 [uRow q.2.u]),(8,.cells 60 5 [ZN q.2.n])]) (l,g0) ⟨hgo,Nat.le_refl _,hls,by simpa using hi0,hn0⟩ ?_ fun q hq => ?_
 ·simp only [go_sem]
  exact ZU (by simp [go_sem]) (by simp [go_sem,ZN]) (by simp [go_sem,ZN])
 obtain ⟨r,g⟩ := q
 obtain ⟨hgf,hrl,hrs,hui,hno⟩ := hq
 simp only at hgf hrl hrs hui hno
 simp only [go_sem]
 refine wR ?_
 refine wN tK 7 ?_
 refine Yn 24 (by simp only [go_sem]; exact rfl) (fun c24 h24 => ?_)
 simp only [go_sem]
 have hc : c24 = (decide (0 < r.length) && (g.e == 0)) := by
  rw [← h24]
  cases r <;> simp
 clear h24
 refine wG tK ?_
 by_cases he : g.e = 0
 ·cases r with
  | nil =>
   refine wDF (hb := by simp [hc]) (hk := ?_)
   refine wG tK ?_
   rw [hgf,goR,if_pos he]
   refine wDF (hb := by simp [he]) (hk := ?_)
   refine wGq tK ?_ ?_ (by simp only [go_sem,ZN]; try exact rfl)
   ·simp [ZN]
   refine wU ?_ ?_
   ·simp [ZN]
   ·skip
    simp only [Yx,gH,gI,gJ,gK]
    repeat' refine ZH ?_ ?_
    all_goals first | exact YH _ | rfl | simp [go_sem]
  | cons s r =>
   have hsl := hrs s List.mem_cons_self
   have hent := rentry_ok g.n s (by have := hno.ent; omega)
   rw [rEntry_entryN hno.eup] at hent
   refine wDT (hb := by simp [hc,he]) (hk := ?_)
   refine wG tK ?_ (by simp only [go_sem,ZN]; try exact rfl) (by simp [go_sem,ZN])
   cases hd : g.n.dir with
   | false =>
    refine Vt rfl ?_
    refine wG tK ?_
    refine Yl (Zn 6) ?_
    simp only [go_sem]
    refine wU ?_ ?_
    ·simp [hgf,goR,he,hd,ZN,Yz]
    ·have e : gF.u = g.u := by simp [hgf,goR,he,hd]
     rw [e]
     simp only [Yx,gH,gI,gJ,gK]
     repeat' refine ZH ?_ ?_
     all_goals first | exact YH _ | rfl | simp [go_sem]
   | true =>
    refine Vf rfl ?_
    refine wG tK ?_
    refine ZW ZM ?_
    refine ZS rfl ?_
    refine sN tK 4 ?_ (h := by simp only [go_sem,strRow]; try exact rfl) (hp := by simp [go_sem,strRow])
    unfold ZN at hent
    rw [hd] at hent
    cases hen : entryN g.n s with
    | none =>
     rw [hen] at hent
     refine sC Tryz.func63 (hf := (hent)) (hk := ?_)
     refine sG tK ?_
     refine sE ?_
     refine wKd ?_
     try simp only [go_sem,gA,gB,gC]
     refine wG tK ?_
     refine Vt rfl ?_
     refine wG tK ?_
     refine Yl (Zn 6) ?_
     simp only [go_sem]
     refine wU ?_ ?_
     ·simp [hgf,goR,he,hd,hen,ZN,Yz]
     ·have e : gF.u = g.u := by simp [hgf,goR,he,hd,hen]
      rw [e]
      simp only [Yx,gH,gI,gJ,gK]
      repeat' refine ZH ?_ ?_
      all_goals first | exact YH _ | rfl | simp [go_sem]
    | some f =>
     rw [hen] at hent
     have hg1 := rget_ok g.u hui hB (by omega) f worth
     unfold uH gotA at hg1
     have hui2 := getU_inv hui f worth
     have hno2 := getU_node hui f worth
     have hgf2 : gF = goR worth r (getU g.u f worth) := by rw [hgf,goR,if_neg (by simp [he]),if_neg (by simp [hd]),hen]
     generalize getU g.u f worth = g2 at *
     refine sC Tryz.func63 (hf := (hent)) (hk := ?_)
     refine sG tK ?_
     refine sE ?_
     refine wKd ?_
     try simp only [go_sem,gA,gB,gC]
     refine wG tK ?_
     refine Vf rfl ?_
     refine wG tK ?_
     refine wP [900] Tryz.func104 (hf := (hg1)) (hk := ?_)
     refine wGq tK ?_ ?_ (by simp only [go_sem,ZN]; try exact rfl)
     ·simp [ZN,strRow]
     refine ZB ⟨(r,g2),⟨hgf2,by simp only [List.length_cons] at hrl; simp only; omega,fun x hx => hrs x (List.mem_cons_of_mem _ hx),?_,hno2⟩,by simp,ZU ?_ ?_ ?_⟩
     ·simp only [List.length_cons] at hrl hui2 ⊢
      exact hui2.mono (Nat.le_refl _) (by omega)
     ·simp [go_sem]
     ·simp [go_sem,ZN]
     ·simp [go_sem,ZN]
 ·refine wDF (hb := by simp [hc,he]) (hk := ?_)
  refine wG tK ?_
  refine wDT (hb := by simp [he]) (hk := ?_)
  refine wG tK ?_
  refine Yl (Zn 6) ?_
  simp only [go_sem]
  refine wU ?_ ?_
  ·rw [hgf]; cases r <;> simp [goR,he,ZN,Yz]
  ·rw [hgf]
   have e : (goR worth r g).u = g.u := by cases r <;> simp [goR,he]
   rw [e]
   simp only [Yx,gH,gI,gJ,gK]
   repeat' refine ZH ?_ ?_
   all_goals first | exact YH _ | rfl | simp [go_sem]
theorem rdirU_ok {B T : Nat} (u : U) (h : UInv B T u) (hB : B ≤ 40000000) (hT : T ≤ 900000000000) (path : List UInt8) (hp : path.length ≤ 10000000) (G Y N : Nat → Nat) : FnOK Tryz.prog 82 [.ptr 900 13 0 0,.str path] (uH u G Y N)
  (fun r H => r = .tup [.agg (ZN (Yd u path).n),.str (Yd u path).name,.int .i64 (Yd u path).e] ∧ Holds (uH (Yd u path).u G Y N) H) := by
 have hsp := rsplit_ok path hp
 have hsl := splitR_len path
 have hdu : Yd u path = if (Ys path).2 ≠ 0 then ⟨Yz,[],(Ys path).2,u⟩
  else if (Ys path).1.length = 0 then ⟨Yz,[],7,u⟩
  else ⟨(goU u ((Ys path).1.take ((Ys path).1.length - 1)) 0).n,(Ys path).1.getD ((Ys path).1.length - 1) [],
   if (goU u ((Ys path).1.take ((Ys path).1.length - 1)) 0).e = 0 ∧ (goU u ((Ys path).1.take ((Ys path).1.length - 1)) 0).n.dir = false then 8 else (goU u ((Ys path).1.take ((Ys path).1.length - 1)) 0).e,
   (goU u ((Ys path).1.take ((Ys path).1.length - 1)) 0).u⟩ := rfl
 generalize Yd u path = dF at *
 unfold splitA at hsp
 generalize Ys path = S at *
 obtain ⟨L,E⟩ := S
 obtain ⟨hll,hlx⟩ := hsl
 simp only at hdu hll hlx hsp
 unfold uH
 refine ZF tK (Tryz.func82) rfl (fun C => ?_)
 simp only [Tryz.ntmps82,Tryz.results82,go_sem]
 refine wG tK ?_
 refine Yl (Zn 4) ?_
 simp only [go_sem]
 refine wC Tryz.func79 (hf := (hsp)) (hk := ?_)
 refine wG tK ?_
 by_cases hE : E = 0
 ·refine wDF (hb := by simp [hE]) (hk := ?_)
  refine wG tK ?_
  rw [if_neg (by simp [hE])] at hdu
  by_cases hL : L.length = 0
  ·rw [if_pos hL] at hdu
   refine wDT (hb := by simp [hL]) (hk := ?_)
   refine wG tK ?_
   refine Yl (Zn 4) ?_
   simp only [go_sem]
   refine wU ?_ ?_
   ·rw [hdu]; simp [ZN,Yz]
   ·rw [hdu]
    simp only [Yx,gH,gI,gJ,gK]
    repeat' refine ZH ?_ ?_
    all_goals first | exact YH _ | rfl | simp [go_sem]
  ·rw [if_neg hL] at hdu
   have hw : IntKind.i64.wrap ((L.length : Int) - 1) = ((L.length - 1 : Nat) : Int) := by rw [Eng.wrap_small (by omega) (by omega)]; omega
   have hgo := rgo_ok u h hB hT (L.take (L.length - 1)) (by rw [List.length_take]; omega) (fun x hx => by have := (hlx x (List.mem_of_mem_take hx)).1; omega) 0
   have hgl : (L.map strRow).getD (L.length - 1) [] = [.str (L.getD (L.length - 1) [])] := by
    have hi : L.length - 1 < L.length := by omega
    rw [List.getD_eq_getElem?_getD,List.getElem?_map,List.getD_eq_getElem?_getD,List.getElem?_eq_getElem hi]; rfl
   have hLlt : L.length - 1 < L.length := by omega
   have htk : (L.map strRow).take (L.length - 1) = (L.take (L.length - 1)).map strRow := List.map_take.symm
   unfold uH gotA at hgo
   generalize goU u (L.take (L.length - 1)) 0 = g at *
   refine wDF (hb := by simp [hL]) (hk := ?_)
   refine wR ?_
   refine wNq tK 6 ?_ ?_ (h := by simp only [go_sem,hw,htk]; try exact rfl)
   ·simp [hw,htk]
    exact fun _ _ => rfl
   refine wP [900] Tryz.func80 (hf := (hgo)) (hk := ?_)
   refine wGq tK ?_ ?_ (by simp only [go_sem,ZN]; try exact rfl)
   ·simp [ZN]
   by_cases hge : g.e = 0
   ·cases hd : g.n.dir with
    | true =>
     have hdF : dF = ⟨g.n,L.getD (L.length - 1) [],g.e,g.u⟩ := by rw [hdu]; simp [hd]
     rw [hdF]
     refine wDF (hb := by simp [hge,hd]) (hk := ?_)
     refine wG tK ?_
     refine ZW ZM ?_
     refine ZS rfl ?_
     refine sN tK 7 ?_ (h := by simp only [go_sem,hw,hgl,hLlt]; try exact rfl) (hp := by simp [go_sem,hw,hgl,hLlt])
     refine sN tK 1 ?_
     refine sT tK ?_
     refine sG tK ?_
     refine sE ?_
     refine wKd ?_
     try simp only [go_sem,gA,gB,gC]
     refine wG tK ?_
     refine wU ?_ ?_
     ·first | (simp [ZN]; done) | simp [ZN,hd]
     ·skip
      simp only [Yx,gH,gI,gJ,gK]
      repeat' refine ZH ?_ ?_
      all_goals first | exact YH _ | rfl | simp [go_sem]
    | false =>
     have hdF : dF = ⟨g.n,L.getD (L.length - 1) [],8,g.u⟩ := by rw [hdu]; simp [hd,hge]
     rw [hdF]
     refine wDT (hb := by simp [hge,hd]) (hk := ?_)
     refine wG tK ?_
     refine wG tK ?_
     refine ZW ZM ?_
     refine ZS rfl ?_
     refine sN tK 7 ?_ (h := by simp only [go_sem,hw,hgl,hLlt]; try exact rfl) (hp := by simp [go_sem,hw,hgl,hLlt])
     refine sN tK 1 ?_
     refine sT tK ?_
     refine sG tK ?_
     refine sE ?_
     refine wKd ?_
     try simp only [go_sem,gA,gB,gC]
     refine wG tK ?_
     refine wU ?_ ?_
     ·first | (simp [ZN]; done) | simp [ZN,hd]
     ·skip
      simp only [Yx,gH,gI,gJ,gK]
      repeat' refine ZH ?_ ?_
      all_goals first | exact YH _ | rfl | simp [go_sem]
   ·have hdF : dF = ⟨g.n,L.getD (L.length - 1) [],g.e,g.u⟩ := by rw [hdu]; simp [hge]
    rw [hdF]
    refine wDF (hb := by simp [hge]) (hk := ?_)
    refine wG tK ?_
    refine ZW ZM ?_
    refine ZS rfl ?_
    refine sN tK 7 ?_ (h := by simp only [go_sem,hw,hgl,hLlt]; try exact rfl) (hp := by simp [go_sem,hw,hgl,hLlt])
    refine sN tK 1 ?_
    refine sT tK ?_
    refine sG tK ?_
    refine sE ?_
    refine wKd ?_
    try simp only [go_sem,gA,gB,gC]
    refine wG tK ?_
    refine wU ?_ ?_
    ·first | (simp [ZN]; done) | simp [ZN,hd]
    ·skip
     simp only [Yx,gH,gI,gJ,gK]
     repeat' refine ZH ?_ ?_
     all_goals first | exact YH _ | rfl | simp [go_sem]
 ·rw [if_pos (by simp [hE])] at hdu
  refine wDT (hb := by simp [hE]) (hk := ?_)
  refine wG tK ?_
  refine Yl (Zn 4) ?_
  simp only [go_sem]
  refine wU ?_ ?_
  ·rw [hdu]; simp [ZN,Yz]
  ·rw [hdu]
   simp only [Yx,gH,gI,gJ,gK]
   repeat' refine ZH ?_ ?_
   all_goals first | exact YH _ | rfl | simp [go_sem]
def hoardTo (l : List Hoard) (path : List UInt8) (i : Nat) : List Hoard := hoardsF (l.take i) path
theorem hoardTo_succ {l : List Hoard} (path : List UInt8) {i : Nat} (h : i < l.length) : hoardTo l path (i + 1) = if ((l.getD i default).path == path) = true then hoardTo l path i else hoardTo l path i ++ [l.getD i default] := by
 unfold hoardTo hoardsF
 rw [ZT h,List.filter_append,List.filter_cons]
 cases ((l.getD i default).path == path) <;> simp
theorem hoardTo_le (l : List Hoard) (path : List UInt8) (i : Nat) : (hoardTo l path i).length ≤ i := by
 have := List.length_filter_le (fun h : Hoard => !(h.path == path)) (l.take i)
 unfold hoardTo hoardsF
 rw [List.length_take] at this
 omega
theorem rhoardU_ok {B T : Nat} (u : U) (h : UInv B T u) (path : List UInt8) (hp : path.length ≤ 10000000) (w : Int) (G Y N : Nat → Nat) : FnOK Tryz.prog 86 [.ptr 900 13 0 0,.str path,.int .i64 w] (uH u G Y N)
  (fun r H => r = .int .i64 (hoardU u path w).e ∧ Holds (uH (hoardU u path w).u G Y N) H) := by
 have hsp := rsplit_ok path hp
 have h6 := h.cli.hoards
 have hW0 : hoardU u path w = if (Ys path).2 ≠ 0 then ⟨(Ys path).2,u⟩ else if w < 0 ∨ w > 100 then ⟨3,u⟩
  else if 0 < w ∧ (hoardsF u.c.hoards path).length ≥ 6 then ⟨5,u⟩
  else ⟨0,⟨{ u.c with hoards := if 0 < w then hoardsF u.c.hoards path ++ [⟨path,w⟩] else hoardsF u.c.hoards path },u.s⟩⟩ := rfl
 have hD0 : hoardTo u.c.hoards path 0 = [] := rfl
 have hDs := fun i => @hoardTo_succ u.c.hoards path i
 have hDn := hoardTo_le u.c.hoards path
 have hDe : hoardTo u.c.hoards path u.c.hoards.length = hoardsF u.c.hoards path := by unfold hoardTo; rw [List.take_length]
 generalize hoardTo u.c.hoards path = D at *
 generalize hoardU u path w = wF at *
 unfold splitA at hsp
 generalize Ys path = S at *
 obtain ⟨L,E⟩ := S
 simp only at hW0 hsp
 unfold uH uRow
 refine ZF tK (Tryz.func86) rfl (fun C => ?_)
 simp only [Tryz.ntmps86,Tryz.results86,go_sem]
 refine wG tK ?_
 refine wC Tryz.func79 (hf := (hsp)) (hk := ?_)
 refine wG tK ?_
 by_cases hE : E = 0
 ·rw [if_neg (by simp [hE])] at hW0
  refine wDF (hb := by simp [hE]) (hk := ?_)
  refine wR ?_
  refine wN tK 6 ?_
  refine Yn 25 (by simp only [go_sem]; exact rfl) (fun c25 h25 => ?_)
  simp only [go_sem]
  have hc : c25 = true ↔ (w < 0 ∨ w > 100) := by
   rw [← h25]
   cases e1 : decide (w < 0) <;> simp at e1 <;> simp [e1] <;> omega
  clear h25
  refine wG tK ?_
  by_cases hwr : w < 0 ∨ w > 100
  ·rw [if_pos hwr] at hW0
   have hW := hW0
   refine Vt (hc.2 hwr) ?_
   refine wG tK ?_
   refine wU ?_ ?_
   ·rw [hW]
   ·rw [hW]
    simp only [Yx,gH,gI,gJ,gK]
    repeat' refine ZH ?_ ?_
    all_goals first | exact YH _ | rfl | simp [go_sem]
  ·rw [if_neg hwr] at hW0
   refine wDF (hb := by simpa using fun h0 => hwr (hc.1 h0)) (hk := ?_)
   refine wG tK ?_
   refine Yl (Ze 43 153 2 (by simp only [go_sem]; try exact rfl)) ?_
   simp only [go_sem]
   refine ZL (fun i : Nat => i ≤ u.c.hoards.length) (fun i => u.c.hoards.length - i) (fun i => [(9,.osl 43 2 0 (D i).length),(11,.any),(32,.int .i64 i),(33,.any),(34,.any),(35,.any),(36,.any),(37,.any),(38,.any),(39,.any),(40,.any),(41,.any),(42,.any),(43,.any),(44,.any)]) (fun i => [(43,.cells 153 2 ((D i).map ZJ))]) 0 (by omega) ?_ fun i hi => ?_
   ·simp only [go_sem]
    rw [hD0]
    exact ZU (by simp [go_sem]) (by simp [go_sem]) (by simp [go_sem])
   simp only [go_sem]
   refine wG tK ?_
   refine wD (fun h => ?_) (fun h => ?_)
   ·have hlt : i < u.c.hoards.length := by simp at h; omega
    have hg : (u.c.hoards.map ZJ).getD i [] = ZJ (u.c.hoards.getD i default) := Fam.getD hlt
    have hw1 := wi1 (i := i) (by omega)
    have htk := hDs i hlt
    have hll := hDn i
    generalize D i = Di at *
    generalize u.c.hoards.getD i default = x at *
    have htq : List.take Di.length (Di.map ZJ) = Di.map ZJ := List.take_of_length_le (by simp)
    refine wGq tK ?_ ?_ (by simp only [go_sem,hg,ZJ]; try exact rfl)
    ·simp [hg,ZJ,hlt]
    cases hb : (x.path == path) with
    | true =>
     rw [hb,if_pos rfl] at htk
     refine wDF (hb := by simp) (hk := ?_)
     refine wG tK ?_ (by simp only [go_sem,hw1]; try exact rfl) (by simp [go_sem,hw1])
     refine ZB ⟨i + 1,by omega,by omega,ZU ?_ ?_ ?_⟩
     ·simp [go_sem,htk]
     ·simp [go_sem,htk]
     ·simp [go_sem]
    | false =>
     rw [hb,if_neg Bool.false_ne_true] at htk
     refine wDT (hb := by simp) (hk := ?_)
     refine wGq tK ?_ ?_ (by simp only [go_sem,hw1]; try exact rfl)
     ·simp [htq,refs]
      exact ⟨by intro row h; simp at h; subst h; rfl,by omega⟩
     refine ZB ⟨i + 1,by omega,by omega,ZU ?_ ?_ ?_⟩
     ·simp [go_sem,htk]
     ·simp [go_sem,htk,htq,ZJ]
     ·simp [go_sem]
   ·have e : i = u.c.hoards.length := by simp at h; omega
    subst e
    have hDl := hDn u.c.hoards.length
    rw [hDe] at hDl ⊢
    generalize hoardsF u.c.hoards path = F at *
    have htq : List.take F.length (F.map ZJ) = F.map ZJ := List.take_of_length_le (by simp)
    refine wR ?_
    refine wN tK 7 ?_
    refine Yn 51 (by simp only [go_sem]; exact rfl) (fun c51 h51 => ?_)
    simp only [go_sem]
    have hc2 : c51 = true ↔ (0 < w ∧ F.length ≥ 6) := by
     rw [← h51]
     cases e1 : decide (w > 0) <;> simp at e1 <;> simp [e1] <;> omega
    clear h51
    refine wG tK ?_
    by_cases hfl : 0 < w ∧ F.length ≥ 6
    ·rw [if_pos hfl] at hW0
     have hW := hW0
     refine Vt (hc2.2 hfl) ?_
     refine wG tK ?_
     refine wU ?_ ?_
     ·rw [hW]
     ·rw [hW]
      simp only [Yx,gH,gI,gJ,gK]
      repeat' refine ZH ?_ ?_
      all_goals first | exact YH _ | rfl | simp [go_sem]
    ·rw [if_neg hfl] at hW0
     refine wDF (hb := by simpa using fun h0 => hfl (hc2.1 h0)) (hk := ?_)
     refine wG tK ?_
     by_cases hw0 : 0 < w
     ·rw [if_pos hw0] at hW0
      have hW := hW0
      refine wDT (hb := by simpa using hw0) (hk := ?_)
      refine wGq tK ?_ ?_
      ·simp [htq,refs]
       exact ⟨by intro row h; simp at h; subst h; rfl,by omega⟩
      refine ZZ 59 rfl (by rw [List.all_append,hoardRow_pure]; rfl) ?_
      simp only [go_sem]
      have htq2 : List.take (F.length + 1) (F.map ZJ ++ [[AV.str path,AV.int .i64 w]]) = (F ++ [(⟨path,w⟩ : Hoard)]).map ZJ := by rw [List.take_of_length_le (by simp),List.map_append]; rfl
      rw [htq2]
      refine wU ?_ ?_
      ·rw [hW]
      ·rw [hW]
       simp only [Yx,gH,gI,gJ,gK]
       repeat' refine ZH ?_ ?_
       all_goals first | exact YH _ | rfl | simp [go_sem]
     ·rw [if_neg hw0] at hW0
      have hW := hW0
      refine wDF (hb := by simpa using hw0) (hk := ?_)
      refine wR ?_
      refine ZZ 43 rfl (hoardRow_pure _) ?_
      simp only [go_sem,htq]
      refine wG tK ?_
      refine wU ?_ ?_
      ·rw [hW]
      ·rw [hW]
       simp only [Yx,gH,gI,gJ,gK]
       repeat' refine ZH ?_ ?_
       all_goals first | exact YH _ | rfl | simp [go_sem]
 ·rw [if_pos (by simp [hE])] at hW0
  have hW := hW0
  refine wDT (hb := by simp [hE]) (hk := ?_)
  refine wG tK ?_
  refine wU ?_ ?_
  ·rw [hW]
  ·rw [hW]
   simp only [Yx,gH,gI,gJ,gK]
   repeat' refine ZH ?_ ?_
   all_goals first | exact YH _ | rfl | simp [go_sem]
theorem visitS_idle {u : U} {g : GotV} (h : Idle u g.u) (x : Hoard) : Idle u (visitS g x).u := h.trans (goU_idle g.u (Ys x.path).1 x.worth)
structure VI (B T : Nat) (u : U) (g : GotV) (k : Nat) : Prop where
 inv : UInv B (T + 42 * k) g.u
 idle : Idle u g.u
 n : g.n ≤ k
theorem VI.mono {B T : Nat} {u : U} {g : GotV} {k m : Nat} (h : VI B T u g k) (hm : k ≤ m) : VI B T u g m := ⟨h.inv.mono (Nat.le_refl _) (by omega),h.idle,Nat.le_trans h.n hm⟩
theorem VI.step {B T : Nat} {u : U} {g : GotV} {k : Nat} (h : VI B T u g k) (x : Hoard) : VI B T u (visitS g x) (k + 1) := by
 refine ⟨?_,visitS_idle h.idle x,?_⟩
 ·have := visitS_inv h.inv x
  rwa [show T + 42 * k + 42 = T + 42 * (k + 1) by omega] at this
 ·have := h.n
  unfold visitS
  simp only
  split <;> omega
theorem rvisit_away {B T : Nat} (u : U) (h : UInv B T u) (ha : u.c.away = true) (G Y N : Nat → Nat) : FnOK Tryz.prog 87 [.ptr 900 13 0 0] (uH u G Y N)
  (fun r H => r = .tup [.int .i64 0,.int .i64 12] ∧ Holds (uH u G Y N) H) := by
 unfold uH uRow
 refine ZF tK (Tryz.func87) rfl (fun C => ?_)
 simp only [Tryz.ntmps87,Tryz.results87,go_sem]
 refine wG tK ?_
 refine Vt (ha) ?_
 refine wG tK ?_
 refine wU ?_ ?_
 ·rfl
 ·skip
  simp only [Yx,gH,gI,gJ,gK]
  repeat' refine ZH ?_ ?_
  all_goals first | exact YH _ | rfl | simp [go_sem]
theorem rvisit_here {B T : Nat} (u : U) (h : UInv B T u) (ha : u.c.away = false) (hB : B ≤ 30000000) (hT : T ≤ 800000000000) (G Y N : Nat → Nat) : FnOK Tryz.prog 87 [.ptr 900 13 0 0] (uH u G Y N)
  (fun r H => r = .tup [.int .i64 ((visitU u).n : Int),.int .i64 0] ∧ Holds (uH (visitU u).u G Y N) H) := by
 have h6 := h.cli.hoards
 have hV : visitU u = (orderH u.c.hoards 100).foldl visitS ⟨0,u⟩ := rfl
 have h0 : VI B T u ⟨0,u⟩ 0 := ⟨h,Idle.refl u,Nat.le_refl _⟩
 generalize visitU u = vF at *
 unfold uH
 refine ZF tK (Tryz.func87) rfl (fun C => ?_)
 simp only [Tryz.ntmps87,Tryz.results87,go_sem]
 refine wG tK ?_ (by simp only [go_sem,uRow]; try exact rfl) (by simp [go_sem,uRow])
 refine Vf (ha) ?_
 refine wG tK ?_
 refine ZL (fun q : Nat × GotV => q.1 ≤ 100 ∧ vF = (orderH u.c.hoards q.1).foldl visitS q.2 ∧ VI B T u q.2 (6 * (100 - q.1))) (fun q => q.1) (fun q => [(4,.int .i64 (q.2.n : Int)),(5,.int .i64 (q.1 : Int)),(6,.any),(7,.any),(8,.any),(9,.any),(10,.any),(11,.any),(12,.any),(13,.any),(14,.any),(15,.any),(16,.any),(17,.any),(18,.any),(19,.any),(20,.any),(21,.any),(22,.any),(23,.any),(24,.any),(25,.any),(26,.any),(27,.any),(28,.any),(29,.any),(30,.any),(31,.any),(32,.any),(33,.any),(34,.any),(35,.any),(36,.any),(37,.any),(38,.any),(39,.any),(40,.any),(41,.any),(42,.any),(43,.any),(44,.any),(45,.any),(46,.any),(47,.any),(48,.any),(49,.any),(50,.any),(51,.any),(52,.any),(53,.any)])
  (fun q => [(900,.cells 156 13 [uRow q.2.u])]) (100,⟨0,u⟩) ⟨by omega,hV,h0.mono (by omega)⟩ ?_ fun q hq => ?_
 ·simp only [go_sem]
  exact ZU (by simp [go_sem]) (by simp [go_sem,uRow]) (by simp [go_sem])
 obtain ⟨w,g⟩ := q
 obtain ⟨hw1,hvf,hvi⟩ := hq
 simp only at hw1 hvf hvi
 simp only [go_sem]
 refine wG tK ?_
 cases w with
 | zero =>
  refine wDF (hb := by simp) (hk := ?_)
  refine wG tK ?_
  rw [orderH,List.foldl_nil] at hvf
  rw [hvf]
  refine wU ?_ ?_
  ·rfl
  ·skip
   simp only [Yx,gH,gI,gJ,gK]
   repeat' refine ZH ?_ ?_
   all_goals first | exact YH _ | rfl | simp [go_sem]
 | succ w =>
  have hho := hvi.idle.hoards
  refine wDT (hb := by simp) (hk := ?_)
  refine wG tK ?_ (by simp only [go_sem,uRow]; try exact rfl) (by simp [go_sem,uRow])
  rw [hho]
  have hwp : IntKind.i64.wrap (((w + 1 : Nat) : Int) - 1) = ((w : Nat) : Int) := by rw [Eng.wrap_small (by omega) (by omega)]; omega
  rw [orderH,List.foldl_append] at hvf
  refine ZL (fun q : Nat × GotV => q.1 ≤ u.c.hoards.length ∧ vF = (orderH u.c.hoards w).foldl visitS (((u.c.hoards.drop q.1).filter fun h => h.worth == ((w + 1 : Nat) : Int)).foldl visitS q.2) ∧ VI B T u q.2 (6 * (100 - (w + 1)) + q.1)) (fun q => u.c.hoards.length - q.1)
   (fun q => [(4,.int .i64 (q.2.n : Int)),(27,.int .i64 (q.1 : Int)),(7,.any),(8,.any),(9,.any),(10,.any),(11,.any),(28,.any),(29,.any),(30,.any),(31,.any),(32,.any),(33,.any),(34,.any),(35,.any),(36,.any),(37,.any),(38,.any),(39,.any),(40,.any),(41,.any),(42,.any),(43,.any),(44,.any),(45,.any),(46,.any),(47,.any),(48,.any),(49,.any),(50,.any),(51,.any),(52,.any)]) (fun q => [(900,.cells 156 13 [uRow q.2.u])]) (0,g) ⟨Nat.zero_le _,by rw [List.drop_zero]; exact hvf,hvi⟩ ?_ fun q hq => ?_
  ·simp only [go_sem]
   exact ZU (by simp [go_sem]) (by simp [go_sem,uRow,hho]) (by simp [go_sem])
  obtain ⟨i,g2⟩ := q
  obtain ⟨hi,hvf2,hvi2⟩ := hq
  simp only at hi hvf2 hvi2
  clear hvf hvi h0
  simp only [go_sem]
  refine wG tK ?_
  refine wD (fun h => ?_) (fun h => ?_)
  ·have hlt : i < u.c.hoards.length := by simp at h; omega
   have hg : (u.c.hoards.map ZJ).getD i [] = ZJ (u.c.hoards.getD i default) := Fam.getD hlt
   have hwi := wi1 (i := i) (by omega)
   have hok := (show UInv B T u by assumption).cli.hoardS _ (YG hlt)
   rw [drop_getD hlt,List.filter_cons] at hvf2
   generalize u.c.hoards.getD i default = x at *
   refine wGq tK ?_ ?_ (by simp only [go_sem,hg,ZJ]; try exact rfl)
   ·simp [hg,ZJ,hlt]
   cases hb : (x.worth == ((w + 1 : Nat) : Int)) with
   | true =>
    have hxw : x.worth = ((w + 1 : Nat) : Int) := by simpa using hb
    rw [hb,if_pos rfl,List.foldl_cons] at hvf2
    have hst := hvi2.step x
    have hsp := rsplit_ok x.path (by have := hok.path; omega)
    have hsl := splitR_len x.path
    have hvs : visitS g2 x = ⟨if (goU g2.u (Ys x.path).1 x.worth).e = 0 then g2.n + 1 else g2.n,(goU g2.u (Ys x.path).1 x.worth).u⟩ := rfl
    have hgo := rgo_ok g2.u hvi2.inv (by omega) (by omega) (Ys x.path).1 (by have := hsl.1; omega) (fun y hy => by have := (hsl.2 y hy).1; omega) x.worth
    rw [hvs] at hvf2 hst
    unfold splitA at hsp
    unfold uH gotA at hgo
    generalize goU g2.u (Ys x.path).1 x.worth = q at *
    rw [hxw] at hgo
    generalize (Ys x.path).1 = L at *
    have hgn := hvi2.n
    have hwn : IntKind.i64.wrap ((g2.n : Int) + 1) = ((g2.n + 1 : Nat) : Int) := by rw [Eng.wrap_small (by omega) (by omega)]; rfl
    refine wDT (hb := by simp) (hk := ?_)
    refine wG tK ?_
    refine wC Tryz.func79 (hf := (hsp)) (hk := ?_)
    refine wG tK ?_
    refine wP [900] Tryz.func80 (hf := (hgo)) (hk := ?_)
    refine wGq tK ?_ ?_ (by simp only [go_sem,ZN]; try exact rfl)
    ·simp [ZN]
    by_cases hqe : q.e = 0
    ·rw [if_pos hqe] at hvf2 hst
     refine wDT (hb := by simp [hqe]) (hk := ?_)
     refine wG tK ?_ (by simp only [go_sem,hwn,hwi]; try exact rfl) (by simp [go_sem,hwn,hwi])
     refine ZB ⟨(i + 1,⟨g2.n + 1,q.u⟩),⟨by simp only; omega,hvf2,hst⟩,by simp only; omega,ZU ?_ ?_ ?_⟩
     ·simp [go_sem]
     ·simp [go_sem]
     ·simp [go_sem]
    ·rw [if_neg hqe] at hvf2 hst
     refine wDF (hb := by simp [hqe]) (hk := ?_)
     refine wG tK ?_ (by simp only [go_sem,hwi]; try exact rfl) (by simp [go_sem,hwi])
     refine ZB ⟨(i + 1,⟨g2.n,q.u⟩),⟨by simp only; omega,hvf2,hst⟩,by simp only; omega,ZU ?_ ?_ ?_⟩
     ·simp [go_sem]
     ·simp [go_sem]
     ·simp [go_sem]
   | false =>
    rw [hb,if_neg Bool.false_ne_true] at hvf2
    refine wDF (hb := by simp) (hk := ?_)
    refine wG tK ?_ (by simp only [go_sem,hwi]; try exact rfl) (by simp [go_sem,hwi])
    refine ZB ⟨(i + 1,g2),⟨by simp only; omega,hvf2,hvi2.mono (by simp only; omega)⟩,by simp only; omega,ZU ?_ ?_ ?_⟩
    ·simp [go_sem]
    ·simp [go_sem]
    ·simp [go_sem]
  ·have e : i = u.c.hoards.length := by simp at h; omega
   subst e
   rw [List.drop_length,List.filter_nil,List.foldl_nil] at hvf2
   refine wG tK ?_ (by simp only [go_sem,hwp]; try exact rfl) (by simp [go_sem,hwp])
   refine ZB ⟨(w,g2),⟨by simp only; omega,hvf2,hvi2.mono (by simp only; omega)⟩,by simp only; omega,ZU ?_ ?_ ?_⟩
   ·simp [go_sem]
   ·simp [go_sem,uRow]
   ·simp [go_sem]
end La
namespace Go.Eng
section
variable {P : Program} {T : Tab} {C : Ctx} {σ σ' : St}
structure Ef where
 wr : List Loc
 rd : List Loc
 app : St → St
structure EfOK (e : Ef) : Prop where
 len : ∀ s,(e.app s).tm.length = s.tm.length
 frame : ∀ s x,x ∉ e.wr → AgreeAt s (e.app s) x
 det : ∀ s s',s'.tm.length = s.tm.length → ∀ x,x ∈ e.wr → AgreeAt (e.app s) (e.app s') x
theorem AgreeAt.refl (s : St) (x : Loc) : AgreeAt s s x := by cases x <;> rfl
theorem AgreeAt.trans {a b c : St} {x : Loc} (h : AgreeAt a b x) (k : AgreeAt b c x) : AgreeAt a c x := by cases x <;> exact Eq.trans k h
theorem AgreeAt.symm {a b : St} {x : Loc} (h : AgreeAt a b x) : AgreeAt b a x := by cases x <;> exact Eq.symm h
def efU (es : List Ef) (i : Nat) (σ : St) : St := (es.take i).foldl (fun s e => e.app s) σ
theorem efU_zero (es : List Ef) (σ : St) : efU es 0 σ = σ := by simp [efU]
theorem efU_succ {es : List Ef} {i : Nat} {e : Ef} (h : es[i]? = some e) (σ : St) : efU es (i + 1) σ = e.app (efU es i σ) := by
 unfold efU
 obtain ⟨hi,he⟩ := List.getElem?_eq_some_iff.1 h
 rw [List.take_succ_eq_append_getElem hi,List.foldl_append,he]; rfl
theorem efU_len {es : List Ef} (hok : ∀ e,e ∈ es → EfOK e) (σ : St) : ∀ i,i ≤ es.length → (efU es i σ).tm.length = σ.tm.length
 | 0,_ => by rw [efU_zero]
 | i + 1,h => by
  have hi : es[i]? = some es[i] := List.getElem?_eq_getElem (by omega)
  rw [efU_succ hi,(hok _ (List.mem_of_getElem? hi)).len,efU_len hok σ i (by omega)]
def lastW (W : Nat → Bool) : Nat → Nat
 | 0 => 0
 | n + 1 => if W n = true then n + 1 else lastW W n
theorem lastW_le (W : Nat → Bool) : ∀ n,lastW W n ≤ n
 | 0 => Nat.le_refl _
 | n + 1 => by unfold lastW; split <;> have := lastW_le W n <;> omega
theorem lastW_none (W : Nat → Bool) : ∀ n j,lastW W n ≤ j → j < n → W j = false
 | 0,j,_,h => by omega
 | n + 1,j,h,hj => by
  unfold lastW at h
  split at h
  ·omega
  ·rename_i hn
   by_cases e : j = n
   ·subst e; simpa using hn
   ·exact lastW_none W n j h (by omega)
theorem lastW_set {W W' : Nat → Bool} {m : Nat} (h : ∀ j,W' j = (W j || j == m)) : ∀ n,m < n → (∀ j,m < j → j < n → W j = false) → lastW W' n = m + 1
 | 0,h0,_ => by omega
 | n + 1,h0,hl => by
  unfold lastW
  by_cases e : m = n
  ·subst e; rw [if_pos (by rw [h]; simp)]
  ·have h1 := hl n (by omega) (Nat.lt_succ_self n)
   rw [if_neg (by rw [h,h1]; simp; omega)]
   exact lastW_set h n (by omega) fun j h2 h3 => hl j h2 (by omega)
theorem lastW_congr {W W' : Nat → Bool} : ∀ n,(∀ j,j < n → W' j = W j) → lastW W' n = lastW W n
 | 0,_ => rfl
 | n + 1,h => by
  unfold lastW
  rw [h n (Nat.lt_succ_self n),lastW_congr n fun j hj => h j (by omega)]
def wrB (es : List Ef) (x : Loc) (j : Nat) : Bool := match es[j]? with
 | some e => decide (x ∈ e.wr)
 | none => false
theorem efU_frame {es : List Ef} (hok : ∀ e,e ∈ es → EfOK e) (σ : St) (x : Loc) (i : Nat) : ∀ j,i ≤ j → j ≤ es.length → (∀ m,i ≤ m → m < j → wrB es x m = false) → AgreeAt (efU es i σ) (efU es j σ) x
 | 0,h,_,_ => by rw [show i = 0 by omega]; exact AgreeAt.refl _ _
 | j + 1,h,hj,hno => by
  by_cases e : i = j + 1
  ·rw [e]; exact AgreeAt.refl _ _
  ·have hi : es[j]? = some es[j] := List.getElem?_eq_getElem (by omega)
   have h1 := efU_frame hok σ x i j (by omega) (by omega) fun m h1 h2 => hno m h1 (by omega)
   rw [efU_succ hi]
   refine h1.trans ((hok _ (List.mem_of_getElem? hi)).frame _ x ?_)
   have := hno j (by omega) (Nat.lt_succ_self j)
   unfold wrB at this
   rw [hi] at this
   simpa using this
structure Desc2 (σ : St) (es : List Ef) (D : Nat → Bool) (s : St) : Prop where
 len : s.tm.length = σ.tm.length
 at_ : ∀ x,AgreeAt (efU es (lastW (fun j => D j && wrB es x j) es.length) σ) s x
theorem Desc2.start (σ : St) (es : List Ef) : Desc2 σ es (fun _ => false) σ := ⟨rfl,fun x => by
 have : lastW (fun j => false && wrB es x j) es.length = 0 := by
  have : ∀ n,lastW (fun j => false && wrB es x j) n = 0 := fun n => by
   induction n with
   | zero => rfl
   | succ n ih => unfold lastW; rw [if_neg (by simp)]; exact ih
  exact this _
 rw [this,efU_zero]; exact AgreeAt.refl _ _⟩
theorem Desc2.same {es : List Ef} {D : Nat → Bool} {s : St} (hok : ∀ e,e ∈ es → EfOK e) (h : Desc2 σ es D s) {x : Loc} {m : Nat} (hm : m ≤ es.length) (hx : ∀ j,j < es.length → wrB es x j = true → D j = decide (j < m)) : AgreeAt (efU es m σ) s x := by
 have h1 := h.at_ x
 have h2 : lastW (fun j => D j && wrB es x j) es.length = lastW (fun j => decide (j < m) && wrB es x j) es.length := lastW_congr _ fun j hj => by
  cases e : wrB es x j with
  | false => simp
  | true => rw [hx j hj e]
 rw [h2] at h1
 have h3 : lastW (fun j => decide (j < m) && wrB es x j) es.length ≤ m := by
  rcases Nat.lt_or_ge m (lastW (fun j => decide (j < m) && wrB es x j) es.length) with h4 | h4
  ·exfalso
   have key : ∀ n,m < lastW (fun j => decide (j < m) && wrB es x j) n → False := fun n => by
    induction n with
    | zero => intro h; simp [lastW] at h
    | succ n ih =>
     intro h
     unfold lastW at h
     split at h
     ·rename_i hw; simp at hw; omega
     ·exact ih h
   exact key _ h4
  ·exact h4
 refine AgreeAt.trans ?_ h1
 refine (efU_frame hok σ x _ m h3 hm fun j h4 h5 => ?_).symm
 have := lastW_none _ es.length j h4 (by omega)
 simpa [h5] using this
theorem Desc2.add {es : List Ef} {D : Nat → Bool} {s : St} (hok : ∀ e,e ∈ es → EfOK e) (h : Desc2 σ es D s) {m : Nat} {e : Ef} (he : es[m]? = some e) (hlate : ∀ x,x ∈ e.wr → ∀ j,m < j → j < es.length → wrB es x j = true → D j = false) : Desc2 σ es (fun j => D j || j == m) (e.app s) := by
 have hm : m < es.length := (List.getElem?_eq_some_iff.1 he).1
 have heo := hok e (List.mem_of_getElem? he)
 refine ⟨by rw [heo.len]; exact h.len,fun x => ?_⟩
 by_cases hx : x ∈ e.wr
 ·have hw : wrB es x m = true := by simp only [wrB,he]; simpa using hx
  rw [lastW_set (W := fun j => D j && wrB es x j) (m := m) (fun j => show ((D j || j == m) && wrB es x j) = ((D j && wrB es x j) || j == m) from by
   by_cases e2 : j = m
   ·subst e2; rw [hw,beq_self_eq_true,Bool.or_true,Bool.or_true]; rfl
   ·rw [beq_false_of_ne e2,Bool.or_false,Bool.or_false]) es.length hm fun j h1 h2 => by
    cases e3 : wrB es x j with
    | false => simp
    | true => rw [hlate x hx j h1 h2 e3]; rfl]
  rw [efU_succ he]
  exact heo.det _ _ (by rw [h.len,efU_len hok σ m (by omega)]) x hx
 ·have hw : wrB es x m = false := by simp only [wrB,he]; simpa using hx
  rw [lastW_congr (W := fun j => D j && wrB es x j) _ fun j hj => show ((D j || j == m) && wrB es x j) = (D j && wrB es x j) from by
   by_cases e2 : j = m
   ·subst e2; rw [hw,Bool.and_false,Bool.and_false]
   ·rw [beq_false_of_ne e2,Bool.or_false]]
  exact (h.at_ x).trans (heo.frame s x hx)
def skE (es : List Ef) : Skel := es.map fun e => (e.wr,e.rd)
structure SegFacts2 (ops : Array Oper) (k : Nat) (es : List Ef) : Prop where
 lt : ∀ i,i < ops.size → ∀ e,e ∈ preds ops i → e < i
 late : ∀ i,i < ops.size → k + es.length ≤ i → ∀ s,s < es.length → reach ops ops.size (k + s) i = true
 od : ∀ (i j : Nat) p q x,es[i]? = some p → es[j]? = some q → x ∈ q.wr → (x ∈ p.rd ∨ x ∈ p.wr) → i ≠ j → (j < i ∧ reach ops ops.size (k + j) (k + i) = true) ∨ (i < j ∧ reach ops ops.size (k + i) (k + j) = true)
 size : k + es.length ≤ ops.size
theorem seg_facts2 {ops : Array Oper} {k : Nat} {ps : List Ef} (h : segOK ops k (skE ps) = true) : SegFacts2 ops k ps := by
 unfold segOK segOKt at h
 simp only [Bool.and_eq_true,decide_eq_true_eq] at h
 obtain ⟨⟨⟨h1,h2⟩,h3⟩,h4⟩ := h
 have hl : (skE ps).length = ps.length := by simp [skE]
 rw [hl] at h2 h3 h4
 have key : ∀ (i j : Nat) (p q : Ef),ps[i]? = some p → ps[j]? = some q → i = j ∨ ((∀ x,x ∈ q.wr → x ∉ p.wr ∧ x ∉ p.rd) ∨ (if j < i then reach ops ops.size (k + j) (k + i) else reach ops ops.size (k + i) (k + j)) = true) := by
  intro i j p q hp hq
  have hi : i < ps.length := (List.getElem?_eq_some_iff.1 hp).1
  have hj : j < ps.length := (List.getElem?_eq_some_iff.1 hq).1
  have := List.all_eq_true.1 (List.all_eq_true.1 h3 i (List.mem_range.2 hi)) j (List.mem_range.2 hj)
  simp only [skE,List.getElem?_map,hp,hq,Option.map_some,Bool.or_eq_true,beq_iff_eq,Bool.not_eq_true',List.any_eq_false,List.contains_iff_mem] at this
  rcases this with h | h6
  ·exact .inl h
  ·refine .inr ?_
   rcases h6 with h6 | h6
   ·exact .inl (fun x hx => ⟨fun hx' => h6 x hx (.inl hx'),fun hx' => h6 x hx (.inr hx')⟩)
   ·refine .inr ?_
    split at h6
    ·rw [if_pos (by assumption)]; exact hit_reach (by omega) h6
    ·rw [if_neg (by assumption)]; exact hit_reach (by omega) h6
 refine ⟨fun i hi e he => ?_,fun i hi hle s hs => ?_,fun i j p q x hp hq hx hx' hne => ?_,h4⟩
 ·have := List.all_eq_true.1 (List.all_eq_true.1 h1 i (List.mem_range.2 hi)) e he
  simpa using this
 ·have := List.all_eq_true.1 h2 i (List.mem_range.2 hi)
  simp only [Bool.or_eq_true,decide_eq_true_eq] at this
  rcases this with h | h
  ·omega
  ·exact hit_reach hi (List.all_eq_true.1 h s (List.mem_range.2 hs))
 ·rcases key i j p q hp hq with h | h
  ·exact absurd h hne
  ·rcases h with h | h
   ·rcases hx' with hx' | hx'
    ·exact absurd hx' (h x hx).2
    ·exact absurd hx' (h x hx).1
   ·split at h
    ·exact .inl ⟨by assumption,h⟩
    ·exact .inr ⟨by omega,h⟩
theorem wrB_some {es : List Ef} {x : Loc} {j : Nat} (h : wrB es x j = true) : ∃ q,es[j]? = some q ∧ x ∈ q.wr := by
 unfold wrB at h
 cases e : es[j]? with
 | none => rw [e] at h; cases h
 | some q => rw [e] at h; exact ⟨q,rfl,by simpa using h⟩
theorem draw_ef {ops : Array Oper} {Q : Exit → Go.Act → World → Prop} {k : Nat} {l : List Oper} {es : List Ef} (hck : segOK ops k (skE es) = true) (hlen : l.length = es.length)
  (hl : ∀ i,i < es.length → ops[k + i]? = l[i]?) (hok : ∀ e,e ∈ es → EfOK e)
  (hrob : ∀ m o e,l[m]? = some o → es[m]? = some e → ∀ s,s.tm.length = σ.tm.length → (∀ x,(x ∈ e.rd ∨ x ∈ e.wr) → AgreeAt (efU es m σ) s x) → (∀ x,∃ i,i ≤ es.length ∧ AgreeAt (efU es i σ) s x) → TripG P C ops o s (e.app s))
  (h : DrawOK P C ops Q (k + es.length) (efU es es.length σ)) : DrawOK P C ops Q k σ := by
 have hF := seg_facts2 hck
 have main : ∀ (r : Nat) (D : Nat → Bool) (listed : Array Bool) (s : St),((List.range es.length).filter fun j => !D j).length = r → listed.size = ops.size →
   (∀ j,j < ops.size → listed.getD j false = (decide (j < k) || (decide (j < k + es.length) && D (j - k)))) →
   (∀ j,listed.getD j false = true → ∀ e,e ∈ preds ops j → listed.getD e false = true) → Desc2 σ es D s → ∀ a w,Rel C s a w → wpAny P .any ops Q (ops.size - (k + es.length) + r) listed a w := by
  intro r
  induction r with
  | zero =>
   intro D listed s hr hsz hlist _ hd a w hrel
   have hall : ∀ j,j < es.length → D j = true := fun j hj => by
    have h0 : (List.range es.length).filter (fun j => !D j) = [] := List.eq_nil_of_length_eq_zero hr
    have := List.filter_eq_nil_iff.1 h0 j (List.mem_range.2 hj)
    simpa using this
   have e : listed = Yt ops.size (k + es.length) := by
    apply Array.ext
    ·simp [Yt,hsz]
    ·intro j h1 h2
     have hj : j < ops.size := by omega
     have h3 := hlist j hj
     rw [Array.getD_eq_getD_getElem?,Array.getElem?_eq_getElem h1,Option.getD_some] at h3
     rw [h3]
     have h4 := doneTo_get ops.size (k + es.length) j false
     rw [Array.getD_eq_getD_getElem?,Array.getElem?_eq_getElem h2,Option.getD_some,if_pos hj] at h4
     rw [h4]
     by_cases hk : j < k
     ·simp [hk]; omega
     ·by_cases hk2 : j < k + es.length
      ·simp [hk,hk2,hall (j - k) (by omega)]
      ·simp [hk,hk2]
   rw [Nat.add_zero,e]
   have hsame : Le C s (efU es es.length σ) := rel_same (hd.len.trans (efU_len hok σ _ (Nat.le_refl _)).symm)
    (fun t => hd.same hok (x := .tm t) (Nat.le_refl _) fun j hj _ => by rw [hall j hj]; simp [hj])
    (fun id => hd.same hok (x := .blk id) (Nat.le_refl _) fun j hj _ => by rw [hall j hj]; simp [hj])
   exact h a w (hsame a w hrel)
  | succ r ih =>
   intro D listed s hr hsz hlist hclosed hd a w hrel
   have hex : ∃ m,m < es.length ∧ D m = false := by
    have hne : (List.range es.length).filter (fun j => !D j) ≠ [] := by intro e; rw [e] at hr; simp at hr
    obtain ⟨m,hm⟩ := List.exists_mem_of_ne_nil _ hne
    rw [List.mem_filter,List.mem_range] at hm
    exact ⟨m,hm.1,by simpa using hm.2⟩
   obtain ⟨m0,⟨hm0,hD0⟩,hmin⟩ := least (p := fun m => m < es.length ∧ D m = false) hex
   have hun : listed.getD (k + m0) false = false := by
    rw [hlist _ (by have := hF.size; omega)]
    simp [show ¬ k + m0 < k by omega,hD0]
   refine ⟨fun h0 => ?_,fun i hi => ?_⟩
   ·exfalso
    have : k + m0 ∈ Region.ready .any ops listed := by
     rw [mem_ready]
     have hlt' : k + m0 < ops.size := by have := hF.size; omega
     refine ⟨?_,ops[k + m0],Array.getElem?_eq_getElem hlt',fun e he hb => ?_⟩
     ·rw [Array.getD_eq_getD_getElem?,Array.getElem?_eq_getElem (by omega)] at hun ⊢
      exact hun
     ·have hmem : e.on ∈ preds ops (k + m0) := by
       unfold preds
       rw [Array.getElem?_eq_getElem hlt']
       exact List.mem_map.2 ⟨e,List.mem_filter.2 ⟨by simpa using he,hb⟩,rfl⟩
      have hl' := hF.lt _ hlt' _ hmem
      rw [hlist _ (by omega)]
      by_cases h1 : e.on < k
      ·simp [h1]
      ·have h2 : D (e.on - k) = true := by
        cases h3 : D (e.on - k) with
        | true => rfl
        | false => exact absurd ⟨by omega,h3⟩ (hmin (e.on - k) (by omega))
       simp [h1,h2,show e.on < k + es.length by omega]
    rw [h0] at this
    cases this
   ·obtain ⟨h1,o,ho,hall⟩ := mem_ready.1 hi
    have hilt : i < ops.size := (Array.getElem?_eq_some_iff.1 ho).1
    have hil : listed.getD i false = false := by
     rw [Array.getD_eq_getD_getElem?,Array.getElem?_eq_getElem (by omega)] at h1 ⊢
     exact h1
    have hpl : ∀ e,e ∈ preds ops i → listed.getD e false = true := fun e he => by
     unfold preds at he
     rw [ho] at he
     obtain ⟨ed,hed,rfl⟩ := List.mem_map.1 he
     rw [List.mem_filter] at hed
     exact hall ed (by simpa using hed.1) hed.2
    have hik : k ≤ i := by
     rw [hlist i hilt] at hil
     simp at hil
     omega
    have hiu : i < k + es.length := by
     rcases Nat.lt_or_ge i (k + es.length) with h2 | h2
     ·exact h2
     ·have := reach_listed hclosed _ _ _ (hF.late i hilt h2 m0 hm0) hpl
      rw [hun] at this
      cases this
    obtain ⟨m,rfl⟩ : ∃ m,i = k + m := ⟨i - k,by omega⟩
    have hm : m < es.length := by omega
    have hDm : D m = false := by
     rw [hlist _ hilt] at hil
     simpa [show ¬ k + m < k by omega,hiu] using hil
    have hpm : es[m]? = some es[m] := List.getElem?_eq_getElem hm
    have hom : l[m]? = some o := by rw [← hl m hm]; exact ho
    have key : ∀ x,(x ∈ es[m].rd ∨ x ∈ es[m].wr) → ∀ (j : Nat),j < es.length → wrB es x j = true → D j = decide (j < m) := fun x hx j hj hwj => by
     obtain ⟨q,hq,hxq⟩ := wrB_some hwj
     by_cases e : m = j
     ·subst e; simp [hDm]
     ·rcases hF.od m j _ q x hpm hq hxq hx e with ⟨h3,h4⟩ | ⟨h3,h4⟩
      ·have h5 := reach_listed hclosed _ _ _ h4 hpl
       rw [hlist _ (by omega)] at h5
       simp [show ¬ k + j < k by omega] at h5
       simp [h3,h5.2]
      ·cases h6 : D j with
       | false => simp; omega
       | true =>
        have h7 : listed.getD (k + j) false = true := by
         rw [hlist _ (by have := hF.size; omega)]
         simp [h6,hj]
        have h8 := reach_listed hclosed _ _ _ h4 (hclosed _ h7)
        rw [hil] at h8
        cases h8
    have ht := hrob m o es[m] hom hpm s hd.len (fun x hx => hd.same hok (by omega) (key x hx)) (fun x => ⟨_,lastW_le _ _,hd.at_ x⟩)
    refine drawn_op ho ht hrel fun a' w' hr' => ?_
    refine ih (fun j => D j || j == m) (listed.setIfInBounds (k + m) true) (es[m].app s) ?_ (by simp [hsz]) (fun j hj => ?_) (fun j hj e he => ?_) (hd.add hok hpm fun x hx j hlt hj hw => by rw [key x (.inr hx) j hj hw]; simp; omega) a' w' hr'
    ·have := filter_less hDm (List.range es.length) List.nodup_range (List.mem_range.2 hm)
     omega
    ·by_cases e : k + m = j
     ·subst e
      rw [Array.getD_eq_getD_getElem?,Array.getElem?_setIfInBounds_self_of_lt (by omega)]
      simp [hiu]
     ·rw [getD_set_ne false e,hlist j hj]
      have : (j - k == m) = false ∨ j < k := by
       by_cases h2 : j < k
       ·exact .inr h2
       ·left; simp; omega
      rcases this with h2 | h2
      ·rw [h2]; simp
      ·simp [h2]
    ·by_cases e' : k + m = j
     ·subst e'
      exact getD_set_true (hpl e he)
     ·rw [getD_set_ne false e'] at hj
      exact getD_set_true (hclosed j hj e he)
 intro a w hr
 have h0 := main es.length (fun _ => false) (Yt ops.size k) σ (by show ((List.range es.length).filter fun _ => true).length = es.length; rw [List.filter_eq_self.2 (fun _ _ => rfl)]; simp) (by simp [Yt]) (fun j hj => by rw [doneTo_get,if_pos hj]; simp) (fun j hj e he => by
  rw [doneTo_get] at hj ⊢
  split at hj
  ·rename_i hjn
   have hlt' := hF.lt j hjn e he
   rw [if_pos (by omega)]
   simp at hj ⊢
   omega
  ·cases hj) (Desc2.start σ es) a w hr
 rw [show ops.size - k = ops.size - (k + es.length) + es.length from by have := hF.size; omega]
 exact h0
end
end Go.Eng
