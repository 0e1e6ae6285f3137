/- Texts of this claim, part 18: RWrite, RGone, EngAS, EngAT. No condition. -/
import Derived.Test.YtfiiingppbkpkaaGreatXR17
import Derived.Test.YtfiiingppbkpkaaGreatXR7
import Derived.Test.YtfiiingppbkpkaaGreatXR14
import Derived.Test.YtfiiingppbkpkaaGreatXR6
import Derived.Laws.IdiomStrings
set_option maxRecDepth 10000
set_option maxHeartbeats 4000000
set_option linter.unusedSimpArgs false
set_option linter.unusedVariables false
namespace La
open Go Go.Eng Go.Proofs
theorem rwrite_ok {B T : Nat} (u : U) (h : UInv B T u) (hB : B ≤ 30000000) (hT : T ≤ 800000000000) (path data : List UInt8) (hp : path.length ≤ 10000000) (G Y N : Nat → Nat) : FnOK Tryz.prog 81 [.ptr 900 13 0 0,.str path,.sl (data.map ZY)] (uH u G Y N)
  (fun r H => r = .int .i64 (writeU u path data).e ∧ Holds (uH (writeU u path data).u G Y N) H) := by
 have hd := rdirU_ok u h (by omega) (by omega) path hp
 have hdi := dirU_inv h path
 have hdn := dirU_node h path
 have hnm := dirU_name u path
 have hW0 : writeU u path data = if (Yd u path).e ≠ 0 then ⟨(Yd u path).e,(Yd u path).u⟩
  else if data.length > 20 then ⟨4,(Yd u path).u⟩
  else match entryN (Yd u path).n (Yd u path).name with
  | some f => putU (getU (Yd u path).u f 0) data
  | none => if (actU (Yd u path).u (makeA (Yd u path).n.fid (Yd u path).name) (-1)).e ≠ 0 then actU (Yd u path).u (makeA (Yd u path).n.fid (Yd u path).name) (-1)
   else putU (goU (actU (Yd u path).u (makeA (Yd u path).n.fid (Yd u path).name) (-1)).u (Ys path).1 0) data := rfl
 generalize Yd u path = d at *
 have hent := rentry_ok d.n d.name (by have := hdn.ent; omega)
 rw [rEntry_entryN hdn.eup] at hent
 unfold ZN at hent
 unfold uH at hd
 unfold uH
 refine ZF tK (Tryz.func81) rfl (fun C => ?_)
 simp only [Tryz.ntmps81,Tryz.results81,go_sem]
 refine wG tK ?_
 refine wP [900] Tryz.func82 (hf := (hd)) (hk := ?_)
 refine wGq tK ?_ ?_ (by simp only [go_sem,ZN]; try exact rfl)
 ·simp [ZN]
 by_cases hde : d.e = 0
 ·rw [if_neg (by simp [hde])] at hW0
  refine wDF (hb := by simp [hde]) (hk := ?_)
  refine wG tK ?_
  by_cases hdl : data.length > 20
  ·rw [if_pos hdl] at hW0
   have hW := hW0
   refine wDT (hb := by simp; omega) (hk := ?_)
   refine wG tK ?_
   refine wU ?_ ?_
   ·rw [hW]
   ·rw [hW]
    simp only [Yx,gH,gI,gJ,gK]
    repeat' refine ZH ?_ ?_
    all_goals first | exact YH _ | rfl | simp [go_sem]
  ·rw [if_neg hdl] at hW0
   refine wDF (hb := by simp; omega) (hk := ?_)
   refine wG tK ?_
   refine Yl (Zn 10) ?_
   simp only [go_sem]
   cases hen : entryN d.n d.name with
   | some f =>
    rw [hen] at hent hW0
    simp only at hent hW0
    have hg := rget_ok d.u hdi (by omega) (by omega) f 0
    have hgi := getU_inv hdi f 0
    unfold uH gotA at hg
    generalize getU d.u f 0 = g at hg hgi hW0
    refine wC Tryz.func63 (hf := (hent)) (hk := ?_)
    refine wG tK ?_
    refine Vt rfl ?_
    refine wG tK ?_
    refine wP [900] Tryz.func104 (hf := (hg)) (hk := ?_)
    refine wGq tK ?_ ?_ (by simp only [go_sem,ZN]; try exact rfl)
    ·simp [ZN]
    by_cases hge : g.e = 0
    ·have hW : writeU u path data = actU g.u (storeA g.n.fid data) (seenN g.n) := by rw [hW0]; unfold putU; rw [if_neg (by simp [hge])]
     have hact := ract_ok g.u hgi (by omega) (by omega) (storeA g.n.fid data) ⟨by simp [storeA],by simp [storeA],by show data.length ≤ 20; omega⟩ (seenN g.n)
     have hse := rseen_ok g.n
     unfold uH at hact
     simp only [ZA,storeA] at hact
     rw [hW]
     unfold ZN at hse
     simp only [storeA]
     generalize actU g.u ⟨3,g.n.fid,0,[],0,[],data⟩ (seenN g.n) = x at *
     refine wDF (hb := by simp [hge]) (hk := ?_)
     refine wG tK ?_
     refine ZW ZM ?_
     refine ZS rfl ?_
     refine sN tK 4 ?_
     refine sB tK ?_
     refine sN tK 1 ?_
     refine sC Tryz.func105 (hf := (hse)) (hk := ?_)
     refine seg_callP rfl rfl (by simp only [go_sem]; try exact rfl) (by simp [go_sem]) ⟨_,Tryz.func83,by kernel_rfl,rfl⟩ [900] (by simp only [go_sem,Bool.false_or,Bool.or_true,Bool.true_or,Bool.or_false,↓reduceIte]; try exact rfl) (by simp [go_sem]) (by simp) (by simp [go_sem]) (by simp [go_sem]) (by simp [go_sem]) (hact) (by simp only [go_sem]; exact rfl) (by simp only [go_sem,Bool.false_or,Bool.or_true,Bool.true_or,Bool.or_false,↓reduceIte]; exact rfl) ?_
     refine sG tK ?_
     refine sE ?_
     refine wKd ?_
     try simp only [go_sem,gA,gB,gC]
     refine wG tK ?_
     refine wU ?_ ?_
     ·rfl
     ·skip
      simp only [Yx,gH,gI,gJ,gK]
      repeat' refine ZH ?_ ?_
      all_goals first | exact YH _ | rfl | simp [go_sem]
    ·have hW : writeU u path data = ⟨g.e,g.u⟩ := by rw [hW0]; unfold putU; rw [if_pos (by simp [hge])]
     refine wDT (hb := by simp [hge]) (hk := ?_)
     refine wG tK ?_
     refine wU ?_ ?_
     ·rw [hW]
     ·rw [hW]
      simp only [Yx,gH,gI,gJ,gK]
      repeat' refine ZH ?_ ?_
      all_goals first | exact YH _ | rfl | simp [go_sem]
   | none =>
    rw [hen] at hent hW0
    simp only at hent hW0
    have hms : ActS (makeA d.n.fid d.name) := ⟨hnm,by simp [makeA],by simp [makeA]⟩
    have hmk := ract_ok d.u hdi (by omega) (by omega) (makeA d.n.fid d.name) hms (-1)
    have hmi := act_inv hdi hms (-1)
    generalize actU d.u (makeA d.n.fid d.name) (-1) = x at hmk hmi hW0
    unfold uH ZA at hmk
    simp only [makeA,List.map_nil] at hmk
    have hmk2 : ∀ G Y N : Nat → Nat,FnOK Tryz.prog 83 [.ptr 900 13 0 0,.agg [.int .i64 1,.int .i64 0,.int .i64 d.n.fid,.str d.name,.int .i64 0,.str [],.nils],.int .i64 (-1)] _ _ := fun G Y N => FnOK.nrm rfl (hmk G Y N)
    refine wC Tryz.func63 (hf := (hent)) (hk := ?_)
    refine wG tK ?_
    refine Vf rfl ?_
    refine wG tK ?_
    refine wP [900] Tryz.func83 (hf := (hmk2)) (hk := ?_)
    refine wG tK ?_
    by_cases hxe : x.e = 0
    ·rw [if_neg (by simp [hxe])] at hW0
     have hsp := rsplit_ok path hp
     have hsl := splitR_len path
     unfold splitA at hsp
     generalize Ys path = S at *
     obtain ⟨L,E⟩ := S
     obtain ⟨hll,hlx⟩ := hsl
     simp only at hW0 hll hlx hsp
     have hg := rgo_ok x.u hmi (by omega) (by omega) L (by omega) (fun y hy => by have := (hlx y hy).1; omega) 0
     have hgi := goU_inv hmi L 0
     unfold uH gotA at hg
     generalize goU x.u L 0 = g at *
     refine wDT (hb := by simp [hxe]) (hk := ?_)
     refine wG tK ?_
     refine wC Tryz.func79 (hf := (hsp)) (hk := ?_)
     refine wG tK ?_
     refine wP [900] Tryz.func80 (hf := (hg)) (hk := ?_)
     refine wGq tK ?_ ?_ (by simp only [go_sem,ZN]; try exact rfl)
     ·simp [ZN]
     by_cases hge : g.e = 0
     ·have hW : writeU u path data = actU g.u (storeA g.n.fid data) (seenN g.n) := by rw [hW0]; unfold putU; rw [if_neg (by simp [hge])]
      have hact := ract_ok g.u hgi (by omega) (by omega) (storeA g.n.fid data) ⟨by simp [storeA],by simp [storeA],by show data.length ≤ 20; omega⟩ (seenN g.n)
      have hse := rseen_ok g.n
      unfold uH at hact
      simp only [ZA,storeA] at hact
      rw [hW]
      unfold ZN at hse
      simp only [storeA]
      generalize actU g.u ⟨3,g.n.fid,0,[],0,[],data⟩ (seenN g.n) = x at *
      refine wDF (hb := by simp [hge]) (hk := ?_)
      refine wG tK ?_
      refine ZW ZM ?_
      refine ZS rfl ?_
      refine sN tK 4 ?_
      refine sB tK ?_
      refine sN tK 1 ?_
      refine sC Tryz.func105 (hf := (hse)) (hk := ?_)
      refine seg_callP rfl rfl (by simp only [go_sem]; try exact rfl) (by simp [go_sem]) ⟨_,Tryz.func83,by kernel_rfl,rfl⟩ [900] (by simp only [go_sem,Bool.false_or,Bool.or_true,Bool.true_or,Bool.or_false,↓reduceIte]; try exact rfl) (by simp [go_sem]) (by simp) (by simp [go_sem]) (by simp [go_sem]) (by simp [go_sem]) (hact) (by simp only [go_sem]; exact rfl) (by simp only [go_sem,Bool.false_or,Bool.or_true,Bool.true_or,Bool.or_false,↓reduceIte]; exact rfl) ?_
      refine sG tK ?_
      refine sE ?_
      refine wKd ?_
      try simp only [go_sem,gA,gB,gC]
      refine wG tK ?_
      refine wU ?_ ?_
      ·rfl
      ·skip
       simp only [Yx,gH,gI,gJ,gK]
       repeat' refine ZH ?_ ?_
       all_goals first | exact YH _ | rfl | simp [go_sem]
     ·have hW : writeU u path data = ⟨g.e,g.u⟩ := by rw [hW0]; unfold putU; rw [if_pos (by simp [hge])]
      refine wDT (hb := by simp [hge]) (hk := ?_)
      refine wG tK ?_
      refine wU ?_ ?_
      ·rw [hW]
      ·rw [hW]
       simp only [Yx,gH,gI,gJ,gK]
       repeat' refine ZH ?_ ?_
       all_goals first | exact YH _ | rfl | simp [go_sem]
    ·rw [if_pos (by simp [hxe])] at hW0
     have hW := hW0
     refine wDF (hb := by simp [hxe]) (hk := ?_)
     refine wG tK ?_
     refine wDT (hb := by simp [hxe]) (hk := ?_)
     refine wG tK ?_
     refine wU ?_ ?_
     ·rw [hW]
     ·rw [hW]
      simp only [Yx,gH,gI,gJ,gK]
      repeat' refine ZH ?_ ?_
      all_goals first | exact YH _ | rfl | simp [go_sem]
 ·rw [if_pos (by simp [hde])] at hW0
  have hW := hW0
  refine wDT (hb := by simp [hde]) (hk := ?_)
  refine wG tK ?_
  refine wU ?_ ?_
  ·rw [hW]
  ·rw [hW]
   simp only [Yx,gH,gI,gJ,gK]
   repeat' refine ZH ?_ ?_
   all_goals first | exact YH _ | rfl | simp [go_sem]
theorem getU_fid {B T : Nat} {u : U} (h : UInv B T u) {f w : Int} (he : (getU u f w).e = 0) : (getU u f w).n.fid = f := by
 unfold getU at he ⊢
 cases hn : nodeK u.c.cache f with
 | some n =>
  obtain ⟨k,_,_,hf⟩ := nodeK_mem hn
  exact hf
 | none =>
  rw [hn] at he
  simp only at he ⊢
  split
  ·rename_i ha; rw [if_pos ha] at he; cases he
  ·rename_i ha
   rw [if_neg ha] at he
   cases hf : Yf u.s.tree f with
   | none => rw [hf] at he; cases he
   | some n => exact ((ZO h.srv.hist.good.up).1 hf).2
theorem rremove_ok {B T : Nat} (u : U) (h : UInv B T u) (hB : B ≤ 30000000) (hT : T ≤ 800000000000) (path to : List UInt8) (hp : path.length ≤ 10000000) (G Y N : Nat → Nat) : FnOK Tryz.prog 84 [.ptr 900 13 0 0,.str path,.str to,.bool false] (uH u G Y N)
  (fun r H => r = .int .i64 (removeU u path).e ∧ Holds (uH (removeU u path).u G Y N) H) := by
 have hd := rdirU_ok u h (by omega) (by omega) path hp
 have hdi := dirU_inv h path
 have hdn := dirU_node h path
 have hnm := dirU_name u path
 have hE : (atU u path).e ≠ 0 → removeU u path = ⟨(atU u path).e,(atU u path).u⟩ := fun h => by unfold removeU; rw [if_pos h]
 have hS : (atU u path).e = 0 → removeU u path = actU (atU u path).u (removeA (atU u path).n.fid (atU u path).d (atU u path).name) (seenN (atU u path).n) := fun h => by unfold removeU; rw [if_neg (by simp [h])]
 have hA : atU u path = if (Yd u path).e ≠ 0 then ⟨0,[],Yz,(Yd u path).e,(Yd u path).u⟩
  else match entryN (Yd u path).n (Yd u path).name with
  | none => ⟨0,[],Yz,6,(Yd u path).u⟩
  | some f => ⟨(Yd u path).n.fid,(Yd u path).name,(getU (Yd u path).u f 0).n,(getU (Yd u path).u f 0).e,(getU (Yd u path).u f 0).u⟩ := rfl
 generalize removeU u path = w at *
 generalize Yd u path = d at *
 generalize atU u path = p at *
 have hent := rentry_ok d.n d.name (by have := hdn.ent; omega)
 rw [rEntry_entryN hdn.eup] at hent
 unfold ZN at hent
 unfold uH at hd
 unfold uH
 refine ZF tK (Tryz.func84) rfl (fun C => ?_)
 simp only [Tryz.ntmps84,Tryz.results84,go_sem]
 refine wG tK ?_
 refine wP [900] Tryz.func82 (hf := (hd)) (hk := ?_)
 refine wGq tK ?_ ?_ (by simp only [go_sem,ZN]; try exact rfl)
 ·simp [ZN]
 by_cases hde : d.e = 0
 ·rw [if_neg (by simp [hde])] at hA
  refine wDF (hb := by simp [hde]) (hk := ?_)
  refine wG tK ?_
  cases hen : entryN d.n d.name with
  | none =>
   rw [hen] at hent hA
   simp only at hent hA
   have hW := hE (by rw [hA]; simp)
   rw [hA] at hW
   refine wC Tryz.func63 (hf := (hent)) (hk := ?_)
   refine wG tK ?_
   refine Vt rfl ?_
   refine wG tK ?_
   refine wU ?_ ?_
   ·rw [hW]
   ·rw [hW]
    simp only [Yx,gH,gI,gJ,gK]
    repeat' refine ZH ?_ ?_
    all_goals first | exact YH _ | rfl | simp [go_sem]
  | some f =>
   rw [hen] at hent hA
   simp only at hent hA
   have hg := rget_ok d.u hdi (by omega) (by omega) f 0
   have hgi := getU_inv hdi f 0
   have hgf := @getU_fid B (T + 42) d.u hdi f 0
   unfold uH gotA at hg
   generalize getU d.u f 0 = g at hg hgi hA hgf
   refine wC Tryz.func63 (hf := (hent)) (hk := ?_)
   refine wG tK ?_
   refine Vf rfl ?_
   refine wG tK ?_
   refine wP [900] Tryz.func104 (hf := (hg)) (hk := ?_)
   refine wGq tK ?_ ?_ (by simp only [go_sem,ZN]; try exact rfl)
   ·simp [ZN]
   by_cases hge : g.e = 0
   ·have hgf := hgf hge
    rw [hA] at hS
    refine wDF (hb := by simp [hge]) (hk := ?_)
    refine wG tK ?_
    refine Yl (Zn 15) ?_
    simp only [go_sem]
    skip
    have hW := hS hge
    simp only [removeA,hgf] at hW
    have hact := ract_ok g.u hgi (by omega) (by omega) (removeA f d.n.fid d.name) ⟨hnm,by simp [removeA],by simp [removeA]⟩ (seenN g.n)
    have hse := rseen_ok g.n
    unfold uH at hact
    simp only [ZA,removeA,List.map_nil] at hact
    unfold ZN at hse
    rw [hW]
    generalize actU g.u ⟨4,f,d.n.fid,d.name,0,[],[]⟩ (seenN g.n) = x at *
    refine Vf rfl ?_
    refine wG tK ?_
    refine ZW ZM ?_
    refine ZS rfl ?_
    refine sN tK 3 ?_
    refine sC Tryz.func105 (hf := (hse)) (hk := ?_)
    refine seg_callP rfl rfl (by simp only [go_sem]; try exact rfl) (by simp [go_sem]) ⟨_,Tryz.func83,by kernel_rfl,rfl⟩ [900] (by simp only [go_sem,Bool.false_or,Bool.or_true,Bool.true_or,Bool.or_false,↓reduceIte]; try exact rfl) (by simp [go_sem]) (by simp) (by simp [go_sem]) (by simp [go_sem]) (by simp [go_sem]) (hact) (by simp only [go_sem]; exact rfl) (by simp only [go_sem,Bool.false_or,Bool.or_true,Bool.true_or,Bool.or_false,↓reduceIte]; exact rfl) ?_
    refine sG tK ?_
    refine sE ?_
    refine wKd ?_
    try simp only [go_sem,gA,gB,gC]
    refine wG tK ?_
    refine wU ?_ ?_
    ·rfl
    ·skip
     simp only [Yx,gH,gI,gJ,gK]
     repeat' refine ZH ?_ ?_
     all_goals first | exact YH _ | rfl | simp [go_sem]
   ·have hW := hE (by rw [hA]; exact hge)
    rw [hA] at hW
    refine wDT (hb := by simp [hge]) (hk := ?_)
    refine wG tK ?_
    refine wU ?_ ?_
    ·rw [hW]
    ·rw [hW]
     simp only [Yx,gH,gI,gJ,gK]
     repeat' refine ZH ?_ ?_
     all_goals first | exact YH _ | rfl | simp [go_sem]
 ·rw [if_pos (by simp [hde])] at hA
  have hW := hE (by rw [hA]; exact hde)
  rw [hA] at hW
  refine wDT (hb := by simp [hde]) (hk := ?_)
  refine wG tK ?_
  refine wU ?_ ?_
  ·rw [hW]
  ·rw [hW]
   simp only [Yx,gH,gI,gJ,gK]
   repeat' refine ZH ?_ ?_
   all_goals first | exact YH _ | rfl | simp [go_sem]
theorem rmove_ok {B T : Nat} (u : U) (h : UInv B T u) (hB : B ≤ 30000000) (hT : T ≤ 800000000000) (path to : List UInt8) (hp : path.length ≤ 10000000) (hto : to.length ≤ 10000000) (G Y N : Nat → Nat) : FnOK Tryz.prog 84 [.ptr 900 13 0 0,.str path,.str to,.bool true] (uH u G Y N)
  (fun r H => r = .int .i64 (moveU u path to).e ∧ Holds (uH (moveU u path to).u G Y N) H) := by
 have hd := rdirU_ok u h (by omega) (by omega) path hp
 have hdi := dirU_inv h path
 have hdn := dirU_node h path
 have hnm := dirU_name u path
 have hE : (atU u path).e ≠ 0 → moveU u path to = ⟨(atU u path).e,(atU u path).u⟩ := fun h => by unfold moveU; rw [if_pos h]
 have hM1 : (atU u path).e = 0 → (Yd (atU u path).u to).e ≠ 0 → moveU u path to = ⟨(Yd (atU u path).u to).e,(Yd (atU u path).u to).u⟩ := fun h h2 => by unfold moveU; rw [if_neg (by simp [h]),if_pos h2]
 have hM2 : (atU u path).e = 0 → (Yd (atU u path).u to).e = 0 → moveU u path to = actU (Yd (atU u path).u to).u (renameA (atU u path).n.fid (atU u path).d (atU u path).name (Yd (atU u path).u to).n.fid (Yd (atU u path).u to).name) (seenN (atU u path).n) := fun h h2 => by
  unfold moveU; rw [if_neg (by simp [h]),if_neg (by simp [h2])]
 have hS := hM1
 have hA : atU u path = if (Yd u path).e ≠ 0 then ⟨0,[],Yz,(Yd u path).e,(Yd u path).u⟩
  else match entryN (Yd u path).n (Yd u path).name with
  | none => ⟨0,[],Yz,6,(Yd u path).u⟩
  | some f => ⟨(Yd u path).n.fid,(Yd u path).name,(getU (Yd u path).u f 0).n,(getU (Yd u path).u f 0).e,(getU (Yd u path).u f 0).u⟩ := rfl
 generalize moveU u path to = w at *
 generalize Yd u path = d at *
 generalize atU u path = p at *
 have hent := rentry_ok d.n d.name (by have := hdn.ent; omega)
 rw [rEntry_entryN hdn.eup] at hent
 unfold ZN at hent
 unfold uH at hd
 unfold uH
 refine ZF tK (Tryz.func84) rfl (fun C => ?_)
 simp only [Tryz.ntmps84,Tryz.results84,go_sem]
 refine wG tK ?_
 refine wP [900] Tryz.func82 (hf := (hd)) (hk := ?_)
 refine wGq tK ?_ ?_ (by simp only [go_sem,ZN]; try exact rfl)
 ·simp [ZN]
 by_cases hde : d.e = 0
 ·rw [if_neg (by simp [hde])] at hA
  refine wDF (hb := by simp [hde]) (hk := ?_)
  refine wG tK ?_
  cases hen : entryN d.n d.name with
  | none =>
   rw [hen] at hent hA
   simp only at hent hA
   have hW := hE (by rw [hA]; simp)
   rw [hA] at hW
   refine wC Tryz.func63 (hf := (hent)) (hk := ?_)
   refine wG tK ?_
   refine Vt rfl ?_
   refine wG tK ?_
   refine wU ?_ ?_
   ·rw [hW]
   ·rw [hW]
    simp only [Yx,gH,gI,gJ,gK]
    repeat' refine ZH ?_ ?_
    all_goals first | exact YH _ | rfl | simp [go_sem]
  | some f =>
   rw [hen] at hent hA
   simp only at hent hA
   have hg := rget_ok d.u hdi (by omega) (by omega) f 0
   have hgi := getU_inv hdi f 0
   have hgf := @getU_fid B (T + 42) d.u hdi f 0
   unfold uH gotA at hg
   generalize getU d.u f 0 = g at hg hgi hA hgf
   refine wC Tryz.func63 (hf := (hent)) (hk := ?_)
   refine wG tK ?_
   refine Vf rfl ?_
   refine wG tK ?_
   refine wP [900] Tryz.func104 (hf := (hg)) (hk := ?_)
   refine wGq tK ?_ ?_ (by simp only [go_sem,ZN]; try exact rfl)
   ·simp [ZN]
   by_cases hge : g.e = 0
   ·have hgf := hgf hge
    rw [hA] at hS
    refine wDF (hb := by simp [hge]) (hk := ?_)
    refine wG tK ?_
    refine Yl (Zn 15) ?_
    simp only [go_sem]
    skip
    have hd2 := rdirU_ok g.u hgi (by omega) (by omega) to hto
    have hd2i := dirU_inv hgi to
    have hd2n := dirU_name g.u to
    rw [hA] at hM1 hM2
    simp only at hM1 hM2
    have hM1 := hM1 hge
    have hM2 := hM2 hge
    unfold uH at hd2
    generalize Yd g.u to = q at *
    refine Vt rfl ?_
    refine wG tK ?_
    refine wP [900] Tryz.func82 (hf := (hd2)) (hk := ?_)
    refine wGq tK ?_ ?_ (by simp only [go_sem,ZN]; try exact rfl)
    ·simp [ZN]
    by_cases hqe : q.e = 0
    ·have hW := hM2 hqe
     simp only [renameA,hgf] at hW
     have hact := ract_ok q.u hd2i (by omega) (by omega) (renameA f d.n.fid d.name q.n.fid q.name) ⟨hnm,hd2n,by simp [renameA]⟩ (seenN g.n)
     have hse := rseen_ok g.n
     unfold uH at hact
     simp only [ZA,renameA,List.map_nil] at hact
     unfold ZN at hse
     rw [hW]
     generalize actU q.u ⟨5,f,d.n.fid,d.name,q.n.fid,q.name,[]⟩ (seenN g.n) = x at *
     refine wDF (hb := by simp [hqe]) (hk := ?_)
     refine wG tK ?_
     refine ZW ZM ?_
     refine ZS rfl ?_
     refine sN tK 4 ?_
     refine sT tK ?_
     refine sN tK 1 ?_
     refine sT tK ?_
     refine sN tK 1 ?_
     refine sT tK ?_
     refine sE ?_
     refine wKd ?_
     try simp only [go_sem,gA,gB,gC]
     refine wG tK ?_
     refine ZW ZM ?_
     refine ZS rfl ?_
     refine sN tK 3 ?_
     refine sC Tryz.func105 (hf := (hse)) (hk := ?_)
     refine seg_callP rfl rfl (by simp only [go_sem]; try exact rfl) (by simp [go_sem]) ⟨_,Tryz.func83,by kernel_rfl,rfl⟩ [900] (by simp only [go_sem,Bool.false_or,Bool.or_true,Bool.true_or,Bool.or_false,↓reduceIte]; try exact rfl) (by simp [go_sem]) (by simp) (by simp [go_sem]) (by simp [go_sem]) (by simp [go_sem]) (hact) (by simp only [go_sem]; exact rfl) (by simp only [go_sem,Bool.false_or,Bool.or_true,Bool.true_or,Bool.or_false,↓reduceIte]; exact rfl) ?_
     refine sG tK ?_
     refine sE ?_
     refine wKd ?_
     try simp only [go_sem,gA,gB,gC]
     refine wG tK ?_
     refine wU ?_ ?_
     ·rfl
     ·skip
      simp only [Yx,gH,gI,gJ,gK]
      repeat' refine ZH ?_ ?_
      all_goals first | exact YH _ | rfl | simp [go_sem]
    ·have hW := hM1 hqe
     refine wDT (hb := by simp [hqe]) (hk := ?_)
     refine wG tK ?_
     refine wU ?_ ?_
     ·rw [hW]
     ·rw [hW]
      simp only [Yx,gH,gI,gJ,gK]
      repeat' refine ZH ?_ ?_
      all_goals first | exact YH _ | rfl | simp [go_sem]
   ·have hW := hE (by rw [hA]; exact hge)
    rw [hA] at hW
    refine wDT (hb := by simp [hge]) (hk := ?_)
    refine wG tK ?_
    refine wU ?_ ?_
    ·rw [hW]
    ·rw [hW]
     simp only [Yx,gH,gI,gJ,gK]
     repeat' refine ZH ?_ ?_
     all_goals first | exact YH _ | rfl | simp [go_sem]
 ·rw [if_pos (by simp [hde])] at hA
  have hW := hE (by rw [hA]; exact hde)
  rw [hA] at hW
  refine wDT (hb := by simp [hde]) (hk := ?_)
  refine wG tK ?_
  refine wU ?_ ?_
  ·rw [hW]
  ·rw [hW]
   simp only [Yx,gH,gI,gJ,gK]
   repeat' refine ZH ?_ ?_
   all_goals first | exact YH _ | rfl | simp [go_sem]
end La
namespace Go.Eng
section
variable {P : Program} {T : Tab} {C : Ctx} {σ σ' : St} {a : Act} {w : World} {Ret : St → Prop} {k : List It}
def leRowsP : List (List AV) → List (List AV) → Prop
 | [],[] => True
 | r :: l,s :: m => leWk r s ∧ leRowsP l m
 | _,_ => False
theorem leRowsP_get : ∀ {l m : List (List AV)},leRowsP l m → l.length = m.length ∧ ∀ (t : Nat) y,m[t]? = some y → ∃ x,l[t]? = some x ∧ leWk x y
 | [],[],_ => ⟨rfl,fun t y h => by simp at h⟩
 | x :: l,y :: m,h => by
  obtain ⟨h1,h2⟩ := leRowsP_get h.2
  refine ⟨by simp [h1],fun t z hz => ?_⟩
  cases t with
  | zero =>
   simp only [List.getElem?_cons_zero,Option.some.injEq] at hz
   subst hz
   exact ⟨x,rfl,h.1⟩
  | succ t => simpa using h2 t z (by simpa using hz)
 | [],_ :: _,h => h.elim
 | _ :: _,[],h => h.elim
theorem le_rows (id : Nat) (rows' : List (List AV)) {e s : Nat} {rows : List (List AV)} (hb : Yk σ.hp id = some (.cells e s rows)) (hr : leRowsP rows rows') : Le C σ ⟨σ.tm,Zh σ.hp id (.cells e s rows')⟩ := by
 obtain ⟨hl,hg⟩ := leRowsP_get hr
 rintro a w ⟨μ,S,hi⟩
 refine ⟨μ,S,hi.size,hi.defers,hi.tm,fun i b hb' => ?_,fun i q hq => ?_,hi.inj,hi.frm,hi.sb⟩
 ·simp only [Yi] at hb'
  split at hb'
  ·rename_i h1
   injection hb' with hb'
   subst h1 hb'
   rcases hi.hp id _ hb with ⟨rfl,k2⟩ | ⟨g,c,k1,k2,k3,k4,k5⟩
   ·exact .inl ⟨List.length_eq_zero_iff.1 hl.symm,k2⟩
   ·refine .inr ⟨g,c,k1,k2,by rw [← hl]; exact k3,fun row hrow => ?_,fun i row hi' q x hx => ?_⟩
    ·obtain ⟨i,hi'⟩ := List.getElem?_of_mem hrow
     obtain ⟨r0,h0,h1⟩ := hg i row hi'
     rw [← (leWk_get h1).1]
     exact k4 r0 (List.mem_of_getElem? h0)
    ·obtain ⟨r0,h0,h1⟩ := hg i row hi'
     obtain ⟨y,hy,hw⟩ := (leWk_get h1).2 q x hx
     exact (k5 i r0 h0 q y hy).wk hw
  ·exact hi.hp i b hb'
 ·obtain ⟨⟨b,h1⟩,h2⟩ := hi.dom i q hq
  refine ⟨?_,h2⟩
  simp only [Yi]
  split
  ·exact ⟨_,rfl⟩
  ·exact ⟨b,h1⟩
theorem le_mvB (p q c : Nat) {e s e2 s2 : Nat} {rows rows2 rows3 : List (List AV)} {H1 H2 : List (Nat × Blk)} {l' : List AV} (hb : Yk σ.hp p = some (.cells e s rows)) (hq : Yk σ.hp q = none) (hr : refsB (.cells e s rows) = [])
  (hcb : Yk σ.hp c = some (.cells e2 s2 rows2)) (hH1 : hdel σ.hp p = H1) (hH : hdel H1 c = H2) (hcp : (c == p) = false) (hf : (H2.all fun x => !(refsB x.2).contains p) = true) (hr3 : rows2.map (fun row => row.map (mv1 p q)) = rows3) (ht : σ.tm.map (mv1 p q) = l') :
  Le C σ ⟨l',(q,.cells e s rows) :: (c,.cells e2 s2 rows3) :: H2⟩ := by
 subst hH hH1 ht hr3
 intro a w ⟨μ,S,hi⟩
 have hcp : c ≠ p := by simpa using hcp
 have hne : p ≠ q := fun h => by subst h; rw [hb] at hq; cases hq
 have hcq : c ≠ q := fun h => by subst h; rw [hcb] at hq; cases hq
 have hmq : μ q = none := by
  cases h : μ q with
  | none => rfl
  | some g => obtain ⟨⟨b,h1⟩,_⟩ := hi.dom q g h; rw [hq] at h1; cases h1
 let ν : Nat → Option Nat := fun i => if i = q then μ p else if i = p then none else μ i
 have hνq : ν q = μ p := by simp [ν]
 have hν : ∀ i,i ≠ p → i ≠ q → ν i = μ i := fun i h1 h2 => by simp [ν,h1,h2]
 have hm : ∀ i,i ≠ p → ∀ g,μ i = some g → ν i = some g := fun i h g hg => by
  rw [hν i h (fun e => by subst e; rw [hmq] at hg; cases hg)]; exact hg
 have hv : ∀ i g,ν i = some g → (i = q ∧ μ p = some g) ∨ (i ≠ p ∧ i ≠ q ∧ μ i = some g) := fun i g h => by
  simp only [ν] at h
  split at h
  ·exact .inl ⟨by assumption,h⟩
  ·split at h
   ·cases h
   ·exact .inr ⟨by assumption,by assumption,h⟩
 have hkill : ∀ {v : Value} {y : AV},Rd μ S w v y → Rd ν S w v (kill p y) := fun {v y} h => by
  unfold kill
  split
  ·exact .any v
  ·rename_i hc
   exact h.less fun id hid g hg => hm id (fun e => by subst e; exact hc (by simpa using hid)) g hg
 have hmv : ∀ {v : Value} {y : AV},Rd μ S w v y → Rd ν S w v (mv1 p q y) := fun {v y} h => by
  cases y with
  | osl id s' o n =>
   simp only [mv1]
   split
   ·rename_i e
    subst e
    obtain ⟨A,cap,e1,hc,hor⟩ := h.inv_osl
    rw [e1]
    refine .osl q s' o n cap A hc ?_
    rcases hor with h | ⟨g,e2,m,k1,k2,k3,k4⟩
    ·exact .inl h
    ·exact .inr ⟨g,e2,m,hνq.trans k1,k2,k3,k4⟩
   ·rename_i e
    exact h.less fun i hid g hg => hm i (fun e' => by simp only [refs,List.mem_singleton] at hid; exact e (hid.symm.trans e')) g hg
  | ptr id s' r o =>
   simp only [mv1]
   split
   ·rename_i e
    subst e
    obtain ⟨g,k1,e1⟩ := h.inv_ptr
    rw [e1]
    exact .ptr q s' r o g (hνq.trans k1)
   ·rename_i e
    exact h.less fun i hid g hg => hm i (fun e' => by simp only [refs,List.mem_singleton] at hid; exact e (hid.symm.trans e')) g hg
  | _ => exact hkill h
 refine ⟨ν,S,by simpa using hi.size,hi.defers,fun t x hx => ?_,fun id b hb' => ?_,fun id g hg => ?_,fun i j g h1 h2 => ?_,hi.frm,hi.sb⟩
 ·simp only [List.getElem?_map] at hx
  obtain ⟨y,hy,rfl⟩ := Option.map_eq_some_iff.1 hx
  exact hmv (hi.tm t y hy)
 ·simp only [Yk] at hb'
  split at hb'
  ·rename_i e'
   injection hb' with hb'
   subst e' hb'
   have hk := hi.hp p _ hb
   rcases hk with ⟨k1,k2⟩ | ⟨g,c,k1,k2,k3,k4,k5⟩
   ·exact .inl ⟨k1,hνq.trans k2⟩
   ·refine .inr ⟨g,c,hνq.trans k1,k2,k3,k4,fun i row hi' j x hx => (k5 i row hi' j x hx).less fun id hid g' hg' => ?_⟩
    have : id ∈ refsB (.cells e s rows) := List.mem_flatMap.2 ⟨row,List.mem_of_getElem? hi',Zr hx hid⟩
    rw [hr] at this
    cases this
  ·rename_i hq'
   split at hb'
   ·rename_i e'
    injection hb' with hb'
    subst e' hb'
    rcases hi.hp c _ hcb with ⟨k1,k2⟩ | ⟨g,cp,k1,k2,k3,k4,k5⟩
    ·exact .inl ⟨by rw [k1]; rfl,(hν c hcp hcq).trans k2⟩
    ·refine .inr ⟨g,cp,(hν c hcp hcq).trans k1,k2,by rw [List.length_map]; exact k3,fun row hrow => ?_,fun i row hi' j x hx => ?_⟩
     ·obtain ⟨r0,h0,rfl⟩ := List.mem_map.1 hrow
      rw [List.length_map]; exact k4 r0 h0
     ·rw [List.getElem?_map] at hi'
      obtain ⟨r0,h0,rfl⟩ := Option.map_eq_some_iff.1 hi'
      rw [List.getElem?_map] at hx
      obtain ⟨y,hy,rfl⟩ := Option.map_eq_some_iff.1 hx
      exact hmv (k5 i r0 h0 j y hy)
   ·rename_i hc'
    have hb2 := hb'
    rw [hget_hdel,hget_hdel] at hb'
    split at hb'
    ·cases hb'
    ·split at hb'
     ·cases hb'
     ·rename_i hp'
      refine (hi.hp id b hb').less (hν id (fun e => hp' e.symm) (fun e => hq' e.symm)) fun i hid g hg => hm i (fun e => ?_) g hg
      subst e
      have := List.all_eq_true.1 hf _ (hget_mem hb2)
      simp at this
      exact this hid
 ·rcases hv id g hg with ⟨rfl,h⟩ | ⟨h1,h2,h⟩
  ·exact ⟨⟨_,by simp only [Yk,if_true]; rfl⟩,(hi.dom p g h).2⟩
  ·obtain ⟨⟨b,hb1⟩,h3⟩ := hi.dom id g h
   refine ⟨?_,h3⟩
   simp only [Yk,if_neg (fun e : q = id => h2 e.symm),hget_hdel]
   split
   ·exact ⟨_,rfl⟩
   ·rw [if_neg (fun e : p = id => h1 e.symm)]
    exact ⟨b,hb1⟩
 ·rcases hv i g h1 with ⟨rfl,k⟩ | ⟨k1,k2,k⟩ <;> rcases hv j g h2 with ⟨rfl,m⟩ | ⟨m1,m2,m⟩
  ·rfl
  ·exact absurd (hi.inj p j g k m) (fun e => m1 e.symm)
  ·exact absurd (hi.inj i p g k m) k1
  ·exact hi.inj i j g k m
end
end Go.Eng
namespace Go.Eng
section
variable {P : Program} {T : Tab} {C : Ctx} {μ : Nat → Option Nat} {S : Nat → Prop} {σ σ' : St} {a : Act} {w : World} {Ret : St → Prop} {k : List It}
theorem Inv.newR (hi : Inv C μ S σ a w) (o : Obj) : Inv C μ (fun b => S b ∨ b = w.heap.size) σ a (w.alloc o) := by
 have hw : SameOn S w (w.alloc o) := fun b hb => alloc_get w o b (hi.sb b hb).1
 have hz : ∀ i g,μ i = some g → Yr (w.alloc o) g = Yr w g := fun i g h => rowSize_same (alloc_get w o g (hi.dom i g h).2.2.2)
 refine ⟨hi.size,hi.defers,fun t x hx => (hi.tm t x hx).mono hw (fun _ h => .inl h) (fun _ _ h => h) hz,fun i c hc => (hi.hp i c hc).mono hw (fun _ h => .inl h) (fun _ _ h => h) hz (fun h => h) (fun g h => alloc_get w o g (hi.dom i g h).2.2.2),fun i g hg => ?_,hi.inj,?_,fun b hb => ?_⟩
 ·obtain ⟨h1,h2,h3,h4⟩ := hi.dom i g hg
  exact ⟨h1,h2,fun h => h.elim h3 (fun e => by omega),by simp; omega⟩
 ·exact ⟨hi.frm.os,hi.frm.tape,hi.frm.output,by simp; have := hi.frm.size; omega,fun b hb hA => by
   rw [alloc_get w o b (Nat.lt_of_lt_of_le hb hi.frm.size)]; exact hi.frm.block b hb hA⟩
 ·rcases hb with hb | rfl
  ·exact ⟨by simp; have := (hi.sb b hb).1; omega,(hi.sb b hb).2⟩
  ·exact ⟨by simp,.inr (.inr hi.frm.size)⟩
theorem trip_strbytes (hT : TabOK P T) {o : Oper} {s t e : TypeId} {x : Operand} (ho : o.op = .convert s t x) (hs : T.und s = .str) (ht : T.und t = .sl e) (he : T.und e = .int .u8) {l : List UInt8} (hx : evS σ x = (True,.str l)) :
  Trip P C o σ (σ.put o.dst (.sl (l.map fun b => [AV.int .u8 (b.toNat : Int)]))) := by
 intro a w K Q ⟨μ,S,hi⟩ hK
 have hv := hi.evS x (by rw [hx]; trivial)
 rw [hx] at hv
 obtain ⟨b,e1,hb⟩ : ∃ b : ByteArray,a.eval x = .string b ∧ b.data.toList = l := by
  generalize a.eval x = v at hv
  cases hv with
  | pure h => cases h with
   | str s l h => exact ⟨s,rfl,h⟩
 have hts : P.underlying s = some .string := by have := hT.und s; rw [hs] at this; exact this
 have hty : P.underlying t = some (.slice e) := by have := hT.und t; rw [ht] at this; exact this
 have hte : P.underlying e = some (.int .u8) := by have := hT.und e; rw [he] at this; exact this
 have hrun := run_bytes_of_string (P := P) w s t e b hts hty hte
 have hex : (execOp a.eval o).run P w = .ok (.value (.slice (some ⟨w.heap.size,0,none⟩) b.size (grownCap w b.size 0 e)))
   (w.drew.alloc (.cells (bytesRow b (grownCap w b.size 0 e)) e ((bytesRow b (grownCap w b.size 0 e)).size,(bytesRow b (grownCap w b.size 0 e)).size + 1))) := by
  simp only [execOp,ho,e1,Sem.run_bind,hrun]
  rfl
 have hsz : b.size = l.length := by rw [← hb]; rfl
 have hin := hi.drew.newR (.cells (bytesRow b (grownCap w b.size 0 e)) e ((bytesRow b (grownCap w b.size 0 e)).size,(bytesRow b (grownCap w b.size 0 e)).size + 1))
 unfold Oper.wp
 rw [hex]
 refine hK _ _ ⟨_,_,hin.put o.dst (.pure ?_)⟩
 refine .sl _ _ _ _ 1 w.heap.size 0 (fun i j => .int .u8 ((l.getD i 0).toNat : Int)) (by rw [List.length_map,hsz]) ?_ (fun row hr => ?_) (fun _ => ⟨rfl,.inr rfl⟩) (fun i j hi' hj => ?_) (fun i row hi' j y hy => ?_)
 ·exact grownCap_ge w b.size 0 e
 ·obtain ⟨c,_,rfl⟩ := List.mem_map.1 hr
  rfl
 ·have hj0 : j = 0 := by omega
  subst hj0
  have hil : i < b.data.size := by have : b.size = b.data.size := rfl; omega
  rw [cell_of (alloc_drew_new w _)]
  have h1 : (0 + (i * 1 + 0)) = i := by omega
  rw [h1]
  unfold bytesRow
  rw [Array.getElem?_append_left (by rw [Array.size_map]; exact hil),Array.getElem?_map,Array.getElem?_eq_getElem hil]
  simp only [Option.map_some]
  rw [← hb,List.getD_eq_getElem?_getD]
  simp [Array.getElem?_eq_getElem hil]
 ·rw [List.getElem?_map] at hi'
  cases e3 : l[i]? with
  | none => rw [e3] at hi'; cases hi'
  | some c =>
   rw [e3] at hi'
   simp only [Option.map_some,Option.some.injEq] at hi'
   subst hi'
   cases j with
   | zero =>
    simp only [List.getElem?_cons_zero,Option.some.injEq] at hy
    subst hy
    rw [List.getD_eq_getElem?_getD,e3]
    exact .int _ _
   | succ j => simp at hy
theorem le_any1 (t : Nat) : Le C σ ⟨σ.tm.set t .any,σ.hp⟩ := by
 rintro a w ⟨μ,S,hi⟩
 refine ⟨μ,S,by rw [List.length_set]; exact hi.size,hi.defers,fun j z hz => ?_,hi.hp,hi.dom,hi.inj,hi.frm,hi.sb⟩
 rw [List.getElem?_set] at hz
 split at hz
 ·split at hz
  ·injection hz with hz
   subst hz
   exact .any _
  ·cases hz
 ·exact hi.tm j z hz
theorem le_forget : ∀ (f : List Nat) {σ : St},Le C σ ⟨setAll σ.tm (f.map fun t => (t,.any)),σ.hp⟩
 | [],_ => fun _ _ h => h
 | t :: r,σ => fun a w h => le_forget r (σ := ⟨σ.tm.set t .any,σ.hp⟩) a w (le_any1 t a w h)
theorem share3 {M : Int → Int → Int → Prop} {G : Prop} (use : (∀ F D T,M F D T) → G) (key : ∀ F D T,M F D T) : G := use key
theorem shareB {M : Bool → Prop} {G : Prop} (use : (∀ F,M F) → G) (key : ∀ F,M F) : G := use key
end
end Go.Eng
