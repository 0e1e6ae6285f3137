/- Texts of this claim, part 17: RAct. No condition. -/
import Derived.Test.YtfiiingppbkpkaaGreatXR15
import Derived.Test.YtfiiingppbkpkaaGreatXR16
import Derived.Test.YtfiiingppbkpkaaGreatXR7
set_option maxRecDepth 10000
set_option maxHeartbeats 4000000
set_option linter.unusedSimpArgs false
set_option linter.unusedVariables false
namespace La
open Go Go.Eng Go.Proofs
theorem rseen_ok (n : Node) : FnOK Tryz.prog 105 [.agg (ZN n)] [] (fun r _ => r = .int .i64 (seenN n)) := by
 unfold ZN
 refine ZF tK (Tryz.func105) rfl (fun C => ?_)
 simp only [Tryz.ntmps105,Tryz.results105,go_sem]
 refine wG tK ?_
 refine wD (fun h => ?_) (fun h => ?_)
 ·refine wG tK ?_
  refine wT ?_
  simp at h
  simp [seenN,h]
 ·refine wG tK ?_
  refine wT ?_
  simp at h
  unfold seenN
  rw [if_neg (by omega)]
theorem ract_here {B T : Nat} (u : U) (h : UInv B T u) (hB : B ≤ 40000000) (haw : u.c.away = false) (a : Act) (ha : ActS a) (seen : Int) (G Y N : Nat → Nat) : FnOK Tryz.prog 83 [.ptr 900 13 0 0,.agg (ZA a),.int .i64 seen] (uH u G Y N)
  (fun r H => r = .int .i64 (hereU u a).e ∧ Holds (uH (hereU u a).u G Y N) H) := by
 have hdo := rdo_ok u.s h.srv (by omega) u.c.number a ha.fit
 have hW0 : hereU u a = if doE u.s a = 0 then ⟨0,⟨freshC u.c (doS u.s u.c.number a).tree,doS u.s u.c.number a⟩⟩ else ⟨doE u.s a,u⟩ := rfl
 have hst := fun he => h.srv.step u.c.number ha.fit (a := a) he
 have hcl : u.c.cache.length ≤ 24 := by have := h.cli.len; have := h.cli.room; omega
 unfold rdoR at hdo
 generalize hereU u a = wF at *
 generalize doS u.s u.c.number a = s2 at *
 unfold ZA at hdo
 unfold ZQ at hdo
 unfold uH uRow ZA
 refine ZF tK (Tryz.func83) rfl (fun C => ?_)
 simp only [Tryz.ntmps83,Tryz.results83,go_sem]
 refine wG tK ?_
 refine wDT (hb := by simp [haw]) (hk := ?_)
 refine wG tK ?_
 by_cases he : doE u.s a = 0
 ·rw [if_pos he] at hdo hW0
  have hs2 := hst he
  have hof := of_rm s2.tree (by have := hs2.hist.good.len; omega)
  have hfr := rfreshK_ok u.c.cache s2.tree (by omega) hs2.hist.good.up
  refine ZW ZM ?_
  refine ZS rfl ?_
  refine sN tK 10 ?_
  refine sC Tryz.func12 (hf := (hdo)) (hk := ?_)
  refine sN tK 3 ?_
  refine sW tK ?_
  refine sT tK ?_
  refine sG tK ?_
  refine sE ?_
  refine wKd ?_
  try simp only [go_sem,gA,gB,gC]
  refine wG tK ?_
  refine Vt rfl ?_
  refine wG tK ?_
  refine ZW ZM ?_
  refine ZS rfl ?_
  refine sN tK 8 ?_
  refine sC Tryz.func20 (hf := (hof)) (hk := ?_)
  refine sC Tryz.func52 (hf := (hfr)) (hk := ?_)
  refine sG tK ?_
  refine sE ?_
  refine dS tK ?_
  refine wKd ?_
  try simp only [go_sem,gA,gB,gC]
  refine wG tK ?_
  refine wU ?_ ?_
  ·rw [hW0]
  ·rw [hW0]
   simp only [Yx,gH,gI,gJ,gK]
   repeat' refine ZH ?_ ?_
   all_goals first | exact YH _ | rfl | simp [go_sem]
 ·rw [if_neg he] at hdo hW0
  refine ZW ZM ?_
  refine ZS rfl ?_
  refine sN tK 10 ?_
  refine sC Tryz.func12 (hf := (hdo)) (hk := ?_)
  refine sN tK 3 ?_
  refine sW tK ?_
  refine sT tK ?_
  refine sG tK ?_
  refine sE ?_
  refine wKd ?_
  try simp only [go_sem,gA,gB,gC]
  refine wG tK ?_
  refine wDF (hb := by simp [he]) (hk := ?_)
  refine wG tK ?_
  refine wU ?_ ?_
  ·rw [hW0]
  ·rw [hW0]
   simp only [Yx,gH,gI,gJ,gK]
   repeat' refine ZH ?_ ?_
   all_goals first | exact YH _ | rfl | simp [go_sem]
theorem mapD_sort {l : List Node} (hd : (l.map (·.fid)).Nodup) : mapD (sortN l) = mapD l := by
 rw [mapD_eq (sortN_rise l)]
 unfold sortN
 rw [List.map_map]
 refine (List.map_congr_left fun p hp => ?_).trans (List.map_id _)
 obtain ⟨k,n⟩ := p
 have := mapDU_key l _ (k,n) hp
 simp only [Function.comp,id_eq]
 rw [this]
theorem keepK_len {l L : List Kept} {room : Int} {k : Kept} (h : keepK l room k = some L) : L.length ≤ l.length + 1 := by
 unfold keepK at h
 cases e : kplace l k.node.fid with
 | some i => rw [e] at h; injection h with h; subst h; rw [List.length_set]; omega
 | none =>
  rw [e] at h
  obtain ⟨L0,h0,rfl⟩ := Option.map_eq_some_iff.1 h
  have := (shrinkK_subl _ _ _ h0).length_le
  rw [List.length_append,List.length_cons,List.length_nil]; omega
theorem ract_own {B T : Nat} (u : U) (h : UInv B T u) (hB : B ≤ 40000000) (haw : u.c.away = true) (a : Act) (ha : ActS a) (seen : Int) (G Y N : Nat → Nat) : FnOK Tryz.prog 83 [.ptr 900 13 0 0,.agg (ZA a),.int .i64 seen] (uH u G Y N)
  (fun r H => r = .int .i64 (ownU u a seen).e ∧ Holds (uH (ownU u a seen).u G Y N) H) := by
 have hci := h.cli
 have hmd := hci.made
 have hlg := hci.logged
 have hcl : u.c.cache.length ≤ 24 := by have := hci.len; have := hci.room; omega
 have hgood := hci.good
 have hkt := kept_rm u.c.cache (by omega)
 rw [show mapD (nodesK u.c.cache) = mapD (treeC u.c) from (mapD_sort (by rw [nodesK_fids]; exact hci.nod)).symm] at hkt
 have hbs := ownA_S (c := u.c) ha
 have hap := rapply_good hgood hci.ri hbs.fit 0
 have hW0 : ownU u a seen = if Yb (treeC u.c) (ownA u.c a) ≠ 0 then ⟨Yb (treeC u.c) (ownA u.c a),u⟩ else match addLog u.c.log ⟨ownA u.c a,ownV a seen,u.c.logged + 1⟩ with
  | none => ⟨5,u⟩
  | some log => match keepAll u.c.room u.c.clock (treeC u.c) (ownA u.c a) (Yj (treeC u.c) (ownA u.c a) 0) u.c.cache with
   | none => ⟨5,u⟩
   | some l => ⟨0,⟨{ u.c with cache := l.filter (fun k => isAt (Yj (treeC u.c) (ownA u.c a) 0) k.node.fid),log := log,logged := u.c.logged + 1,made := if Zm a = true then u.c.made + 1 else u.c.made },u.s⟩⟩ := rfl
 have hwm : IntKind.i64.wrap (-1 - u.c.made) = -1 - u.c.made := Eng.wrap_small (by omega) (by omega)
 have hwm1 : IntKind.i64.wrap (u.c.made + 1) = u.c.made + 1 := Eng.wrap_small (by omega) (by omega)
 have hwl1 : IntKind.i64.wrap (u.c.logged + 1) = u.c.logged + 1 := Eng.wrap_small (by omega) (by omega)
 generalize ownU u a seen = wF at *
 generalize hWd : treeC u.c = W at *
 unfold uH uRow ZA
 refine ZF tK (Tryz.func83) rfl (fun C => ?_)
 simp only [Tryz.ntmps83,Tryz.results83,go_sem]
 refine wG tK ?_
 refine wDF (hb := by simp [haw]) (hk := ?_)
 refine wG tK ?_
 refine wD (fun h => ?_) (fun h => ?_)
 ·have hmk := h
  have hm : Zm a = true := by unfold Zm; revert h; cases (a.kind == 1) <;> simp
  have hbE : ownA u.c a = ⟨a.kind,-1 - u.c.made,a.dir,a.name,a.to,a.toName,a.data⟩ := by unfold ownA; rw [if_pos hm]
  have hvE : ownV a seen = -1 := by unfold ownV; rw [if_pos hm]
  rw [hvE] at hW0
  simp only [hm,if_true] at hW0
  rw [hbE] at hap hW0 hbs
  refine wG tK ?_ (by simp only [go_sem,hwm]; try exact rfl) (by simp [go_sem,hwm])
  generalize -1 - u.c.made = F at *
  obtain ⟨V,hV⟩ : ∃ V : Int,V = -1 := ⟨_,rfl⟩
  rw [← hV] at hW0
  rw [← hV]
  obtain ⟨b,hbD⟩ : ∃ b : Act,b = ⟨a.kind,F,a.dir,a.name,a.to,a.toName,a.data⟩ := ⟨_,rfl⟩
  rw [← hbD] at hap hW0 hbs
  have hrow : ZA b = [.int .i64 a.kind,.int .i64 F,.int .i64 a.dir,.str a.name,.int .i64 a.to,.str a.toName,.sl (a.data.map ZY)] := by rw [hbD]; rfl
  have hrec : ∀ v i,ZR ⟨b,v,i⟩ = [.int .i64 a.kind,.int .i64 F,.int .i64 a.dir,.str a.name,.int .i64 a.to,.str a.toName,.sl (a.data.map ZY),.int .i64 v,.int .i64 i] := by intro v i; rw [hbD]; rfl
  have hbk : b.kind = a.kind := by rw [hbD]
  have hbf : b.fid = F := by rw [hbD]
  clear hbD
  have hgl := fun he => good_apply hgood b 0 he
  rw [hrow] at hap
  have hgW : ∀ k,Zg (mN (mapD W)) k = (Yf W k).map fun n => AV.agg (ZN n) := fun k => by rw [mN_get,mapD_get hgood.up]
  generalize Yb W b = e0 at *
  generalize Yj W b 0 = L at *
  refine wC Tryz.func106 (hf := (hkt)) (hk := ?_)
  refine wG tK ?_
  by_cases hE : e0 = 0
  ·rw [if_pos hE] at hap
   rw [if_neg (by simp [hE])] at hW0
   have hgL := hgl hE
   have hLl := hgL.len
   have hls := list_ok L hgL.up (by omega)
   have hadd := refAdd_ok u.c.log ⟨b,V,u.c.logged + 1⟩ ⟨by have := hci.log; omega,fun r hr => by have := (hci.logS r hr).data; show r.act.data.length ≤ _; omega⟩ (by have := hbs.data; show b.data.length ≤ _; omega)
   rw [hrec] at hadd
   refine wC Tryz.func36 (hf := (hap)) (hk := ?_)
   refine wG tK ?_
   refine Vf rfl ?_
   refine wG tK ?_
   refine ZW ZM ?_
   refine ZS rfl ?_
   refine sN tK 13 ?_ (h := by simp only [go_sem,hwl1]; try exact rfl) (hp := by simp [go_sem,hwl1])
   refine sB tK ?_
   cases hlog : addLog u.c.log ⟨b,V,u.c.logged + 1⟩ with
   | none =>
    rw [hlog] at hadd hW0
    simp only [addRes] at hadd hW0
    have hW := hW0
    refine sC Tryz.func107 (hf := (hadd)) (hk := ?_)
    refine sG tK ?_
    refine sE ?_
    refine wKd ?_
    try simp only [go_sem,gA,gB,gC]
    refine wG tK ?_
    refine Vt rfl ?_
    refine wG tK ?_
    refine wU ?_ ?_
    ·rw [hW]
    ·rw [hW]
     simp only [Yx,gH,gI,gJ,gK]
     repeat' refine ZH ?_ ?_
     all_goals first | exact YH _ | rfl | simp [go_sem]
   | some log =>
    rw [hlog] at hadd hW0
    simp only [addRes] at hadd hW0
    generalize hKA : keepAll u.c.room u.c.clock W b L u.c.cache = KA at hW0
    refine sC Tryz.func107 (hf := (hadd)) (hk := ?_)
    refine sG tK ?_
    refine sE ?_
    refine wKd ?_
    try simp only [go_sem,gA,gB,gC]
    refine wG tK ?_
    refine Vf rfl ?_
    refine wG tK ?_
    refine wC Tryz.func37 (hf := (hls)) (hk := ?_)
    refine wG tK ?_
    refine ZL (fun q : Nat × List Kept => q.1 ≤ L.length ∧ keepAll u.c.room u.c.clock W b (L.drop q.1) q.2 = KA ∧ q.2.length ≤ 24 + q.1) (fun q => L.length - q.1) (fun q => [(12,.any),(14,.sl (q.2.map ZK)),(16,.any),(17,.any),(18,.any),(124,.int .i64 q.1),(125,.any),(126,.any),(127,.any),(128,.any),(129,.any),(130,.any),(131,.any),(132,.any),(133,.any),(134,.any),(135,.any),(136,.any),(137,.any),(138,.any),(139,.any),(140,.any),(141,.any),(142,.any),(143,.any),(144,.any),(145,.any),(146,.any),(147,.any),(148,.any),(149,.any),(150,.any),(151,.any),(152,.any),(153,.any),(154,.any),(155,.any),(156,.any),(157,.any),(158,.any),(159,.any),(160,.any),(161,.any),(162,.any),(163,.any),(164,.any),(165,.any),(166,.any),(167,.any),(168,.any),(169,.any),(170,.any),(171,.any),(172,.any),(173,.any),(174,.any),(175,.any),(176,.any)]) (fun _ => []) (0,u.c.cache) ⟨Nat.zero_le _,by rw [List.drop_zero]; exact hKA,by simp only; omega⟩ ?_ fun q hq => ?_
    ·simp only [go_sem]
     exact ZU (by simp [go_sem]) (by simp [go_sem]) (by simp [go_sem])
    obtain ⟨i,l⟩ := q
    obtain ⟨hi,hka,hll⟩ := hq
    simp only at hi hka hll
    clear hKA
    simp only [go_sem]
    refine wG tK ?_
    refine wD (fun h => ?_) (fun h => ?_)
    ·have hlt : i < L.length := by simp at h; omega
     have hg : (L.map ZN).getD i [] = ZN (L.getD i default) := Fam.getD hlt
     have hw1 := wi1 (i := i) (by omega)
     have hnm := YG hlt
     rw [drop_getD hlt,keepAll] at hka
     generalize L.getD i default = n at *
     have hns := hgL.small.each n hnm
     have hg1 := hgW n.fid
     cases hff : Yf W n.fid with
     | some o =>
      rw [hff] at hg1
      simp only [Option.map_some] at hg1
      have hos := hgood.small.each o ((ZO hgood.up).1 hff).1
      have hsm := sameNode_ok o n false hos hns
      have hcb : changedB W b n = !(sameN false o n && (a.kind != 3 || n.fid != F)) := by unfold changedB; rw [hff,hbk,hbf]
      have hdk : dirtyK W u.c.clock n = ⟨{ n with version := o.version },true,0,u.c.clock⟩ := by unfold dirtyK; rw [hff]; rfl
      unfold ZN at hsm
      generalize sameN false o n = sm at *
      refine wR ?_
      refine wNq tK 4 ?_ ?_ (h := by simp only [go_sem,hg,ZN]; try exact rfl)
      ·simp [hg,ZN,hlt]
      refine wR ?_
      refine wN tK 10 ?_ (h := by simp only [go_sem,hg1,ZN]; try exact rfl) (hp := by simp [go_sem,hg1,ZN])
      refine wG tK ?_
      refine wCC Tryz.func41 (hf := fun hb => (hsm)) (hk := ?_)
      refine wNq tK 13 ?_ ?_
      ·simp [go_sem]
       intro e
       exact ⟨e,fun e2 => ⟨e,e2⟩⟩
      refine Yn 152 (by simp only [go_sem]; exact rfl) (fun c152 h152 => ?_)
      simp only [go_sem]
      have hc : c152 = (sm && (a.kind != 3 || n.fid != F)) := by
       rw [← h152]
       cases sm <;> cases (a.kind != 3) <;> simp
      clear h152
      rw [← hc] at hcb
      refine wG tK ?_
      cases c152 with
      | true =>
       have hch : changedB W b n = false := by rw [hcb]; rfl
       rw [hch,if_neg Bool.false_ne_true] at hka
       refine Vt rfl ?_
       refine wG tK ?_ (by simp only [go_sem,hw1]; try exact rfl) (by simp [go_sem,hw1])
       refine ZB ⟨(i + 1,l),⟨by simp only; omega,hka,by simp only; omega⟩,by simp only; omega,ZU ?_ ?_ ?_⟩
       ·simp [go_sem]
       ·simp [go_sem]
       ·simp [go_sem]
      | false =>
       have hch : (changedB W b n = true) = True := by rw [hcb]; simp
       simp only [hch,if_true] at hka
       have hch : True = True := rfl
       refine Vf rfl ?_
       refine wG tK ?_
       refine ZW ZM ?_
       refine ZS rfl ?_
       refine sN tK 12 ?_
       refine sB tK ?_
       cases hkk : keepK l u.c.room (⟨{ n with version := o.version },true,0,u.c.clock⟩ : Kept) with
       | none =>
        have hkn := rkeep_no (by omega) hkk
        rw [hdk,hkk] at hka
        simp only at hka
        rw [← hka] at hW0
        have hW := hW0
        refine sC Tryz.func108 (hf := (hkn)) (hk := ?_)
        refine sG tK ?_
        refine sE ?_
        refine wKd ?_
        try simp only [go_sem,gA,gB,gC]
        refine wG tK ?_
        refine Vt rfl ?_
        refine wG tK ?_
        refine wU ?_ ?_
        ·rw [hW]
        ·rw [hW]
         simp only [Yx,gH,gI,gJ,gK]
         repeat' refine ZH ?_ ?_
         all_goals first | exact YH _ | rfl | simp [go_sem]
       | some l2 =>
        have hkn := rkeep_yes (by omega) hkk
        rw [hdk,hkk] at hka
        simp only at hka
        have hl2 := keepK_len hkk
        refine sC Tryz.func108 (hf := (hkn)) (hk := ?_)
        refine sG tK ?_
        refine sE ?_
        refine wKd ?_
        try simp only [go_sem,gA,gB,gC]
        refine wG tK ?_
        refine Vf rfl ?_
        refine wG tK ?_ (by simp only [go_sem,hw1]; try exact rfl) (by simp [go_sem,hw1])
        refine ZB ⟨(i + 1,l2),⟨by simp only; omega,hka,by simp only; omega⟩,by simp only; omega,ZU ?_ ?_ ?_⟩
        ·simp [go_sem]
        ·simp [go_sem]
        ·simp [go_sem]
     | none =>
      rw [hff] at hg1
      simp only [Option.map_none] at hg1
      have hch : (changedB W b n = true) = True := by unfold changedB; rw [hff]; simp
      have hdk : dirtyK W u.c.clock n = ⟨{ n with version := 0 },true,0,u.c.clock⟩ := by unfold dirtyK; rw [hff]; rfl
      simp only [hch,if_true] at hka
      have hch : True = True := rfl
      refine wR ?_
      refine wNq tK 4 ?_ ?_ (h := by simp only [go_sem,hg,ZN]; try exact rfl)
      ·simp [hg,ZN,hlt]
      refine wR ?_
      refine wN tK 10 ?_ (h := by simp only [go_sem,hg1,ZN]; try exact rfl) (hp := by simp [go_sem,hg1,ZN])
      refine wG tK ?_
      refine cw_pass (.bool false) rfl ?_
      simp only [go_sem]
      refine wG tK ?_
      refine Vf rfl ?_
      refine wG tK ?_
      refine ZW ZM ?_
      refine ZS rfl ?_
      refine sN tK 12 ?_
      refine sB tK ?_
      cases hkk : keepK l u.c.room (⟨{ n with version := 0 },true,0,u.c.clock⟩ : Kept) with
      | none =>
       have hkn := rkeep_no (by omega) hkk
       rw [hdk,hkk] at hka
       simp only at hka
       rw [← hka] at hW0
       have hW := hW0
       refine sC Tryz.func108 (hf := (hkn)) (hk := ?_)
       refine sG tK ?_
       refine sE ?_
       refine wKd ?_
       try simp only [go_sem,gA,gB,gC]
       refine wG tK ?_
       refine Vt rfl ?_
       refine wG tK ?_
       refine wU ?_ ?_
       ·rw [hW]
       ·rw [hW]
        simp only [Yx,gH,gI,gJ,gK]
        repeat' refine ZH ?_ ?_
        all_goals first | exact YH _ | rfl | simp [go_sem]
      | some l2 =>
       have hkn := rkeep_yes (by omega) hkk
       rw [hdk,hkk] at hka
       simp only at hka
       have hl2 := keepK_len hkk
       refine sC Tryz.func108 (hf := (hkn)) (hk := ?_)
       refine sG tK ?_
       refine sE ?_
       refine wKd ?_
       try simp only [go_sem,gA,gB,gC]
       refine wG tK ?_
       refine Vf rfl ?_
       refine wG tK ?_ (by simp only [go_sem,hw1]; try exact rfl) (by simp [go_sem,hw1])
       refine ZB ⟨(i + 1,l2),⟨by simp only; omega,hka,by simp only; omega⟩,by simp only; omega,ZU ?_ ?_ ?_⟩
       ·simp [go_sem]
       ·simp [go_sem]
       ·simp [go_sem]
    ·have e : i = L.length := by simp at h; omega
     subst e
     rw [List.drop_of_length_le (Nat.le_refl _),keepAll] at hka
     rw [← hka] at hW0
     simp only at hW0
     have hll : l.length ≤ 48 := by omega
     clear hka hi h
     refine wG tK ?_
     refine Yl (Ze 195 113 8 (by simp only [go_sem]; try exact rfl)) ?_
     simp only [go_sem]
     refine ZL (fun i : Nat => i ≤ l.length) (fun i => l.length - i) (fun i => [(19,.osl 195 8 0 ((l.take i).filter fun k => isAt L k.node.fid).length),(21,.any),(22,.any),(23,.any),(179,.int .i64 i),(180,.any),(181,.any),(182,.any),(183,.any),(184,.any),(185,.any),(186,.any),(187,.any),(188,.any),(189,.any),(190,.any),(191,.any),(192,.any),(193,.any),(194,.any),(195,.any),(196,.any)]) (fun i => [(195,.cells 113 8 (((l.take i).filter fun k => isAt L k.node.fid).map ZK))]) 0 (by omega) ?_ fun i hi => ?_
     ·simp only [go_sem]
      exact ZU (by simp [go_sem]) (by simp [go_sem]) (by simp [go_sem])
     simp only [go_sem]
     refine wG tK ?_
     refine wD (fun h => ?_) (fun h => ?_)
     ·have hlt : i < l.length := by simp at h; omega
      have hg : (l.map ZK).getD i [] = ZK (l.getD i default) := Fam.getD hlt
      have hw := wi1 (i := i) (by omega)
      have htk : (l.take (i + 1)).filter (fun k => isAt L k.node.fid) = (l.take i).filter (fun k => isAt L k.node.fid) ++ if isAt L (l.getD i default).node.fid = true then [l.getD i default] else [] := by
       rw [ZT hlt,List.filter_append,List.filter_cons]
       cases isAt L (l.getD i default).node.fid <;> simp
      have hll2 : ((l.take i).filter fun k => isAt L k.node.fid).length ≤ i := by
       have := List.length_filter_le (fun k => isAt L k.node.fid) (l.take i)
       simp only [List.length_take] at this
       omega
      clear hW0
      generalize (l.take i).filter (fun k => isAt L k.node.fid) = D at htk hll2
      generalize l.getD i default = k at hg htk
      have hg1 : Zg (mN (mapD L)) k.node.fid = (Yf L k.node.fid).map fun n => AV.agg (ZN n) := by rw [mN_get,mapD_get hgL.up]
      have hst : isAt L k.node.fid = (Yf L k.node.fid).isSome := isAt_eq _ _
      have htq : List.take D.length (D.map ZK) = D.map ZK := List.take_of_length_le (by simp)
      cases hff : Yf L k.node.fid with
      | none =>
       rw [hff] at hg1 hst
       simp only [Option.map_none] at hg1
       rw [hst,if_neg (by simp)] at htk
       refine wR ?_
       refine wNq tK 4 ?_ ?_ (h := by simp only [go_sem,hg,ZK]; try exact rfl)
       ·simp [hg,ZK,hlt]
       refine wR ?_
       refine wN tK 11 ?_ (h := by simp only [go_sem,hg1]; try exact rfl) (hp := by simp [go_sem,hg1])
       refine wG tK ?_
       refine Vf rfl ?_
       refine wG tK ?_ (by simp only [go_sem,hw]; try exact rfl) (by simp [go_sem,hw])
       refine ZB ⟨i + 1,by omega,by omega,ZU ?_ ?_ ?_⟩
       ·simp [go_sem,htk]
       ·simp [go_sem,htk]
       ·simp [go_sem]
      | some n =>
       rw [hff] at hg1 hst
       simp only [Option.map_some] at hg1
       rw [hst,if_pos (by simp)] at htk
       refine wR ?_
       refine wNq tK 4 ?_ ?_ (h := by simp only [go_sem,hg,ZK]; try exact rfl)
       ·simp [hg,ZK,hlt]
       refine wR ?_
       refine wN tK 11 ?_ (h := by simp only [go_sem,hg1,ZN]; try exact rfl) (hp := by simp [go_sem,hg1,ZN])
       refine wG tK ?_
       refine Vt rfl ?_
       refine wGq tK ?_ ?_ (by simp only [go_sem,hw]; try exact rfl)
       ·simp [htq,refs]
        omega
       refine ZB ⟨i + 1,by omega,by omega,ZU ?_ ?_ ?_⟩
       ·simp [go_sem,htk]
       ·simp [go_sem,htk,htq,ZK]
       ·simp [go_sem]
     ·have e : i = l.length := by simp at h; omega
      subst e
      rw [List.take_length]
      refine wG tK ?_
      refine ZZ 195 rfl (keptRow_pure _) ?_
      simp only [go_sem]
      refine wG tK ?_ (by simp only [go_sem,hwl1]; try exact rfl) (by simp [go_sem,hwl1])
      refine Vt (hmk) ?_
      refine wG tK ?_ (by simp only [go_sem,hwm1]; try exact rfl) (by simp [go_sem,hwm1])
      refine wU ?_ ?_
      ·rw [hW0]
      ·rw [hW0]
       simp only [Yx,gH,gI,gJ,gK]
       repeat' refine ZH ?_ ?_
       all_goals first | exact YH _ | rfl | simp [go_sem]
  ·rw [if_neg hE] at hap
   rw [if_pos (by simp [hE])] at hW0
   have hW := hW0
   refine wC Tryz.func36 (hf := (hap)) (hk := ?_)
   refine wG tK ?_
   refine wDT (hb := by simp [hE]) (hk := ?_)
   refine wG tK ?_
   refine wU ?_ ?_
   ·rw [hW]
   ·rw [hW]
    simp only [Yx,gH,gI,gJ,gK]
    repeat' refine ZH ?_ ?_
    all_goals first | exact YH _ | rfl | simp [go_sem]
 ·have hm : Zm a = false := by unfold Zm; revert h; cases (a.kind == 1) <;> simp
  have hmk := h
  have hbE : ownA u.c a = ⟨a.kind,a.fid,a.dir,a.name,a.to,a.toName,a.data⟩ := by unfold ownA; rw [hm]; rfl
  have hvE : ownV a seen = seen := by unfold ownV; rw [hm]; rfl
  rw [hvE] at hW0
  simp only [hm,Bool.false_eq_true,if_false] at hW0
  rw [hbE] at hap hW0 hbs
  refine wG tK ?_
  generalize a.fid = F at *
  generalize seen = V at *
  obtain ⟨b,hbD⟩ : ∃ b : Act,b = ⟨a.kind,F,a.dir,a.name,a.to,a.toName,a.data⟩ := ⟨_,rfl⟩
  rw [← hbD] at hap hW0 hbs
  have hrow : ZA b = [.int .i64 a.kind,.int .i64 F,.int .i64 a.dir,.str a.name,.int .i64 a.to,.str a.toName,.sl (a.data.map ZY)] := by rw [hbD]; rfl
  have hrec : ∀ v i,ZR ⟨b,v,i⟩ = [.int .i64 a.kind,.int .i64 F,.int .i64 a.dir,.str a.name,.int .i64 a.to,.str a.toName,.sl (a.data.map ZY),.int .i64 v,.int .i64 i] := by intro v i; rw [hbD]; rfl
  have hbk : b.kind = a.kind := by rw [hbD]
  have hbf : b.fid = F := by rw [hbD]
  clear hbD
  have hgl := fun he => good_apply hgood b 0 he
  rw [hrow] at hap
  have hgW : ∀ k,Zg (mN (mapD W)) k = (Yf W k).map fun n => AV.agg (ZN n) := fun k => by rw [mN_get,mapD_get hgood.up]
  generalize Yb W b = e0 at *
  generalize Yj W b 0 = L at *
  refine wC Tryz.func106 (hf := (hkt)) (hk := ?_)
  refine wG tK ?_
  by_cases hE : e0 = 0
  ·rw [if_pos hE] at hap
   rw [if_neg (by simp [hE])] at hW0
   have hgL := hgl hE
   have hLl := hgL.len
   have hls := list_ok L hgL.up (by omega)
   have hadd := refAdd_ok u.c.log ⟨b,V,u.c.logged + 1⟩ ⟨by have := hci.log; omega,fun r hr => by have := (hci.logS r hr).data; show r.act.data.length ≤ _; omega⟩ (by have := hbs.data; show b.data.length ≤ _; omega)
   rw [hrec] at hadd
   refine wC Tryz.func36 (hf := (hap)) (hk := ?_)
   refine wG tK ?_
   refine Vf rfl ?_
   refine wG tK ?_
   refine ZW ZM ?_
   refine ZS rfl ?_
   refine sN tK 13 ?_ (h := by simp only [go_sem,hwl1]; try exact rfl) (hp := by simp [go_sem,hwl1])
   refine sB tK ?_
   cases hlog : addLog u.c.log ⟨b,V,u.c.logged + 1⟩ with
   | none =>
    rw [hlog] at hadd hW0
    simp only [addRes] at hadd hW0
    have hW := hW0
    refine sC Tryz.func107 (hf := (hadd)) (hk := ?_)
    refine sG tK ?_
    refine sE ?_
    refine wKd ?_
    try simp only [go_sem,gA,gB,gC]
    refine wG tK ?_
    refine Vt rfl ?_
    refine wG tK ?_
    refine wU ?_ ?_
    ·rw [hW]
    ·rw [hW]
     simp only [Yx,gH,gI,gJ,gK]
     repeat' refine ZH ?_ ?_
     all_goals first | exact YH _ | rfl | simp [go_sem]
   | some log =>
    rw [hlog] at hadd hW0
    simp only [addRes] at hadd hW0
    generalize hKA : keepAll u.c.room u.c.clock W b L u.c.cache = KA at hW0
    refine sC Tryz.func107 (hf := (hadd)) (hk := ?_)
    refine sG tK ?_
    refine sE ?_
    refine wKd ?_
    try simp only [go_sem,gA,gB,gC]
    refine wG tK ?_
    refine Vf rfl ?_
    refine wG tK ?_
    refine wC Tryz.func37 (hf := (hls)) (hk := ?_)
    refine wG tK ?_
    refine ZL (fun q : Nat × List Kept => q.1 ≤ L.length ∧ keepAll u.c.room u.c.clock W b (L.drop q.1) q.2 = KA ∧ q.2.length ≤ 24 + q.1) (fun q => L.length - q.1) (fun q => [(12,.any),(14,.sl (q.2.map ZK)),(16,.any),(17,.any),(18,.any),(124,.int .i64 q.1),(125,.any),(126,.any),(127,.any),(128,.any),(129,.any),(130,.any),(131,.any),(132,.any),(133,.any),(134,.any),(135,.any),(136,.any),(137,.any),(138,.any),(139,.any),(140,.any),(141,.any),(142,.any),(143,.any),(144,.any),(145,.any),(146,.any),(147,.any),(148,.any),(149,.any),(150,.any),(151,.any),(152,.any),(153,.any),(154,.any),(155,.any),(156,.any),(157,.any),(158,.any),(159,.any),(160,.any),(161,.any),(162,.any),(163,.any),(164,.any),(165,.any),(166,.any),(167,.any),(168,.any),(169,.any),(170,.any),(171,.any),(172,.any),(173,.any),(174,.any),(175,.any),(176,.any)]) (fun _ => []) (0,u.c.cache) ⟨Nat.zero_le _,by rw [List.drop_zero]; exact hKA,by simp only; omega⟩ ?_ fun q hq => ?_
    ·simp only [go_sem]
     exact ZU (by simp [go_sem]) (by simp [go_sem]) (by simp [go_sem])
    obtain ⟨i,l⟩ := q
    obtain ⟨hi,hka,hll⟩ := hq
    simp only at hi hka hll
    clear hKA
    simp only [go_sem]
    refine wG tK ?_
    refine wD (fun h => ?_) (fun h => ?_)
    ·have hlt : i < L.length := by simp at h; omega
     have hg : (L.map ZN).getD i [] = ZN (L.getD i default) := Fam.getD hlt
     have hw1 := wi1 (i := i) (by omega)
     have hnm := YG hlt
     rw [drop_getD hlt,keepAll] at hka
     generalize L.getD i default = n at *
     have hns := hgL.small.each n hnm
     have hg1 := hgW n.fid
     cases hff : Yf W n.fid with
     | some o =>
      rw [hff] at hg1
      simp only [Option.map_some] at hg1
      have hos := hgood.small.each o ((ZO hgood.up).1 hff).1
      have hsm := sameNode_ok o n false hos hns
      have hcb : changedB W b n = !(sameN false o n && (a.kind != 3 || n.fid != F)) := by unfold changedB; rw [hff,hbk,hbf]
      have hdk : dirtyK W u.c.clock n = ⟨{ n with version := o.version },true,0,u.c.clock⟩ := by unfold dirtyK; rw [hff]; rfl
      unfold ZN at hsm
      generalize sameN false o n = sm at *
      refine wR ?_
      refine wNq tK 4 ?_ ?_ (h := by simp only [go_sem,hg,ZN]; try exact rfl)
      ·simp [hg,ZN,hlt]
      refine wR ?_
      refine wN tK 10 ?_ (h := by simp only [go_sem,hg1,ZN]; try exact rfl) (hp := by simp [go_sem,hg1,ZN])
      refine wG tK ?_
      refine wCC Tryz.func41 (hf := fun hb => (hsm)) (hk := ?_)
      refine wNq tK 13 ?_ ?_
      ·simp [go_sem]
       intro e
       exact ⟨e,fun e2 => ⟨e,e2⟩⟩
      refine Yn 152 (by simp only [go_sem]; exact rfl) (fun c152 h152 => ?_)
      simp only [go_sem]
      have hc : c152 = (sm && (a.kind != 3 || n.fid != F)) := by
       rw [← h152]
       cases sm <;> cases (a.kind != 3) <;> simp
      clear h152
      rw [← hc] at hcb
      refine wG tK ?_
      cases c152 with
      | true =>
       have hch : changedB W b n = false := by rw [hcb]; rfl
       rw [hch,if_neg Bool.false_ne_true] at hka
       refine Vt rfl ?_
       refine wG tK ?_ (by simp only [go_sem,hw1]; try exact rfl) (by simp [go_sem,hw1])
       refine ZB ⟨(i + 1,l),⟨by simp only; omega,hka,by simp only; omega⟩,by simp only; omega,ZU ?_ ?_ ?_⟩
       ·simp [go_sem]
       ·simp [go_sem]
       ·simp [go_sem]
      | false =>
       have hch : (changedB W b n = true) = True := by rw [hcb]; simp
       simp only [hch,if_true] at hka
       have hch : True = True := rfl
       refine Vf rfl ?_
       refine wG tK ?_
       refine ZW ZM ?_
       refine ZS rfl ?_
       refine sN tK 12 ?_
       refine sB tK ?_
       cases hkk : keepK l u.c.room (⟨{ n with version := o.version },true,0,u.c.clock⟩ : Kept) with
       | none =>
        have hkn := rkeep_no (by omega) hkk
        rw [hdk,hkk] at hka
        simp only at hka
        rw [← hka] at hW0
        have hW := hW0
        refine sC Tryz.func108 (hf := (hkn)) (hk := ?_)
        refine sG tK ?_
        refine sE ?_
        refine wKd ?_
        try simp only [go_sem,gA,gB,gC]
        refine wG tK ?_
        refine Vt rfl ?_
        refine wG tK ?_
        refine wU ?_ ?_
        ·rw [hW]
        ·rw [hW]
         simp only [Yx,gH,gI,gJ,gK]
         repeat' refine ZH ?_ ?_
         all_goals first | exact YH _ | rfl | simp [go_sem]
       | some l2 =>
        have hkn := rkeep_yes (by omega) hkk
        rw [hdk,hkk] at hka
        simp only at hka
        have hl2 := keepK_len hkk
        refine sC Tryz.func108 (hf := (hkn)) (hk := ?_)
        refine sG tK ?_
        refine sE ?_
        refine wKd ?_
        try simp only [go_sem,gA,gB,gC]
        refine wG tK ?_
        refine Vf rfl ?_
        refine wG tK ?_ (by simp only [go_sem,hw1]; try exact rfl) (by simp [go_sem,hw1])
        refine ZB ⟨(i + 1,l2),⟨by simp only; omega,hka,by simp only; omega⟩,by simp only; omega,ZU ?_ ?_ ?_⟩
        ·simp [go_sem]
        ·simp [go_sem]
        ·simp [go_sem]
     | none =>
      rw [hff] at hg1
      simp only [Option.map_none] at hg1
      have hch : (changedB W b n = true) = True := by unfold changedB; rw [hff]; simp
      have hdk : dirtyK W u.c.clock n = ⟨{ n with version := 0 },true,0,u.c.clock⟩ := by unfold dirtyK; rw [hff]; rfl
      simp only [hch,if_true] at hka
      have hch : True = True := rfl
      refine wR ?_
      refine wNq tK 4 ?_ ?_ (h := by simp only [go_sem,hg,ZN]; try exact rfl)
      ·simp [hg,ZN,hlt]
      refine wR ?_
      refine wN tK 10 ?_ (h := by simp only [go_sem,hg1,ZN]; try exact rfl) (hp := by simp [go_sem,hg1,ZN])
      refine wG tK ?_
      refine cw_pass (.bool false) rfl ?_
      simp only [go_sem]
      refine wG tK ?_
      refine Vf rfl ?_
      refine wG tK ?_
      refine ZW ZM ?_
      refine ZS rfl ?_
      refine sN tK 12 ?_
      refine sB tK ?_
      cases hkk : keepK l u.c.room (⟨{ n with version := 0 },true,0,u.c.clock⟩ : Kept) with
      | none =>
       have hkn := rkeep_no (by omega) hkk
       rw [hdk,hkk] at hka
       simp only at hka
       rw [← hka] at hW0
       have hW := hW0
       refine sC Tryz.func108 (hf := (hkn)) (hk := ?_)
       refine sG tK ?_
       refine sE ?_
       refine wKd ?_
       try simp only [go_sem,gA,gB,gC]
       refine wG tK ?_
       refine Vt rfl ?_
       refine wG tK ?_
       refine wU ?_ ?_
       ·rw [hW]
       ·rw [hW]
        simp only [Yx,gH,gI,gJ,gK]
        repeat' refine ZH ?_ ?_
        all_goals first | exact YH _ | rfl | simp [go_sem]
      | some l2 =>
       have hkn := rkeep_yes (by omega) hkk
       rw [hdk,hkk] at hka
       simp only at hka
       have hl2 := keepK_len hkk
       refine sC Tryz.func108 (hf := (hkn)) (hk := ?_)
       refine sG tK ?_
       refine sE ?_
       refine wKd ?_
       try simp only [go_sem,gA,gB,gC]
       refine wG tK ?_
       refine Vf rfl ?_
       refine wG tK ?_ (by simp only [go_sem,hw1]; try exact rfl) (by simp [go_sem,hw1])
       refine ZB ⟨(i + 1,l2),⟨by simp only; omega,hka,by simp only; omega⟩,by simp only; omega,ZU ?_ ?_ ?_⟩
       ·simp [go_sem]
       ·simp [go_sem]
       ·simp [go_sem]
    ·have e : i = L.length := by simp at h; omega
     subst e
     rw [List.drop_of_length_le (Nat.le_refl _),keepAll] at hka
     rw [← hka] at hW0
     simp only at hW0
     have hll : l.length ≤ 48 := by omega
     clear hka hi h
     refine wG tK ?_
     refine Yl (Ze 195 113 8 (by simp only [go_sem]; try exact rfl)) ?_
     simp only [go_sem]
     refine ZL (fun i : Nat => i ≤ l.length) (fun i => l.length - i) (fun i => [(19,.osl 195 8 0 ((l.take i).filter fun k => isAt L k.node.fid).length),(21,.any),(22,.any),(23,.any),(179,.int .i64 i),(180,.any),(181,.any),(182,.any),(183,.any),(184,.any),(185,.any),(186,.any),(187,.any),(188,.any),(189,.any),(190,.any),(191,.any),(192,.any),(193,.any),(194,.any),(195,.any),(196,.any)]) (fun i => [(195,.cells 113 8 (((l.take i).filter fun k => isAt L k.node.fid).map ZK))]) 0 (by omega) ?_ fun i hi => ?_
     ·simp only [go_sem]
      exact ZU (by simp [go_sem]) (by simp [go_sem]) (by simp [go_sem])
     simp only [go_sem]
     refine wG tK ?_
     refine wD (fun h => ?_) (fun h => ?_)
     ·have hlt : i < l.length := by simp at h; omega
      have hg : (l.map ZK).getD i [] = ZK (l.getD i default) := Fam.getD hlt
      have hw := wi1 (i := i) (by omega)
      have htk : (l.take (i + 1)).filter (fun k => isAt L k.node.fid) = (l.take i).filter (fun k => isAt L k.node.fid) ++ if isAt L (l.getD i default).node.fid = true then [l.getD i default] else [] := by
       rw [ZT hlt,List.filter_append,List.filter_cons]
       cases isAt L (l.getD i default).node.fid <;> simp
      have hll2 : ((l.take i).filter fun k => isAt L k.node.fid).length ≤ i := by
       have := List.length_filter_le (fun k => isAt L k.node.fid) (l.take i)
       simp only [List.length_take] at this
       omega
      clear hW0
      generalize (l.take i).filter (fun k => isAt L k.node.fid) = D at htk hll2
      generalize l.getD i default = k at hg htk
      have hg1 : Zg (mN (mapD L)) k.node.fid = (Yf L k.node.fid).map fun n => AV.agg (ZN n) := by rw [mN_get,mapD_get hgL.up]
      have hst : isAt L k.node.fid = (Yf L k.node.fid).isSome := isAt_eq _ _
      have htq : List.take D.length (D.map ZK) = D.map ZK := List.take_of_length_le (by simp)
      cases hff : Yf L k.node.fid with
      | none =>
       rw [hff] at hg1 hst
       simp only [Option.map_none] at hg1
       rw [hst,if_neg (by simp)] at htk
       refine wR ?_
       refine wNq tK 4 ?_ ?_ (h := by simp only [go_sem,hg,ZK]; try exact rfl)
       ·simp [hg,ZK,hlt]
       refine wR ?_
       refine wN tK 11 ?_ (h := by simp only [go_sem,hg1]; try exact rfl) (hp := by simp [go_sem,hg1])
       refine wG tK ?_
       refine Vf rfl ?_
       refine wG tK ?_ (by simp only [go_sem,hw]; try exact rfl) (by simp [go_sem,hw])
       refine ZB ⟨i + 1,by omega,by omega,ZU ?_ ?_ ?_⟩
       ·simp [go_sem,htk]
       ·simp [go_sem,htk]
       ·simp [go_sem]
      | some n =>
       rw [hff] at hg1 hst
       simp only [Option.map_some] at hg1
       rw [hst,if_pos (by simp)] at htk
       refine wR ?_
       refine wNq tK 4 ?_ ?_ (h := by simp only [go_sem,hg,ZK]; try exact rfl)
       ·simp [hg,ZK,hlt]
       refine wR ?_
       refine wN tK 11 ?_ (h := by simp only [go_sem,hg1,ZN]; try exact rfl) (hp := by simp [go_sem,hg1,ZN])
       refine wG tK ?_
       refine Vt rfl ?_
       refine wGq tK ?_ ?_ (by simp only [go_sem,hw]; try exact rfl)
       ·simp [htq,refs]
        omega
       refine ZB ⟨i + 1,by omega,by omega,ZU ?_ ?_ ?_⟩
       ·simp [go_sem,htk]
       ·simp [go_sem,htk,htq,ZK]
       ·simp [go_sem]
     ·have e : i = l.length := by simp at h; omega
      subst e
      rw [List.take_length]
      refine wG tK ?_
      refine ZZ 195 rfl (keptRow_pure _) ?_
      simp only [go_sem]
      refine wG tK ?_ (by simp only [go_sem,hwl1]; try exact rfl) (by simp [go_sem,hwl1])
      refine Vf (hmk) ?_
      refine wG tK ?_ (by simp only [go_sem,hwm1]; try exact rfl) (by simp [go_sem,hwm1])
      refine wU ?_ ?_
      ·rw [hW0]
      ·rw [hW0]
       simp only [Yx,gH,gI,gJ,gK]
       repeat' refine ZH ?_ ?_
       all_goals first | exact YH _ | rfl | simp [go_sem]
  ·rw [if_neg hE] at hap
   rw [if_pos (by simp [hE])] at hW0
   have hW := hW0
   refine wC Tryz.func36 (hf := (hap)) (hk := ?_)
   refine wG tK ?_
   refine wDT (hb := by simp [hE]) (hk := ?_)
   refine wG tK ?_
   refine wU ?_ ?_
   ·rw [hW]
   ·rw [hW]
    simp only [Yx,gH,gI,gJ,gK]
    repeat' refine ZH ?_ ?_
    all_goals first | exact YH _ | rfl | simp [go_sem]
theorem ract_ok {B T : Nat} (u : U) (h : UInv B T u) (hB : B ≤ 40000000) (hT : T ≤ 900000000000) (a : Act) (ha : ActS a) (seen : Int) (G Y N : Nat → Nat) : FnOK Tryz.prog 83 [.ptr 900 13 0 0,.agg (ZA a),.int .i64 seen] (uH u G Y N)
  (fun r H => r = .int .i64 (actU u a seen).e ∧ Holds (uH (actU u a seen).u G Y N) H) := by
 unfold actU
 cases e : u.c.away with
 | true => exact ract_own u h hB e a ha seen G Y N
 | false => exact ract_here u h hB e a ha seen G Y N
end La
