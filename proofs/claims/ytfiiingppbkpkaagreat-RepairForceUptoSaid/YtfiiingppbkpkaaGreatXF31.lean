/- Texts of this claim, part 31: RLaw11, OpnE. No condition. -/
import Derived.Test.YtfiiingppbkpkaaGreatXF30
import Derived.Test.YtfiiingppbkpkaaGreatXF11
import Derived.Test.YtfiiingppbkpkaaGreatXF9
import Derived.ChangeArms
import Derived.Test.YtfiiingppbkpkaaGreatXF19
import Derived.Test.YtfiiingppbkpkaaGreatXF15
set_option maxRecDepth 10000
set_option maxHeartbeats 4000000
set_option linter.unusedSimpArgs false
set_option linter.unusedVariables false
namespace La
open Go Go.Eng Go.Proofs
theorem repForce_no (rooms : List Int) (hr : rooms.length ≤ 100000000) (l : List Step) (hl : StepsOK l) (log : List Rec) (hE : roomsE rooms ≠ 0) :
  FnOK Tryz.prog 5 [.sl (rooms.map ZI),.sl (l.map ZX),.sl (log.map ZR)] [] (fun r _ => r = .bool true) := by
 have hb := rbuild_ok rooms hr l hl
 rw [bldW_no hE] at hb
 unfold worRow at hb
 refine ZF tK (Tryz.func5) rfl (fun C => ?_)
 simp only [Tryz.ntmps5,Tryz.results5,go_sem]
 refine wG tK ?_
 refine wC Tryz.func28 (hf := (alive11)) (hk := ?_)
 refine wG tK ?_
 refine wDF (hb := (rfl)) (hk := ?_)
 refine wG tK ?_
 refine wC Tryz.func7 (hf := (hb)) (hk := ?_)
 refine wG tK ?_
 refine wDT (hb := (rfl)) (hk := ?_)
 refine wG tK ?_
 refine wT ?_
 rfl
theorem repForce_yes (rooms : List Int) (hr : rooms.length ≤ 100000000) (l : List Step) (hl : StepsOK l) (log : List Rec) (hlog : SmallL log) (hl2 : log.length ≤ 2000000) (hfit : ∀ r,r ∈ log → ActFit r.act) (hE : roomsE rooms = 0) :
  FnOK Tryz.prog 5 [.sl (rooms.map ZI),.sl (l.map ZX),.sl (log.map ZR)] [] (fun r _ => r = .bool true) := by
 have hb := rbuild_ok rooms hr l hl
 have hs := (bldW_inv hE l).srv
 have hll := hl.len
 generalize bldW rooms l = W at *
 have hs := hs.mono (show 20 * l.length ≤ 40000000 by omega)
 have hne := hs.hist.ne
 have hup := hs.hist.good.up
 have hf := force_ok W.s hs 0 log hlog hl2 hfit
 have hfit2 : ∀ r,r ∈ log.map (freshR W.s.tree) → ActFit r.act := fun r hr => by
  obtain ⟨q,hq,rfl⟩ := List.mem_map.1 hr
  rw [freshR_act]
  exact hfit q hq
 have hvl : (judgeJ W.s.tree W.s.next ((W.s.past.length + 1 : Nat) : Int) (log.map (freshR W.s.tree))).vs.length = log.length := by
  rw [(JInv.judge hs.hist 0 W.s.next _ hfit2).vlen,List.length_map]
 have hfirst : ∀ n,0 < log.length → findN W.s.tree (log.getD 0 default).act.fid = some n → (log.getD 0 default).act.kind = 3 → n.dir = false → (log.getD 0 default).act.data.length ≤ 20 →
   ((judgeJ W.s.tree W.s.next ((W.s.past.length + 1 : Nat) : Int) (log.map (freshR W.s.tree))).vs.getD 0 default).err = 0 := by
  intro n h0
  cases log with
  | nil => simp at h0
  | cons r m => exact fun h1 h2 h3 h4 => force_vs0 h1 h2 h3 h4
 have hof := of_rm W.s.tree (by have := hs.hist.good.len; omega)
 have hgf : ∀ k,mget (mN (mapD W.s.tree)) k = (findN W.s.tree k).map fun n => AV.agg (ZN n) := fun k => by rw [mN_get,mapD_get hup]
 generalize takeS W.s 0 (log.map (freshR W.s.tree)) = S2 at *
 generalize (judgeJ W.s.tree W.s.next ((W.s.past.length + 1 : Nat) : Int) (log.map (freshR W.s.tree))).vs = vs at *
 unfold worRow at hb
 unfold ZQ at hf
 refine ZF tK (Tryz.func5) rfl (fun C => ?_)
 simp only [Tryz.ntmps5,Tryz.results5,go_sem]
 refine wG tK ?_
 refine wC Tryz.func28 (hf := (alive11)) (hk := ?_)
 refine wG tK ?_
 refine wDF (hb := (rfl)) (hk := ?_)
 refine wG tK ?_
 refine wC Tryz.func7 (hf := (hb)) (hk := ?_)
 refine wG tK ?_
 refine wDF (hb := (by simp; exact fun h0 => by rw [h0] at hne; exact absurd hne (by simp))) (hk := ?_)
 refine wG tK ?_
 refine wC Tryz.func27 (hf := (hf)) (hk := ?_)
 refine wG tK ?_
 refine wDF (hb := (by simp; omega)) (hk := ?_)
 refine wG tK ?_
 refine wC Tryz.func20 (hf := (hof)) (hk := ?_)
 refine wG tK ?_
 refine ZL (fun i : Nat => i ≤ vs.length) (fun i => vs.length - i) (fun i => [(11,.any),(12,.any),(13,.any),(14,.any),(41,.int .i64 i),(42,.any),(43,.any),(44,.any),(45,.any),(46,.any),(47,.any),(48,.any),(49,.any),(50,.any),(51,.any),(52,.any),(53,.any),(54,.any),(55,.any),(56,.any),(57,.any),(58,.any),(59,.any),(60,.any),(61,.any),(62,.any),(63,.any),(64,.any),(65,.any),(66,.any),(67,.any),(68,.any),(69,.any),(70,.any),(71,.any),(72,.any),(73,.any),(74,.any),(75,.any),(76,.any),(77,.any),(78,.any),(79,.any),(80,.any),(81,.any),(82,.any),(83,.any),(84,.any),(85,.any),(86,.any),(87,.any),(88,.any),(89,.any),(90,.any),(91,.any)]) (fun _ => []) 0 (by omega) ?_ fun i hi => ?_
 ·simp only [go_sem]
  exact ZU (by simp [go_sem]) (by simp [go_sem]) (by simp [go_sem])
 simp only [go_sem]
 refine wG tK ?_
 refine wD (fun h => ?_) (fun h => ?_)
 ·have hlt : i < vs.length := by simp at h; omega
  have hlt2 : i < log.length := by omega
  have hg : (vs.map ZV).getD i [] = ZV (vs.getD i default) := Fam.getD hlt
  have hgl : (log.map ZR).getD i [] = ZR (log.getD i default) := Fam.getD hlt2
  have how' := wi1 (i := i) (by omega)
  have hcore : ∀ n,i = 0 → findN W.s.tree (log.getD i default).act.fid = some n → (log.getD i default).act.kind = 3 → n.dir = false → (log.getD i default).act.data.length ≤ 20 → (vs.getD i default).err = 0 := by
   intro n h0
   subst h0
   exact hfirst n (by omega)
  generalize log.getD i default = r at *
  generalize vs.getD i default = v at *
  have hg1 := hgf r.act.fid
  refine wR ?_
  refine wNq tK 6 ?_ ?_ (by simp only [go_sem]; exact rfl) (by simp only [go_sem]; exact rfl) (by simp only [go_sem,hg,ZV]; try exact rfl)
  ·simp [hg,ZV,hlt]
  refine wR ?_
  refine wNq tK 7 ?_ ?_ (by simp only [go_sem]; exact rfl) (by simp only [go_sem]; exact rfl) (by simp only [go_sem,hgl,ZR]; try exact rfl)
  ·simp [hgl,ZR,hlt2]
  cases hff : findN W.s.tree r.act.fid with
  | none =>
   rw [hff] at hg1
   simp only [Option.map_none] at hg1
   refine wN tK 1 ?_ (by simp only [go_sem]; exact rfl) (by simp only [go_sem]; exact rfl) (by simp only [go_sem,hg1]; try exact rfl) (by simp [go_sem,hg1])
   refine wN tK 6 ?_
   refine wR ?_
   refine wN tK 6 ?_
   refine cw_name 62 (by simp only [go_sem]; exact rfl) (fun c62 h62 => ?_)
   simp only [go_sem]
   have hc1 : c62 = true → (i = 0 ∧ False) := by
    rw [← h62]
    simp
   clear h62
   refine wNq tK 9 ?_ ?_ (by simp only [go_sem]; exact rfl) (by simp only [go_sem]; exact rfl) (by simp only [go_sem,hgl,ZR]; try exact rfl)
   ·simp [hgl,ZR,hlt2]
   refine cw_name 71 (by simp only [go_sem]; exact rfl) (fun c71 h71 => ?_)
   simp only [go_sem]
   have hc2 : c71 = true → (c62 = true ∧ r.act.kind = 3) := by
    rw [← h71]
    cases c62 <;> simp
   clear h71
   refine wN tK 5 ?_
   refine cw_name 76 (by simp only [go_sem]; exact rfl) (fun c76 h76 => ?_)
   simp only [go_sem]
   have hc3 : c76 = true → (c71 = true ∧ false = false) := by
    rw [← h76]
    cases c71 <;> simp
   clear h76
   refine wNq tK 10 ?_ ?_ (by simp only [go_sem]; exact rfl) (by simp only [go_sem]; exact rfl) (by simp only [go_sem,hgl,ZR]; try exact rfl)
   ·simp [hgl,ZR,hlt2]
   refine cw_name 86 (by simp only [go_sem]; exact rfl) (fun c86 h86 => ?_)
   simp only [go_sem]
   have hc4 : c86 = true → (c76 = true ∧ r.act.data.length ≤ 20) := by
    rw [← h86]
    cases c76 <;> simp <;> omega
   clear h86
   refine wG tK ?_
   refine wDF (hb := (by cases hcc:c86 with | false=>rfl | true=>exact absurd (hc1 (hc2 (hc3 (hc4 hcc).1).1).1).2 id)) (hk := ?_)
   refine wG tK ?_ (by simp only [go_sem,how']; try exact rfl) (by simp [go_sem,how'])
   refine ZB ⟨i + 1,by omega,by omega,ZU ?_ ?_ ?_⟩
   ·simp [go_sem]
   ·simp [go_sem]
   ·simp [go_sem]
  | some n =>
   rw [hff] at hg1
   simp only [Option.map_some] at hg1
   refine wN tK 1 ?_ (by simp only [go_sem]; exact rfl) (by simp only [go_sem]; exact rfl) (by simp only [go_sem,hg1,ZN]; try exact rfl) (by simp [go_sem,hg1,ZN])
   refine wN tK 6 ?_
   refine wR ?_
   refine wN tK 6 ?_
   refine cw_name 62 (by simp only [go_sem]; exact rfl) (fun c62 h62 => ?_)
   simp only [go_sem]
   have hc1 : c62 = true → (i = 0 ∧ True) := by
    rw [← h62]
    simp
   clear h62
   refine wNq tK 9 ?_ ?_ (by simp only [go_sem]; exact rfl) (by simp only [go_sem]; exact rfl) (by simp only [go_sem,hgl,ZR]; try exact rfl)
   ·simp [hgl,ZR,hlt2]
   refine cw_name 71 (by simp only [go_sem]; exact rfl) (fun c71 h71 => ?_)
   simp only [go_sem]
   have hc2 : c71 = true → (c62 = true ∧ r.act.kind = 3) := by
    rw [← h71]
    cases c62 <;> simp
   clear h71
   refine wN tK 5 ?_
   refine cw_name 76 (by simp only [go_sem]; exact rfl) (fun c76 h76 => ?_)
   simp only [go_sem]
   have hc3 : c76 = true → (c71 = true ∧ n.dir = false) := by
    rw [← h76]
    cases c71 <;> simp
   clear h76
   refine wNq tK 10 ?_ ?_ (by simp only [go_sem]; exact rfl) (by simp only [go_sem]; exact rfl) (by simp only [go_sem,hgl,ZR]; try exact rfl)
   ·simp [hgl,ZR,hlt2]
   refine cw_name 86 (by simp only [go_sem]; exact rfl) (fun c86 h86 => ?_)
   simp only [go_sem]
   have hc4 : c86 = true → (c76 = true ∧ r.act.data.length ≤ 20) := by
    rw [← h86]
    cases c76 <;> simp <;> omega
   clear h86
   refine wG tK ?_
   refine wDF (hb := (by cases hcc:c86 with | false=>rfl | true=>simp[hcore n (hc1 (hc2 (hc3 (hc4 hcc).1).1).1).1 hff (hc2 (hc3 (hc4 hcc).1).1).2 (hc3 (hc4 hcc).1).2 (hc4 hcc).2])) (hk := ?_)
   refine wG tK ?_ (by simp only [go_sem,how']; try exact rfl) (by simp [go_sem,how'])
   refine ZB ⟨i + 1,by omega,by omega,ZU ?_ ?_ ?_⟩
   ·simp [go_sem]
   ·simp [go_sem]
   ·simp [go_sem]
 ·refine wG tK ?_
  refine wT ?_
  rfl
theorem repForce_ok (rooms : List Int) (l : List Step) (log : List Rec) (hr : rooms.length ≤ 100000000) (hl : StepsOK l) (hlog : SmallL log) (hl2 : log.length ≤ 2000000) (hfit : ∀ r,r ∈ log → ActFit r.act) :
  FnOK Tryz.prog 5 [.sl (rooms.map ZI),.sl (l.map ZX),.sl (log.map ZR)] [] (fun r _ => r = .bool true) := by
 by_cases hE : roomsE rooms = 0
 ·exact repForce_yes rooms hr l hl log hlog hl2 hfit hE
 ·exact repForce_no rooms hr l hl log hE
end La
namespace La
open Go Go.Eng Go.Proofs Go.Proofs.YtfiiingppbkpkaaGreat
def RdC (w : World) (cs : List Value) (xs : List AV) : Prop := cs.length = xs.length ∧ ∀ (j : Nat) y,xs[j]? = some y → RdP (fun b => b < w.heap.size) w (cs.getD j undef) y
theorem rdc_nil {w : World} {cs : List Value} {off : Nat} (h : cs.length = off) : RdC w (cs.drop off) [] :=
 ⟨by simp; omega,fun j y hj => by simp at hj⟩
theorem rdc_cons {w : World} {cs : List Value} {xs ys : List AV} (off s : Nat) (h : RdC w ((cs.drop off).take s) xs) (hs : xs.length = s) (k : RdC w (cs.drop (off + s)) ys) : RdC w (cs.drop off) (xs ++ ys) := by
 obtain ⟨h1,h2⟩ := h
 obtain ⟨k1,k2⟩ := k
 have hl : (cs.drop off).length = s + (cs.drop (off + s)).length := by
  simp only [List.length_take,List.length_drop] at h1 k1 ⊢
  omega
 refine ⟨by rw [List.length_append,hl,hs,k1],fun j y hj => ?_⟩
 by_cases hjs : j < s
 ·rw [List.getElem?_append_left (by omega)] at hj
  have := h2 j y hj
  rwa [List.getD_eq_getElem?_getD,List.getElem?_take,if_pos hjs,← List.getD_eq_getElem?_getD] at this
 ·rw [List.getElem?_append_right (by omega),hs] at hj
  have := k2 (j - s) y hj
  rw [List.getD_eq_getElem?_getD,List.getElem?_drop] at this
  rw [List.getD_eq_getElem?_getD,List.getElem?_drop]
  rwa [show off + s + (j - s) = off + j from by omega] at this
structure Rep (t : TypeId) {α : Type} (f : α → List AV) (q : α → Prop) (sz : α → Nat) : Prop where
 size : ∀ x,(f x).length = (Tryz.prog).cellsOf t
 opn : ∀ {H : Type} (enc : TypeId × Value → H) (w : World) (n : Nat) (cs : List Value) (y : DataW H × List MemPlace),DataW.trod enc Tryz.prog w 0 (fun _ => true) true n t cs = some y →
  ∃ x : α,q x ∧ sz x ≤ Rows.uptoBulk y.1 ∧ RdC w cs (f x)
theorem ZG {t : TypeId} {n : Nat} (h : tab.siz t = n) (h0 : n ≠ 0) : (Tryz.prog).cellsOf t = n := by
 obtain ⟨i,h1,h2,_⟩ := tK.siz t (by rw [h]; exact h0)
 unfold Program.cellsOf
 rw [h1]
 simp [h2,h]
theorem cT3 : (Tryz.prog).cellsOf 3 = 1 := ZG (t := 3) (n := 1) rfl (by decide)
theorem cT5 : (Tryz.prog).cellsOf 5 = 1 := ZG (t := 5) (n := 1) rfl (by decide)
theorem cT9 : (Tryz.prog).cellsOf 9 = 1 := ZG (t := 9) (n := 1) rfl (by decide)
theorem cT22 : (Tryz.prog).cellsOf 22 = 1 := ZG (t := 22) (n := 1) rfl (by decide)
theorem cT23 : (Tryz.prog).cellsOf 23 = 1 := ZG (t := 23) (n := 1) rfl (by decide)
theorem cT24 : (Tryz.prog).cellsOf 24 = 1 := ZG (t := 24) (n := 1) rfl (by decide)
theorem cT26 : (Tryz.prog).cellsOf 26 = 7 := ZG (t := 26) (n := 7) rfl (by decide)
theorem cT27 : (Tryz.prog).cellsOf 27 = 1 := ZG (t := 27) (n := 1) rfl (by decide)
theorem cT56 : (Tryz.prog).cellsOf 56 = 9 := ZG (t := 56) (n := 9) rfl (by decide)
theorem cT78 : (Tryz.prog).cellsOf 78 = 6 := ZG (t := 78) (n := 6) rfl (by decide)
theorem rep_int {t : TypeId} (ht : (Tryz.prog).underlying t = some (.int .i64)) (hs : (Tryz.prog).cellsOf t = 1) : Rep t (fun n : Int => [AV.int .i64 n]) (fun n => -9223372036854775808 ≤ n ∧ n ≤ 9223372036854775807) (fun _ => 1) where
 size := fun _ => by rw [hs]; rfl
 opn := fun enc w n cs y h => by
  obtain ⟨m,rfl,rfl,hw⟩ := DataW.trod_int ht h
  refine ⟨m,?_,by simp [Rows.uptoBulk],rfl,fun j y hj => ?_⟩
  ·simpa [Lit.wf,IntKind.min,IntKind.max,IntKind.bits,IntKind.signed] using hw
  ·cases j with
   | zero => simp only [List.getElem?_cons_zero,Option.some.injEq] at hj; subst hj; exact .int _ _
   | succ j => simp at hj
theorem rep_str {t : TypeId} (ht : (Tryz.prog).underlying t = some .string) (hs : (Tryz.prog).cellsOf t = 1) : Rep t (fun s : List UInt8 => [AV.str s]) (fun _ => True) (fun s => s.length + 1) where
 size := fun _ => by rw [hs]; rfl
 opn := fun enc w n cs y h => by
  obtain ⟨s,rfl,rfl,_⟩ := DataW.trod_string ht h
  refine ⟨s.data.toList,trivial,by simp [Rows.uptoBulk],rfl,fun j y hj => ?_⟩
  cases j with
  | zero => simp only [List.getElem?_cons_zero,Option.some.injEq] at hj; subst hj; exact .str _ _ rfl
  | succ j => simp at hj
theorem rep_byte {t : TypeId} (ht : (Tryz.prog).underlying t = some (.int .u8)) (hs : (Tryz.prog).cellsOf t = 1) : Rep t ZY (fun _ => True) (fun _ => 1) where
 size := fun _ => by rw [hs]; rfl
 opn := fun enc w n cs y h => by
  obtain ⟨m,rfl,rfl,hw⟩ := DataW.trod_int ht h
  have hb : 0 ≤ m ∧ m ≤ 255 := by simpa [Lit.wf,IntKind.min,IntKind.max,IntKind.bits,IntKind.signed] using hw
  refine ⟨UInt8.ofNat m.toNat,trivial,by simp [Rows.uptoBulk],rfl,fun j y hj => ?_⟩
  cases j with
  | zero =>
   simp only [ZY,List.getElem?_cons_zero,Option.some.injEq] at hj
   subst hj
   have : ((UInt8.ofNat m.toNat).toNat : Int) = m := by
    rw [UInt8.toNat_ofNat']
    omega
   rw [this]; exact .int _ _
  | succ j => simp [ZY] at hj
def szL {α : Type} (sz : α → Nat) : List α → Nat
 | [] => 0
 | x :: r => sz x + szL sz r
theorem szL_mem {α : Type} {sz : α → Nat} {x : α} : ∀ {l : List α},x ∈ l → sz x ≤ szL sz l
 | y :: r,h => by
  rcases List.mem_cons.1 h with rfl | h
  ·simp only [szL]; omega
  ·have := szL_mem (sz := sz) h; simp only [szL]; omega
theorem szL_len {α : Type} {sz : α → Nat} (h : ∀ x,1 ≤ sz x) : ∀ (l : List α),l.length ≤ szL sz l
 | [] => Nat.le_refl _
 | x :: r => by have := szL_len h r; have := h x; simp only [szL,List.length_cons]; omega
theorem pick_list {α H : Type} {q : α → Prop} {sz : α → Nat} {R : Nat → α → Prop} : ∀ (elems : List (DataW H × List MemPlace)) (i0 : Nat),(∀ (i : Nat) y,elems[i]? = some y → ∃ x,q x ∧ sz x ≤ Rows.uptoBulk y.1 ∧ R (i0 + i) x) →
  ∃ l : List α,l.length = elems.length ∧ (∀ x,x ∈ l → q x) ∧ szL sz l ≤ Rows.uptoBulkAll (elems.map (·.1)) ∧ ∀ (i : Nat) x,l[i]? = some x → R (i0 + i) x
 | [],_,_ => ⟨[],rfl,fun x h => by simp at h,by simp [szL],fun i x h => by simp at h⟩
 | y :: r,i0,h => by
  obtain ⟨x,h1,h2,h3⟩ := h 0 y rfl
  obtain ⟨l,k1,k2,k3,k4⟩ := pick_list (R := R) r (i0 + 1) (fun i z hz => by rw [show i0 + 1 + i = i0 + (i + 1) from by omega]; exact h (i + 1) z (by simpa using hz))
  refine ⟨x :: l,by simp [k1],fun z hz => ?_,?_,fun i z hz => ?_⟩
  ·rcases List.mem_cons.1 hz with rfl | hz
   ·exact h1
   ·exact k2 z hz
  ·simp only [szL,List.map_cons,Rows.uptoBulkAll]; omega
  ·cases i with
   | zero => simp only [List.getElem?_cons_zero,Option.some.injEq] at hz; subst hz; exact h3
   | succ i => rw [show i0 + (i + 1) = i0 + 1 + i from by omega]; exact k4 i z (by simpa using hz)
theorem cells_some {w : World} {a : Addr} {n : Nat} {cs : List Value} (h : w.cells? 0 a n = some cs) : cs.length = n ∧ ∀ i,i < n → w.cell? (a.add i) = cs[i]? := by
 unfold World.cells? at h
 rw [if_pos (Nat.zero_le _)] at h
 have hl := mapM_some_length h
 refine ⟨by simpa using hl,fun i hi => ?_⟩
 exact mapM_some_get h i i (by simp [hi])
theorem rep_slice {t e : TypeId} {α : Type} {f : α → List AV} {q : α → Prop} {sz : α → Nat} (ht : (Tryz.prog).underlying t = some (.slice e)) (hs : (Tryz.prog).cellsOf t = 1) (he : Rep e f q sz) (hsz : (Tryz.prog).cellsOf e ≠ 0) :
  Rep t (fun l : List α => [AV.sl (l.map f)]) (fun l => ∀ x,x ∈ l → q x) (fun l => szL sz l + 1) where
 size := fun _ => by rw [hs]; rfl
 opn := fun enc w n cs y h => by
  rcases DataW.trod_slice ht h with ⟨rfl,rfl⟩ | ⟨a,len,cap,elems,rest,m,rfl,rfl,rfl,h1,h2,h3,h4,h5,_⟩
  ·refine ⟨[],fun x hx => by simp at hx,by simp [szL,Rows.uptoBulk],rfl,fun j y hj => ?_⟩
   cases j with
   | zero =>
    simp only [List.map_nil,List.getElem?_cons_zero,Option.some.injEq] at hj; subst hj
    exact .sl none 0 0 [] 0 0 0 (fun _ _ => undef) rfl (Nat.le_refl _) (fun row h => by simp at h) (fun h => by omega) (fun i j h => by omega) (fun i row h => by simp at h)
   | succ j => simp at hj
  ·have key : ∀ (i : Nat) y,elems[i]? = some y → ∃ x,q x ∧ sz x ≤ Rows.uptoBulk y.1 ∧ (∃ cs,w.cells? 0 (a.add ((0 + i) * (Tryz.prog).cellsOf e)) ((Tryz.prog).cellsOf e) = some cs ∧ RdC w cs (f x)) := fun i y hy => by
    have hi : i < len := by rw [← h4]; exact (List.getElem?_eq_some_iff.1 hy).1
    have := h5 i hi
    rw [hy] at this
    obtain ⟨cs,k1,k2⟩ := Option.bind_eq_some_iff.1 this
    obtain ⟨x,q1,q2,q3⟩ := he.opn enc w m cs y k2
    exact ⟨x,q1,q2,cs,by rw [Nat.zero_add]; exact k1,q3⟩
   obtain ⟨l,l1,l2,l3,l4⟩ := pick_list (q := q) (sz := sz) (R := fun i x => ∃ cs,w.cells? 0 (a.add (i * (Tryz.prog).cellsOf e)) ((Tryz.prog).cellsOf e) = some cs ∧ RdC w cs (f x)) elems 0 key
   refine ⟨l,l2,by simp only [Rows.uptoBulk]; omega,rfl,fun j y hj => ?_⟩
   cases j with
   | succ j => simp at hj
   | zero =>
    simp only [List.getElem?_cons_zero,Option.some.injEq] at hj
    subst hj
    have hcell : ∀ i j,i < l.length → j < (Tryz.prog).cellsOf e → ∃ (b : a.spot = none ∨ True) (x : α) (cs : List Value),l[i]? = some x ∧ RdC w cs (f x) ∧ w.cell? (a.add (i * (Tryz.prog).cellsOf e) |>.add j) = cs[j]? ∧ j < cs.length := fun i j hi hj => by
     obtain ⟨cs,k1,k2⟩ := l4 i l[i] (List.getElem?_eq_getElem hi)
     obtain ⟨c1,c2⟩ := cells_some k1
     rw [Nat.zero_add] at c2
     exact ⟨.inr trivial,l[i],cs,List.getElem?_eq_getElem hi,k2,c2 j hj,by omega⟩
    by_cases h0 : l.length = 0
    ·have : l = [] := List.eq_nil_of_length_eq_zero h0
     subst this
     simp only [List.map_nil]
     have e0 : len = 0 := by rw [← h4,← l1]; rfl
     subst e0
     exact .sl (some a) 0 cap [] 0 0 0 (fun _ _ => undef) rfl (Nat.zero_le _) (fun row h => by simp at h) (fun h => by omega) (fun i j h => by omega) (fun i row h => by simp at h)
    ·have hspot : a.spot = none ∧ a.block < w.heap.size := by
      obtain ⟨_,x,cs,_,_,c3,c4⟩ := hcell 0 0 (by omega) (by omega)
      rw [List.getElem?_eq_getElem c4] at c3
      have c3' : w.cell? a = some cs[0] := by simpa [Addr.add] using c3
      unfold World.cell? at c3'
      split at c3'
      ·rename_i c e' f' hb
       split at c3'
       ·cases c3'
       ·rename_i hsp
        refine ⟨?_,?_⟩
        ·cases e : a.spot with
         | none => rfl
         | some k => rw [e] at hsp; simp at hsp
        ·exact (Array.getElem?_eq_some_iff.1 hb).1
      ·cases c3'
     obtain ⟨ab,ao,asp⟩ := a
     simp only at hspot
     obtain ⟨rfl,hlt⟩ := hspot
     have hadd : ∀ (i j : Nat),((⟨ab,ao,none⟩ : Addr).add (i * (Tryz.prog).cellsOf e) |>.add j) = ⟨ab,ao + (i * (Tryz.prog).cellsOf e + j),none⟩ := fun i j => by
      rw [add_plain,add_plain,Nat.add_assoc]
     refine .sl (some ⟨ab,ao,none⟩) len cap (l.map f) ((Tryz.prog).cellsOf e) ab ao (fun i j => (w.cell? ⟨ab,ao + (i * (Tryz.prog).cellsOf e + j),none⟩).getD undef) (by simp [l1,h4]) h2 (fun row hr => ?_) (fun _ => ⟨rfl,hlt⟩) (fun i j hi hj => ?_) (fun i row hrow j x hx => ?_)
     ·obtain ⟨x,_,rfl⟩ := List.mem_map.1 hr
      exact he.size x
     ·obtain ⟨_,x,cs,_,_,c3,c4⟩ := hcell i j (by omega) hj
      rw [hadd,List.getElem?_eq_getElem c4] at c3
      rw [c3]; rfl
     ·rw [List.getElem?_map] at hrow
      cases e1 : l[i]? with
      | none => rw [e1] at hrow; cases hrow
      | some x0 =>
       rw [e1] at hrow
       simp only [Option.map_some,Option.some.injEq] at hrow
       subst hrow
       have hi : i < l.length := (List.getElem?_eq_some_iff.1 e1).1
       have hj : j < (Tryz.prog).cellsOf e := by rw [← he.size x0]; exact (List.getElem?_eq_some_iff.1 hx).1
       obtain ⟨_,x1,cs,c1,c2,c3,c4⟩ := hcell i j hi hj
       rw [e1] at c1
       injection c1 with c1
       subst c1
       have := c2.2 j x hx
       rw [hadd,List.getElem?_eq_getElem c4] at c3
       simp only [c3,Option.getD_some]
       rwa [List.getD_eq_getElem?_getD,List.getElem?_eq_getElem c4] at this
theorem rep_i (t : TypeId) (ht : (Tryz.prog).underlying t = some (.int .i64)) (hs : tab.siz t = 1) : Rep t (fun n : Int => [AV.int .i64 n]) (fun _ => True) (fun _ => 1) :=
 ⟨(rep_int ht (ZG hs (by decide))).size,fun enc w n cs y h => by
  obtain ⟨x,_,h2,h3⟩ := (rep_int ht (ZG hs (by decide))).opn enc w n cs y h
  exact ⟨x,trivial,h2,h3⟩⟩
theorem szL_ones {α : Type} : ∀ (l : List α),szL (fun _ => 1) l = l.length
 | [] => rfl
 | x :: r => by simp only [szL,szL_ones r,List.length_cons]; omega
theorem rep_bytes : Rep 24 (fun l : List UInt8 => [AV.sl (l.map ZY)]) (fun _ => True) (fun l => szL (fun _ => 1) l + 1) :=
 ⟨fun _ => by rw [cT24]; rfl,fun enc w n cs y h => by
  obtain ⟨x,_,h2,h3⟩ := (rep_slice (f := ZY) (q := fun _ => True) (sz := (fun _ => 1)) Tryz.underlying24 (cT24) (rep_byte Tryz.underlying5 (cT5)) (by rw [cT5]; decide)).opn enc w n cs y h
  exact ⟨x,trivial,h2,h3⟩⟩
theorem rep_ints : Rep 22 (fun l : List Int => [AV.sl (l.map ZI)]) (fun _ => True) (fun l => szL (fun _ => 1) l + 1) :=
 ⟨fun _ => by rw [cT22]; rfl,fun enc w n cs y h => by
  obtain ⟨x,_,h2,h3⟩ := (rep_slice (f := ZI) (q := fun _ => True) (sz := (fun _ => 1)) Tryz.underlying22 (cT22) (rep_i 3 Tryz.underlying3 rfl) (by rw [cT3]; decide)).opn enc w n cs y h
  exact ⟨x,trivial,h2,h3⟩⟩
def Act.sz (a : Act) : Nat := a.name.length + a.toName.length + a.data.length + 1
def Rec.sz (r : Rec) : Nat := r.act.sz + 1
def Step.sz (x : Step) : Nat := x.path.length + x.toPath.length + x.data.length + 1
theorem rep_act : Rep 26 ZA (fun _ => True) Act.sz where
 size := fun x => by rw [cT26]; rfl
 opn := fun enc w n cs y h => by
  obtain ⟨xs,m,rfl,rfl,hl,hxl,hf⟩ := DataW.trod_struct Tryz.underlying26 h
  obtain ⟨y0,y1,y2,y3,y4,y5,y6,rfl⟩ : ∃ y0 y1 y2 y3 y4 y5 y6,xs = [y0,y1,y2,y3,y4,y5,y6] := by
   have hxl : xs.length = 7 := hxl
   match xs,hxl with
   | [a0,a1,a2,a3,a4,a5,a6],_ => exact ⟨a0,a1,a2,a3,a4,a5,a6,rfl⟩
  have e0 : DataW.trod enc Tryz.prog w 0 (fun _ => true) true m 3 ((cs.drop 0).take ((Tryz.prog).cellsOf 3)) = some y0 := hf 0 _ rfl
  obtain ⟨x0,q0,s0,r0⟩ := (rep_i 3 Tryz.underlying3 rfl).opn enc w m _ _ e0
  rw [cT3] at r0
  have e1 : DataW.trod enc Tryz.prog w 0 (fun _ => true) true m 3 ((cs.drop 1).take ((Tryz.prog).cellsOf 3)) = some y1 := hf 1 _ rfl
  obtain ⟨x1,q1,s1,r1⟩ := (rep_i 3 Tryz.underlying3 rfl).opn enc w m _ _ e1
  rw [cT3] at r1
  have e2 : DataW.trod enc Tryz.prog w 0 (fun _ => true) true m 3 ((cs.drop 2).take ((Tryz.prog).cellsOf 3)) = some y2 := hf 2 _ rfl
  obtain ⟨x2,q2,s2,r2⟩ := (rep_i 3 Tryz.underlying3 rfl).opn enc w m _ _ e2
  rw [cT3] at r2
  have e3 : DataW.trod enc Tryz.prog w 0 (fun _ => true) true m 9 ((cs.drop 3).take ((Tryz.prog).cellsOf 9)) = some y3 := hf 3 _ rfl
  obtain ⟨x3,q3,s3,r3⟩ := (rep_str Tryz.underlying9 (cT9)).opn enc w m _ _ e3
  rw [cT9] at r3
  have e4 : DataW.trod enc Tryz.prog w 0 (fun _ => true) true m 3 ((cs.drop 4).take ((Tryz.prog).cellsOf 3)) = some y4 := hf 4 _ rfl
  obtain ⟨x4,q4,s4,r4⟩ := (rep_i 3 Tryz.underlying3 rfl).opn enc w m _ _ e4
  rw [cT3] at r4
  have e5 : DataW.trod enc Tryz.prog w 0 (fun _ => true) true m 9 ((cs.drop 5).take ((Tryz.prog).cellsOf 9)) = some y5 := hf 5 _ rfl
  obtain ⟨x5,q5,s5,r5⟩ := (rep_str Tryz.underlying9 (cT9)).opn enc w m _ _ e5
  rw [cT9] at r5
  have e6 : DataW.trod enc Tryz.prog w 0 (fun _ => true) true m 24 ((cs.drop 6).take ((Tryz.prog).cellsOf 24)) = some y6 := hf 6 _ rfl
  obtain ⟨x6,q6,s6,r6⟩ := (rep_bytes).opn enc w m _ _ e6
  rw [cT24] at r6
  refine ⟨⟨x0,x1,x2,x3,x4,x5,x6⟩,trivial,?_,?_⟩
  ·simp only [szL_ones] at s6
   simp only [Act.sz,Rows.uptoBulk,Rows.uptoBulkAll,List.map_cons,List.map_nil]; omega
  ·have hl : cs.length = 7 := by rw [hl,cT26]
   have := rdc_cons 0 1 r0 rfl (rdc_cons 1 1 r1 rfl (rdc_cons 2 1 r2 rfl (rdc_cons 3 1 r3 rfl (rdc_cons 4 1 r4 rfl (rdc_cons 5 1 r5 rfl (rdc_cons 6 1 r6 rfl (rdc_nil hl)))))))
   rw [List.drop_zero] at this
   exact this
theorem rep_rec : Rep 56 ZR (fun _ => True) Rec.sz where
 size := fun x => by rw [cT56]; rfl
 opn := fun enc w n cs y h => by
  obtain ⟨xs,m,rfl,rfl,hl,hxl,hf⟩ := DataW.trod_struct Tryz.underlying56 h
  obtain ⟨y0,y1,y2,rfl⟩ : ∃ y0 y1 y2,xs = [y0,y1,y2] := by
   have hxl : xs.length = 3 := hxl
   match xs,hxl with
   | [a0,a1,a2],_ => exact ⟨a0,a1,a2,rfl⟩
  have e0 : DataW.trod enc Tryz.prog w 0 (fun _ => true) true m 26 ((cs.drop 0).take ((Tryz.prog).cellsOf 26)) = some y0 := hf 0 _ rfl
  obtain ⟨x0,q0,s0,r0⟩ := (rep_act).opn enc w m _ _ e0
  rw [cT26] at r0
  have e1 : DataW.trod enc Tryz.prog w 0 (fun _ => true) true m 3 ((cs.drop 7).take ((Tryz.prog).cellsOf 3)) = some y1 := hf 1 _ rfl
  obtain ⟨x1,q1,s1,r1⟩ := (rep_i 3 Tryz.underlying3 rfl).opn enc w m _ _ e1
  rw [cT3] at r1
  have e2 : DataW.trod enc Tryz.prog w 0 (fun _ => true) true m 3 ((cs.drop 8).take ((Tryz.prog).cellsOf 3)) = some y2 := hf 2 _ rfl
  obtain ⟨x2,q2,s2,r2⟩ := (rep_i 3 Tryz.underlying3 rfl).opn enc w m _ _ e2
  rw [cT3] at r2
  refine ⟨⟨x0,x1,x2⟩,trivial,?_,?_⟩
  ·simp only [Rec.sz,Rows.uptoBulk,Rows.uptoBulkAll,List.map_cons,List.map_nil]; omega
  ·have hl : cs.length = 9 := by rw [hl,cT56]
   have := rdc_cons 0 7 r0 rfl (rdc_cons 7 1 r1 rfl (rdc_cons 8 1 r2 rfl (rdc_nil hl)))
   rw [List.drop_zero] at this
   exact this
theorem rep_recs : Rep 27 (fun l : List Rec => [AV.sl (l.map ZR)]) (fun _ => True) (fun l => szL Rec.sz l + 1) :=
 ⟨fun _ => by rw [cT27]; rfl,fun enc w n cs y h => by
  obtain ⟨x,_,h2,h3⟩ := (rep_slice (f := ZR) (q := fun _ => True) (sz := Rec.sz) Tryz.underlying27 (cT27) (rep_rec) (by rw [cT56]; decide)).opn enc w n cs y h
  exact ⟨x,trivial,h2,h3⟩⟩
theorem rep_step : Rep 78 ZX (fun _ => True) Step.sz where
 size := fun x => by rw [cT78]; rfl
 opn := fun enc w n cs y h => by
  obtain ⟨xs,m,rfl,rfl,hl,hxl,hf⟩ := DataW.trod_struct Tryz.underlying78 h
  obtain ⟨y0,y1,y2,y3,y4,y5,rfl⟩ : ∃ y0 y1 y2 y3 y4 y5,xs = [y0,y1,y2,y3,y4,y5] := by
   have hxl : xs.length = 6 := hxl
   match xs,hxl with
   | [a0,a1,a2,a3,a4,a5],_ => exact ⟨a0,a1,a2,a3,a4,a5,rfl⟩
  have e0 : DataW.trod enc Tryz.prog w 0 (fun _ => true) true m 3 ((cs.drop 0).take ((Tryz.prog).cellsOf 3)) = some y0 := hf 0 _ rfl
  obtain ⟨x0,q0,s0,r0⟩ := (rep_i 3 Tryz.underlying3 rfl).opn enc w m _ _ e0
  rw [cT3] at r0
  have e1 : DataW.trod enc Tryz.prog w 0 (fun _ => true) true m 3 ((cs.drop 1).take ((Tryz.prog).cellsOf 3)) = some y1 := hf 1 _ rfl
  obtain ⟨x1,q1,s1,r1⟩ := (rep_i 3 Tryz.underlying3 rfl).opn enc w m _ _ e1
  rw [cT3] at r1
  have e2 : DataW.trod enc Tryz.prog w 0 (fun _ => true) true m 3 ((cs.drop 2).take ((Tryz.prog).cellsOf 3)) = some y2 := hf 2 _ rfl
  obtain ⟨x2,q2,s2,r2⟩ := (rep_i 3 Tryz.underlying3 rfl).opn enc w m _ _ e2
  rw [cT3] at r2
  have e3 : DataW.trod enc Tryz.prog w 0 (fun _ => true) true m 9 ((cs.drop 3).take ((Tryz.prog).cellsOf 9)) = some y3 := hf 3 _ rfl
  obtain ⟨x3,q3,s3,r3⟩ := (rep_str Tryz.underlying9 (cT9)).opn enc w m _ _ e3
  rw [cT9] at r3
  have e4 : DataW.trod enc Tryz.prog w 0 (fun _ => true) true m 9 ((cs.drop 4).take ((Tryz.prog).cellsOf 9)) = some y4 := hf 4 _ rfl
  obtain ⟨x4,q4,s4,r4⟩ := (rep_str Tryz.underlying9 (cT9)).opn enc w m _ _ e4
  rw [cT9] at r4
  have e5 : DataW.trod enc Tryz.prog w 0 (fun _ => true) true m 24 ((cs.drop 5).take ((Tryz.prog).cellsOf 24)) = some y5 := hf 5 _ rfl
  obtain ⟨x5,q5,s5,r5⟩ := (rep_bytes).opn enc w m _ _ e5
  rw [cT24] at r5
  refine ⟨⟨x0,x1,x2,x3,x4,x5⟩,trivial,?_,?_⟩
  ·simp only [szL_ones] at s5
   simp only [Step.sz,Rows.uptoBulk,Rows.uptoBulkAll,List.map_cons,List.map_nil]; omega
  ·have hl : cs.length = 6 := by rw [hl,cT78]
   have := rdc_cons 0 1 r0 rfl (rdc_cons 1 1 r1 rfl (rdc_cons 2 1 r2 rfl (rdc_cons 3 1 r3 rfl (rdc_cons 4 1 r4 rfl (rdc_cons 5 1 r5 rfl (rdc_nil hl))))))
   rw [List.drop_zero] at this
   exact this
theorem rep_steps : Rep 23 (fun l : List Step => [AV.sl (l.map ZX)]) (fun _ => True) (fun l => szL Step.sz l + 1) :=
 ⟨fun _ => by rw [cT23]; rfl,fun enc w n cs y h => by
  obtain ⟨x,_,h2,h3⟩ := (rep_slice (f := ZX) (q := fun _ => True) (sz := Step.sz) Tryz.underlying23 (cT23) (rep_step) (by rw [cT78]; decide)).opn enc w n cs y h
  exact ⟨x,trivial,h2,h3⟩⟩
theorem open_arg {t : TypeId} {α : Type} {f : α → List AV} {q : α → Prop} {sz : α → Nat} (h : Rep t f q sz) {H : Type} {enc : TypeId × Value → H} {w : World} {v : Value} {d : DataW H} {ps : List MemPlace}
  (hd : DataW.Trod enc Tryz.prog w 0 (fun _ => true) true t v d ps) : ∃ x,q x ∧ sz x ≤ Rows.uptoBulk d ∧ RdC w v.cells.toList (f x) := by
 obtain ⟨n,hn⟩ := hd
 exact h.opn enc w n _ _ hn
theorem rdc_one {w : World} {v : Value} {x : AV} (h : RdC w v.cells.toList [x]) (hv : ∀ cs,v ≠ .agg cs) : RdP (fun b => b < w.heap.size) w v x := by
 have := h.2 0 x rfl
 cases v with
 | agg cs => exact absurd rfl (hv cs)
 | _ => exact this
theorem ints_len {l : List Int} (h : szL (fun _ => 1) l ≤ 1048576) : l.length ≤ 100000000 := by rw [szL_ones] at h; omega
theorem steps_ok {l : List Step} (h : szL Step.sz l ≤ 1048576) : StepsOK l :=
 ⟨by have := szL_len (sz := Step.sz) (fun r => by unfold Step.sz; omega) l; omega,fun x hx => by
  have := szL_mem (sz := Step.sz) hx
  have h2 : x.sz = x.path.length + x.toPath.length + x.data.length + 1 := rfl
  exact ⟨by omega,by omega⟩⟩
theorem actFit_of {a : Act} (h : a.sz ≤ 1048576) : ActFit a := ⟨by unfold Act.sz at h; omega,by unfold Act.sz at h; omega,by unfold Act.sz at h; omega⟩
theorem recsFit_of {l : List Rec} (h : szL Rec.sz l ≤ 1048576) : ∀ r,r ∈ l → ActFit r.act := fun r hr => actFit_of (by
 have := szL_mem (sz := Rec.sz) hr
 have h2 : r.sz = r.act.sz + 1 := rfl
 omega)
theorem recs_len {l : List Rec} (h : szL Rec.sz l ≤ 1048576) : l.length ≤ 2000000 := by
 have := szL_len (sz := Rec.sz) (fun r => by unfold Rec.sz; omega) l; omega
theorem smallL_of {l : List Rec} (h : szL Rec.sz l ≤ 1048576) : SmallL l :=
 ⟨by have := recs_len h; omega,fun r hr => by unfold Act.Small; have := (recsFit_of h r hr).data; omega⟩
end La
