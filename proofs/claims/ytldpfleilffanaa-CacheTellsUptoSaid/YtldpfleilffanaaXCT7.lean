/- The law CacheTells is true of the program: its statement CacheTellsUptoSaid, in this seat's Rows. No condition. -/
import Derived.Shelf.SlSortCmp.InsertionK
import Derived.Shelf.SlicesG.Cmp
import Derived.Test.YtldpfleilffanaaProg
import Derived.Shelf.SlSortCmp.WholeK
import Derived.ChangeArms
import Derived.Test.YtldpfleilffanaaXCT6
namespace Go.Proofs
open Go.Shelf
def Try.sortN_ren : Go.Shelf.Ren := ⟨fun | 6 => 106 | 15 => 152 | 14 => 151 | 28 => 169 | 29 => 170 | 20 => 161 | 21 => 162 | 22 => 163 | 23 => 164 | 24 => 165 | 25 => 166 | 26 => 167 | 27 => 168 | 46 => 176 | 47 => 177 | 48 => 178 | 49 => 179 | 50 => 180 | 57 => 182 | n => n, fun | 22 => 39 | 24 => 46 | 25 => 148 | 3 => 3 | 39 => 181 | 0 => 0 | 53 => 205 | 55 => 207 | 4 => 4 | 46 => 199 | 45 => 198 | 50 => 60 | 5 => 5 | 9 => 9 | 66 => 213 | 70 => 112 | 76 => 218 | 77 => 219 | n => n, fun | n => n⟩
theorem Try.sortN : Go.Proofs.SlLaysF0.n6 Try.prog Try.sortN_ren := {
  mixed := by kernel_rfl
  f6 := ⟨Try.f106.name, by decide, Try.func106.trans (congrArg some (by kernel_rfl))⟩
  f14 := ⟨Try.f151.name, by decide, Try.func151.trans (congrArg some (by kernel_rfl))⟩
  f15 := Try.func152.trans (congrArg some (by kernel_rfl))
  f20 := ⟨Try.f161.name, by decide, Try.func161.trans (congrArg some (by kernel_rfl))⟩
  f21 := ⟨Try.f162.name, by decide, Try.func162.trans (congrArg some (by kernel_rfl))⟩
  f22 := ⟨Try.f163.name, by decide, Try.func163.trans (congrArg some (by kernel_rfl))⟩
  f23 := ⟨Try.f164.name, by decide, Try.func164.trans (congrArg some (by kernel_rfl))⟩
  f24 := ⟨Try.f165.name, by decide, Try.func165.trans (congrArg some (by kernel_rfl))⟩
  f25 := ⟨Try.f166.name, by decide, Try.func166.trans (congrArg some (by kernel_rfl))⟩
  f26 := ⟨Try.f167.name, by decide, Try.func167.trans (congrArg some (by kernel_rfl))⟩
  f27 := ⟨Try.f168.name, by decide, Try.func168.trans (congrArg some (by kernel_rfl))⟩
  f28 := Try.func169.trans (congrArg some (by kernel_rfl))
  f29 := Try.func170.trans (congrArg some (by kernel_rfl))
  f46 := ⟨Try.f176.name, by decide, Try.func176.trans (congrArg some (by kernel_rfl))⟩
  f47 := Try.func177.trans (congrArg some (by kernel_rfl))
  f48 := Try.func178.trans (congrArg some (by kernel_rfl))
  f49 := ⟨Try.f179.name, by decide, Try.func179.trans (congrArg some (by kernel_rfl))⟩
  f50 := ⟨Try.f180.name, by decide, Try.func180.trans (congrArg some (by kernel_rfl))⟩
  f57 := ⟨Try.f182.name, by decide, Try.func182.trans (congrArg some (by kernel_rfl))⟩
  t0 := Try.underlying0
  a0 := Try.isAgg0
  z0 := Try.sizeOf0
  v0 := Try.zeroValue0
  t3 := Try.underlying3
  a3 := Try.isAgg3
  z3 := Try.sizeOf3
  v3 := Try.zeroValue3
  t4 := Try.underlying4
  a4 := Try.isAgg4
  z4 := Try.sizeOf4
  v4 := Try.zeroValue4
  t5 := Try.underlying5
  a5 := Try.isAgg5
  z5 := Try.sizeOf5
  v5 := Try.zeroValue5
  t9 := Try.underlying9
  a9 := Try.isAgg9
  z9 := Try.sizeOf9
  v9 := Try.zeroValue9
  t22 := Try.underlying39
  a22 := Try.isAgg39
  z22 := Try.sizeOf39
  v22 := Try.zeroValue39
  t25 := Try.underlying148
  a25 := Try.isAgg148
  z25 := Try.sizeOf148
  v25 := Try.zeroValue148
  t39 := Try.underlying181
  a39 := Try.isAgg181
  z39 := Try.sizeOf181
  v39 := Try.zeroValue181
  t45 := Try.underlying198
  a45 := Try.isAgg198
  z45 := Try.sizeOf198
  v45 := Try.zeroValue198
  t46 := Try.underlying199
  a46 := Try.isAgg199
  z46 := Try.sizeOf199
  v46 := Try.zeroValue199
  t50 := Try.underlying60
  a50 := Try.isAgg60
  z50 := Try.sizeOf60
  v50 := Try.zeroValue60
  t53 := Try.underlying205
  a53 := Try.isAgg205
  z53 := Try.sizeOf205
  v53 := Try.zeroValue205
  t55 := Try.underlying207
  a55 := Try.isAgg207
  z55 := Try.sizeOf207
  v55 := Try.zeroValue207
  t66 := Try.underlying213
  a66 := Try.isAgg213
  z66 := Try.sizeOf213
  v66 := Try.zeroValue213
  t70 := Try.underlying112
  a70 := Try.isAgg112
  z70 := Try.sizeOf112
  v70 := Try.zeroValue112
  t76 := Try.underlying218
  a76 := Try.isAgg218
  z76 := Try.sizeOf218
  v76 := Try.zeroValue218
  t77 := Try.underlying219
  a77 := Try.isAgg219
  z77 := Try.sizeOf219
  v77 := Try.zeroValue219 }
def Try.cmpI_ren : Go.Shelf.Ren := ⟨fun | 5 => 108 | 7 => 153 | n => n, fun | 22 => 3 | 3 => 3 | 4 => 4 | n => n, fun | n => n⟩
theorem Try.cmpI : Go.Proofs.SlLaysC2.n5 Try.prog Try.cmpI_ren := {
  mixed := by kernel_rfl
  f5 := ⟨Try.f108.name, by decide, Try.func108.trans (congrArg some (by kernel_rfl))⟩
  f7 := ⟨Try.f153.name, by decide, Try.func153.trans (congrArg some (by kernel_rfl))⟩
  t3 := Try.underlying3
  a3 := Try.isAgg3
  z3 := Try.sizeOf3
  v3 := Try.zeroValue3
  t4 := Try.underlying4
  a4 := Try.isAgg4
  z4 := Try.sizeOf4
  v4 := Try.zeroValue4
  t22 := Try.underlying3
  a22 := Try.isAgg3
  z22 := Try.sizeOf3
  v22 := Try.zeroValue3 }
end Go.Proofs

namespace La
open Go Go.Eng Go.Proofs
set_option maxRecDepth 10000
set_option linter.unusedSimpArgs false
set_option linter.unusedVariables false

/-- a node's five cells, as they lie -/
structure Five where
  fid : Int
  rest : List Value
  len : rest.length = 4
  one : ∀ v ∈ rest, v.oneCell' = true
instance : Inhabited Five := ⟨⟨0, [.bool false, .bool false, .bool false, .bool false], rfl, by simp [Value.oneCell']⟩⟩
def Five.enc (x : Five) : List Value := .int .i64 x.fid :: x.rest
theorem Five.enc_len (x : Five) : x.enc.length = 5 := by unfold Five.enc; rw [List.length_cons, x.len]
theorem Five.enc_one (x : Five) : ∀ v ∈ x.enc, v.oneCell' = true := by
  intro v hv
  rcases List.mem_cons.1 hv with rfl | hv
  · rfl
  · exact x.one v hv
def fiveCf (x y : Five) : Int := Lib.compareInt x.fid y.fid
theorem ltFive (x y : Five) : ltOf fiveCf x y = decide (x.fid < y.fid) := by
  unfold ltOf fiveCf Lib.compareInt
  by_cases h1 : x.fid < y.fid
  · simp [h1]
  · by_cases h2 : y.fid < x.fid <;> simp [h1, h2]
theorem swoFive : Sort.SWO (ltOf fiveCf) where
  irrefl x := by rw [ltFive]; simp
  trans x y z h1 h2 := by rw [ltFive] at *; simp at *; omega
  ntrans x y z h1 h2 := by rw [ltFive] at *; simp at *; omega

set_option maxHeartbeats 1000000 in
theorem closure107 (a b : Int) (a1 a2 a3 a4 b1 b2 b3 b4 : Value) (W : World) :
    Calls Try.prog 107 #[.agg #[.int .i64 a, a1, a2, a3, a4], .agg #[.int .i64 b, b1, b2, b3, b4]] W fun e w' => e = .returned (.int .i64 (Lib.compareInt a b)) ∧ ∃ q os', w' = Sort.grow (W.drewN q) os' := by
  have hcon := fun W' => AnyG.cmp_Compare_int Try.cmpI a b W'
  change ∀ W', Calls Try.prog 108 _ _ _ at hcon
  generalize Lib.compareInt a b = r at hcon ⊢
  go_enter Try.func107, Try.ntmps107
  go_wp2_with (go_at_call 108; refine (hcon _).mono ?_; rintro e w' ⟨rfl, rfl⟩)
  go_ret
  exact ⟨rfl, 0, _, by rw [Sort.alloc_eq_grow, Sort.alloc_eq_grow, Sort.grow_grow]; rfl⟩

theorem cmpFive (blk off size : Nat) (w : World) : CmpLays Try.prog 107 #[] Five.enc 5 fiveCf blk off size w := by
  intro m os dk _ x y
  obtain ⟨a, l, hl, _⟩ := x
  obtain ⟨b, l', hl', _⟩ := y
  obtain ⟨a1, a2, a3, a4, rfl⟩ : ∃ a1 a2 a3 a4, l = [a1, a2, a3, a4] := by
    match l, hl with
    | [a1, a2, a3, a4], _ => exact ⟨a1, a2, a3, a4, rfl⟩
  obtain ⟨b1, b2, b3, b4, rfl⟩ : ∃ b1 b2 b3 b4, l' = [b1, b2, b3, b4] := by
    match l', hl' with
    | [a1, a2, a3, a4], _ => exact ⟨a1, a2, a3, a4, rfl⟩
  exact closure107 a b a1 a2 a3 a4 b1 b2 b3 b4 _

theorem lift_perm {α β : Type} {f : β → α} {d' d : List α} (h : d'.Perm d) : ∀ z : List β, z.map f = d → ∃ z' : List β, z'.Perm z ∧ z'.map f = d' := by
  induction h with
  | nil => intro z hz; exact ⟨z, .refl _, hz⟩
  | cons x _ ih =>
    intro z hz
    obtain ⟨q, z0, rfl, rfl, hz0⟩ := List.map_eq_cons_iff.1 hz
    obtain ⟨z', h1, h2⟩ := ih z0 hz0
    exact ⟨q :: z', h1.cons q, by simp [h2]⟩
  | swap x y l =>
    intro z hz
    obtain ⟨q, z0, rfl, rfl, hz0⟩ := List.map_eq_cons_iff.1 hz
    obtain ⟨q2, z1, rfl, rfl, hz1⟩ := List.map_eq_cons_iff.1 hz0
    exact ⟨q2 :: q :: z1, .swap _ _ _, by simp [hz1]⟩
  | trans _ _ ih1 ih2 =>
    intro z hz
    obtain ⟨z1, h1, h2⟩ := ih2 z hz
    obtain ⟨z2, h3, h4⟩ := ih1 z1 h2
    exact ⟨z2, h3.trans h1, h4⟩
end La

namespace La
open Go Go.Eng Go.Proofs
set_option maxRecDepth 10000
set_option linter.unusedSimpArgs false
set_option linter.unusedVariables false

theorem five_of {S : Nat → Prop} {w : World} (f : Nat → Value) (n : Node) (h : ∀ j a, (nodeRow n)[j]? = some a → RdP S w (f j) a) :
    ∃ x : Five, x.fid = n.fid ∧ x.enc = [f 0, f 1, f 2, f 3, f 4] := by
  have h0 := h 0 _ rfl
  have h1 := h 1 _ rfl
  have h2 := h 2 _ rfl
  have h3 := h 3 _ rfl
  have h4 := h 4 _ rfl
  have o1 : (f 1).oneCell' = true := by generalize f 1 = v at h1; cases h1; rfl
  have o2 : (f 2).oneCell' = true := by generalize f 2 = v at h2; cases h2; rfl
  have o3 : (f 3).oneCell' = true := by generalize f 3 = v at h3; cases h3; rfl
  have o4 : (f 4).oneCell' = true := by generalize f 4 = v at h4; cases h4; rfl
  refine ⟨⟨n.fid, [f 1, f 2, f 3, f 4], rfl, ?_⟩, rfl, ?_⟩
  · intro v hv
    simp at hv
    rcases hv with rfl | rfl | rfl | rfl <;> assumption
  · unfold Five.enc
    have : f 0 = .int .i64 n.fid := by generalize f 0 = v at h0; cases h0; rfl
    rw [this]
theorem nodeRow_len (n : Node) : (nodeRow n).length = 5 := rfl
theorem rd_pure {μ : Nat → Option Nat} {S : Nat → Prop} {w : World} {v : Value} {n : Node} {j : Nat} {a : AV} (ha : (nodeRow n)[j]? = some a) (h : Rd μ S w v a) : RdP S w v a := by
  have hj : j < 5 := by
    have := (List.getElem?_eq_some_iff.1 ha).1
    rwa [nodeRow_len] at this
  match j, hj, ha with
  | 0, _, ha => cases ha; cases h; assumption
  | 1, _, ha => cases ha; cases h; assumption
  | 2, _, ha => cases ha; cases h; assumption
  | 3, _, ha => cases ha; cases h; assumption
  | 4, _, ha => cases ha; cases h; assumption

set_option maxHeartbeats 1000000 in
theorem sort_held (id : Nat) (hid : id < 5000) (G Y N : Nat → Nat) (l l' : List Node) (h0 : 0 < l.length) (hlen : l.length ≤ 100000000)
    (hu : ∀ p : List Node, p.Perm l → p.Pairwise (fun a b => a.fid ≤ b.fid) → p = l') :
    FnOK Try.prog 106 [.osl id 5 0 l.length, .fn 107 []] ([(id, .cells 46 5 (l.map nodeRow))] ++ pins [id] G Y N) (fun r H => r = .tup [] ∧ ∀ i b, hget ([(id, .cells 46 5 (l'.map nodeRow))] ++ pins [id] G Y N) i = some b → hget H i = some b) := by
  intro R0 μ w0 vs hvl hargs hH hR
  obtain ⟨v0, v1, rfl⟩ : ∃ v0 v1, vs = [v0, v1] := by
    match vs, hvl with
    | [a, b], _ => exact ⟨a, b, rfl⟩
  have hv0 : Rd μ R0 w0 v0 (.osl id 5 0 l.length) := hargs 0 _ rfl
  have hv1 : Rd μ R0 w0 v1 (.fn 107 []) := hargs 1 _ rfl
  clear hargs hvl
  have e1 : v1 = .func (.func 107) #[] #[] := by
    cases hv1 with
    | pure h =>
      cases h with
      | fn f vals caps hl hr =>
        have : vals = #[] := Array.eq_empty_of_size_eq_zero (by simpa using hl)
        rw [this]
    | fn f vals caps hl hr =>
      have : vals = #[] := Array.eq_empty_of_size_eq_zero (by simpa using hl)
      rw [this]
  subst e1
  have hget1 : ∀ (R : List (List AV)) id' b, hget ([(id, Blk.cells 46 5 R)] ++ pins [id] G Y N) id' = some b → (id' = id ∧ b = .cells 46 5 R) ∨ (id' = 5000 + id ∧ b = .pin id (G id) (Y id) (N id)) := by
    intro R id' b h
    by_cases h1 : id' = id
    · subst h1; simp [hget, pins] at h; exact .inl ⟨rfl, h.symm⟩
    · by_cases h2 : id' = 5000 + id
      · subst h2; simp [hget, pins] at h; exact .inr ⟨rfl, h.symm⟩
      · simp [hget, pins, Ne.symm h1, Ne.symm h2] at h
  have hget2 : ∀ (R : List (List AV)), hget ([(id, Blk.cells 46 5 R)] ++ pins [id] G Y N) id = some (.cells 46 5 R) := by
    intro R; simp [hget]
  have hget3 : ∀ (R : List (List AV)), hget ([(id, Blk.cells 46 5 R)] ++ pins [id] G Y N) (5000 + id) = some (.pin id (G id) (Y id) (N id)) := by
    intro R; simp [hget, pins]
  have hb := hH.blk id _ (hget2 _)
  have hpin := hH.blk (5000 + id) _ (hget3 _)
  rcases hb with ⟨hb, _⟩ | ⟨g, c, hg, hgw, hsz, _, hrd⟩
  · simp at hb; subst hb; simp at h0
  have hv0' : ∃ cap, v0 = .slice (some ⟨g, 0, none⟩) l.length cap := by
    cases hv0 with
    | pure h => cases h
    | osl id size off len cap A hc h =>
      rcases h with ⟨h, _⟩ | ⟨g', e, n, hg', rfl, _, _⟩
      · omega
      · rw [hg] at hg'; injection hg' with hg'; subst hg'
        exact ⟨cap, by simp⟩
  obtain ⟨cap, rfl⟩ := hv0'
  clear hv0 hv1
  have hgd := hH.dom id g hg
  simp only [List.length_map] at hsz
  -- the five cells of each
  have hF : ∀ i : Fin l.length, ∃ x : Five, x.fid = l[i].fid ∧ x.enc = [c.getD (i.1 * 5 + 0) undef, c.getD (i.1 * 5 + 1) undef, c.getD (i.1 * 5 + 2) undef, c.getD (i.1 * 5 + 3) undef, c.getD (i.1 * 5 + 4) undef] ∧
      ∀ j a, (nodeRow l[i])[j]? = some a → RdP R0 w0 (x.enc.getD j undef) a := by
    intro i
    have hk : ∀ j a, (nodeRow l[i])[j]? = some a → RdP R0 w0 (c.getD (i.1 * 5 + j) undef) a := fun j a ha =>
      rd_pure ha (hrd i.1 (nodeRow l[i]) (by simp) j a ha)
    obtain ⟨x, hx, hxe⟩ := five_of (fun j => c.getD (i.1 * 5 + j) undef) l[i] hk
    refine ⟨x, hx, hxe, fun j a ha => ?_⟩
    have hj : j < 5 := by
      have := (List.getElem?_eq_some_iff.1 ha).1
      rwa [nodeRow_len] at this
    have := hk j a ha
    rw [hxe]
    match j, hj, this with
    | 0, _, h => exact h
    | 1, _, h => exact h
    | 2, _, h => exact h
    | 3, _, h => exact h
    | 4, _, h => exact h
  obtain ⟨F, hF⟩ := Classical.axiomOfChoice hF
  have hds : (Array.ofFn F).size = l.length := Array.size_ofFn
  have hdg : ∀ i (hi : i < l.length), (Array.ofFn F)[i]! = F ⟨i, hi⟩ := fun i hi => by
    rw [getElem!_pos _ i (by rw [hds]; exact hi), Array.getElem_ofFn]
  generalize hd : Array.ofFn F = d at hds hdg
  have hold : Sort.HoldsK Five.enc 5 w0 g 0 d := by
    intro t ht
    rw [Sort.size_flatK, hds] at ht
    have hi : t / 5 < l.length := by omega
    have hc : t < c.size := by omega
    have e : t = t / 5 * 5 + t % 5 := by omega
    rw [Sort.get_flatK _ _ _ _ (by rw [hds]; exact ht), hdg _ hi, (hF ⟨t / 5, hi⟩).2.1, Nat.zero_add]
    constructor
    · have : w0.cell? ⟨g, t, none⟩ = some (c.getD t undef) := by
        simp [World.cell?, hgw, hc]
      rw [this]
      have hm : t % 5 < 5 := Nat.mod_lt _ (by omega)
      generalize t % 5 = m at e hm
      simp only
      match m, hm with
      | 0, _ => rw [← e]; rfl
      | 1, _ => rw [← e]; rfl
      | 2, _ => rw [← e]; rfl
      | 3, _ => rw [← e]; rfl
      | 4, _ => rw [← e]; rfl
    · simp [World.frozen?, hgw]
  have eg : ∀ args w, (callFunc 107 args).run Try.prog w = .ok (.enter 107 args) w := enters_of Try.func107 (by kernel_rfl) rfl
  have hcon := AnyQ.slices_SortFunc Try.sortN 5 Try.isAgg46 Try.sizeOf46 Five.enc Five.enc_len Five.enc_one fiveCf swoFive 107 #[] g 0 cap d w0 eg (cmpFive g 0 d.size w0) hold hgd.2.2 (by rw [hds]; omega)
  rw [hds] at hcon
  refine hcon.mono ?_
  rintro e W ⟨rfl, d', n, os, hp, hs, hW⟩
  have hps : d'.size = l.length := hp.1.trans hds
  -- the world behind it
  have hWh : W.heap = (w0.heap.modify g (Sort.onCells (Sort.putCells (fun v => v) 0 (Sort.flatK Five.enc 5 d')))) ++ os := by rw [hW]; rfl
  have hout : ∀ b, b < w0.heap.size → b ≠ g → W.heap[b]? = w0.heap[b]? := fun b hb hne => by
    rw [hWh, Array.getElem?_append_left (by simpa using hb), Array.getElem?_modify, if_neg (Ne.symm hne)]
  have hin : W.heap[g]? = some (.cells (Sort.putCells (fun v => v) 0 (Sort.flatK Five.enc 5 d') c) 46 (0, 0)) := by
    rw [hWh, Array.getElem?_append_left (by simpa using hgd.2.2), Array.getElem?_modify, if_pos rfl, hgw]; rfl
  have hcs : (Sort.putCells (fun v => v) 0 (Sort.flatK Five.enc 5 d') c).size = c.size := by simp [Sort.putCells]
  have hwsz : w0.heap.size ≤ W.heap.size := by rw [hWh]; simp
  -- the nodes behind it
  have hz1 : (List.ofFn fun i : Fin l.length => (F i, l[i.1]'i.2)).map (·.1) = d.toList := by
    rw [← hd, Array.toList_ofFn, List.map_ofFn]; rfl
  have hz2 : (List.ofFn fun i : Fin l.length => (F i, l[i.1]'i.2)).map (·.2) = l := by
    rw [List.map_ofFn]
    refine List.ext_getElem (by simp) fun i h1 h2 => by simp
  have hzQ : ∀ q ∈ (List.ofFn fun i : Fin l.length => (F i, l[i.1]'i.2)), q.1.fid = q.2.fid ∧ ∀ j a, (nodeRow q.2)[j]? = some a → RdP R0 w0 (q.1.enc.getD j undef) a := by
    intro q hq
    obtain ⟨i, rfl⟩ := List.mem_ofFn.1 hq
    exact ⟨(hF i).1, (hF i).2.2⟩
  generalize (List.ofFn fun i : Fin l.length => (F i, l[i.1]'i.2)) = z at hz1 hz2 hzQ
  have hperm : d'.toList.Perm d.toList := by
    have := hp.2.2
    have a1 : d'.extract 0 l.length = d' := by rw [← hps]; simp
    have a2 : d.extract 0 l.length = d := by rw [← hds]; simp
    rwa [a1, a2] at this
  obtain ⟨z', hzp, hz'⟩ := lift_perm hperm z hz1
  have hzl : z'.length = l.length := by rw [hzp.length_eq, ← hz2, List.length_map]
  have hzi : ∀ i (hi : i < z'.length), d'[i]! = (z'[i]).1 := fun i hi => by
    have : d'.toList[i]? = some (z'[i]).1 := by rw [← hz', List.getElem?_map, List.getElem?_eq_getElem hi]; rfl
    rw [getElem!_pos _ i (by rw [hps]; omega)]
    rw [Array.getElem?_toList] at this
    rw [Array.getElem?_eq_getElem (by rw [hps]; omega)] at this
    injection this
  have hQ' : ∀ q ∈ z', q.1.fid = q.2.fid ∧ ∀ j a, (nodeRow q.2)[j]? = some a → RdP R0 w0 (q.1.enc.getD j undef) a := fun q hq => hzQ q (hzp.mem_iff.1 hq)
  have hpl : z'.map (·.2) = l' := by
    refine hu _ (by rw [← hz2]; exact hzp.map _) ?_
    rw [List.pairwise_iff_getElem]
    intro i j hi hj hij
    simp only [List.length_map] at hi hj
    simp only [List.getElem_map]
    have := hs i j (Nat.zero_le _) hij (by omega)
    rw [ltFive, hzi i hi, hzi j hj, (hQ' _ (List.getElem_mem hi)).1, (hQ' _ (List.getElem_mem hj)).1] at this
    simpa using this
  have hl' : l'.length = l.length := by rw [← hpl, List.length_map, hzl]
  have hne : ∀ b, R0 b → b ≠ g := fun b hb e => hgd.2.1 (e ▸ hb)
  have hsame : SameOn R0 w0 W := fun b hb => hout b (hR b hb) (hne b hb)
  refine ⟨_, .tup [], [(id, .cells 46 5 (l'.map nodeRow))] ++ pins [id] G Y N, μ, R0, rfl, ⟨rfl, fun _ _ h => h⟩, .tup #[] [] rfl (by simp), ⟨?_, ?_, hH.inj, ?_⟩, ?_, fun id' g' h => .inl ⟨id', h⟩, fun b hb => ⟨Nat.lt_of_lt_of_le (hR b hb) hwsz, .inl hb⟩⟩
  · intro id' b h
    rcases hget1 _ id' b h with ⟨rfl, rfl⟩ | ⟨rfl, rfl⟩
    rotate_left
    · obtain ⟨q1, q2, q3⟩ := hpin
      refine ⟨q1, q2, ?_⟩
      rw [← q3]
      have hgg : g = G id := by rw [hg] at q2; injection q2
      rw [← hgg]
      unfold rowSize
      rw [hin, hgw]
      simp only [hcs]
    refine .inr ⟨g, _, hg, hin, by rw [hcs, List.length_map, hl']; exact hsz, fun row hrow => ?_, ?_⟩
    · obtain ⟨n, _, rfl⟩ := List.mem_map.1 hrow
      rfl
    · intro i row hrow j x hx
      obtain ⟨n, hn, rfl⟩ := List.getElem?_map .. ▸ hrow |> Option.map_eq_some_iff.1
      have hj : j < 5 := by
        have := (List.getElem?_eq_some_iff.1 hx).1
        rwa [nodeRow_len] at this
      have hi : i < l'.length := (List.getElem?_eq_some_iff.1 hn).1
      have hiz : i < z'.length := by omega
      have hnz : (z'[i]).2 = n := by
        rw [← hpl, List.getElem?_map, List.getElem?_eq_getElem hiz] at hn
        injection hn
      have hq := (hQ' _ (List.getElem_mem hiz)).2 j x (by rw [hnz]; exact hx)
      have hval : (Sort.putCells (fun v => v) 0 (Sort.flatK Five.enc 5 d') c).getD (i * 5 + j) undef = (z'[i]).1.enc.getD j undef := by
        have hlt : i * 5 + j < c.size := by omega
        have hlt2 : i * 5 + j < d'.size * 5 := by rw [hps]; omega
        rw [Array.getD_eq_getD_getElem?]
        simp only [Sort.putCells, Array.getElem?_mapIdx, Array.getElem?_eq_getElem hlt, Option.map_some, Option.getD_some, Nat.sub_zero, Sort.size_flatK]
        rw [if_pos ⟨Nat.zero_le _, by omega⟩, Sort.get_flatK _ _ _ _ hlt2]
        have q1 : (i * 5 + j) / 5 = i := by omega
        have q2 : (i * 5 + j) % 5 = j := by omega
        rw [q1, q2, hzi i hiz]
        have hel := Five.enc_len (z'[i]).1
        rw [getElem!_pos _ j (by omega), List.getD_eq_getElem?_getD, List.getElem?_eq_getElem (by omega)]
        rfl
      rw [hval]
      exact .pure (hq.mono hsame fun _ h => h)
  · intro id' g' h
    have := hH.dom id' g' h
    obtain ⟨⟨b, hb⟩, h2, h3⟩ := this
    rcases hget1 _ id' b hb with ⟨he, _⟩ | ⟨he, _⟩
    · exact ⟨⟨_, by rw [he]; exact hget2 _⟩, h2, Nat.lt_of_lt_of_le h3 hwsz⟩
    · rw [he, hpin.1] at h; cases h
  · exact ⟨fun b hb => ⟨Nat.lt_of_lt_of_le (hH.glob.1 b hb).1 hwsz, (hH.glob.1 b hb).2⟩, glb.same w0 W (fun b hb => hout b (hH.glob.1 b hb).1 (fun e => (hH.glob.1 b hb).2 ⟨id, e ▸ hg⟩)) hH.glob.2⟩
  · exact ⟨by rw [hW]; rfl, by rw [hW]; rfl, by rw [hW]; rfl, hwsz, fun b hb hA => hout b hb (fun e => hA ⟨id, e ▸ hg⟩)⟩
end La

namespace La
open Go Go.Eng Go.Proofs
set_option maxRecDepth 10000
set_option linter.unusedSimpArgs false
set_option linter.unusedVariables false

theorem uniq_sorted : ∀ p q : List Node, p.Pairwise (fun a b => a.fid < b.fid) → q.Pairwise (fun a b => a.fid < b.fid) → (∀ x, x ∈ p ↔ x ∈ q) → p = q
  | [], q, _, _, h => by
    cases q with
    | nil => rfl
    | cons b q => exact absurd ((h b).2 List.mem_cons_self) (by simp)
  | a :: p, [], _, _, h => absurd ((h a).1 List.mem_cons_self) (by simp)
  | a :: p, b :: q, hp, hq, h => by
    obtain ⟨hp1, hp2⟩ := List.pairwise_cons.1 hp
    obtain ⟨hq1, hq2⟩ := List.pairwise_cons.1 hq
    have e : a = b := by
      rcases List.mem_cons.1 ((h a).1 List.mem_cons_self) with h1 | h1
      · exact h1
      · rcases List.mem_cons.1 ((h b).2 List.mem_cons_self) with h2 | h2
        · exact h2.symm
        · have := hp1 b h2; have := hq1 a h1; omega
    subst e
    rw [uniq_sorted p q hp2 hq2 fun x => ⟨fun hx => ?_, fun hx => ?_⟩]
    · rcases List.mem_cons.1 ((h x).1 (List.mem_cons_of_mem _ hx)) with h1 | h1
      · have := hp1 x hx; rw [h1] at this; omega
      · exact h1
    · rcases List.mem_cons.1 ((h x).2 (List.mem_cons_of_mem _ hx)) with h1 | h1
      · have := hq1 x hx; rw [h1] at this; omega
      · exact h1
theorem sortN_rise (l : List Node) : (sortN l).Pairwise fun a b => a.fid < b.fid := by
  unfold sortN
  rw [List.pairwise_map]
  refine List.Pairwise.imp_of_mem ?_ (mapD_rise l)
  intro a b ha hb h
  rw [mapDU_key l _ a ha, mapDU_key l _ b hb]; exact h
theorem mapDU_has (l : List Node) (hd : ∀ i, i < l.length → ∀ j, j < i → fidN l j ≠ fidN l i) : ∀ i, i ≤ l.length → ∀ j, j < i → (fidN l j, l.getD j default) ∈ mapDU l i
  | 0, _, _, h => by omega
  | i + 1, hi, j, hj => by
    refine (mem_mput (mapDU_rise l i) _ _).2 ?_
    by_cases e : j = i
    · subst e; exact .inl ⟨rfl, rfl⟩
    · exact .inr ⟨hd i (by omega) j (by omega), mapDU_has l hd i (by omega) j (by omega)⟩
theorem sortN_mem (l : List Node) (hd : ∀ i, i < l.length → ∀ j, j < i → fidN l j ≠ fidN l i) (x : Node) : x ∈ sortN l ↔ x ∈ l := by
  constructor
  · intro h
    obtain ⟨p, hp, rfl⟩ := List.mem_map.1 h
    exact mapDU_mem l _ (Nat.le_refl _) p hp
  · intro h
    obtain ⟨i, hi, rfl⟩ := List.getElem_of_mem h
    refine List.mem_map.2 ⟨(fidN l i, l.getD i default), mapDU_has l hd _ (Nat.le_refl _) i hi, ?_⟩
    rw [List.getD_eq_getElem?_getD, List.getElem?_eq_getElem hi]; rfl
theorem sortN_uniq (l : List Node) (hd : ∀ i, i < l.length → ∀ j, j < i → fidN l j ≠ fidN l i) (p : List Node) (hp : p.Perm l) (hs : p.Pairwise fun a b => a.fid ≤ b.fid) : p = sortN l := by
  have hne : l.Pairwise fun a b => a.fid ≠ b.fid := by
    rw [List.pairwise_iff_getElem]
    intro i j hi hj hij
    have := hd j hj i hij
    unfold fidN at this
    rw [List.getD_eq_getElem?_getD, List.getD_eq_getElem?_getD, List.getElem?_eq_getElem hi, List.getElem?_eq_getElem hj] at this
    exact this
  have hnp : p.Pairwise fun a b => a.fid ≠ b.fid := (hp.pairwise_iff (fun h => Ne.symm h)).2 hne
  refine uniq_sorted _ _ ?_ (sortN_rise l) fun x => by rw [sortN_mem l hd, hp.mem_iff]
  rw [List.pairwise_iff_getElem] at *
  intro i j hi hj hij
  have h1 := hs i j hi hj hij
  have h2 := hnp i j hi hj hij
  omega
theorem sortN_len (l : List Node) (hd : ∀ i, i < l.length → ∀ j, j < i → fidN l j ≠ fidN l i) : (sortN l).length = l.length := by
  have h1 := List.mergeSort_perm l (fun a b => decide (a.fid ≤ b.fid))
  have h2 := List.pairwise_mergeSort (le := fun a b : Node => decide (a.fid ≤ b.fid)) (by intro a b c; simp; omega) (by intro a b; simp; omega) l
  rw [← sortN_uniq l hd _ h1 (h2.imp (by simp))]
  exact h1.length_eq

theorem len64_zero : FnOK Try.prog 170 [.int .u64 0] [] (fun r _ => r = .int .i64 0) := by
  refine fn_of_cwW tabOK (Go.Proofs.Try.func170) rfl (fun C => ?_)
  simp only [Go.Proofs.Try.ntmps170, Go.Proofs.Try.results170, go_sem]
  refine cw_go tabOK 99 (by simp only [go_sem]; try exact rfl) (by simp [go_sem]) ?_
  refine cw_condF (by simp only [go_sem]; try exact rfl) trivial (by simp) ?_
  refine cw_go tabOK 99 (by simp only [go_sem]; try exact rfl) (by simp [go_sem]) ?_
  refine cw_condF (by simp only [go_sem]; try exact rfl) trivial (by simp) ?_
  refine cw_go tabOK 99 (by simp only [go_sem]; try exact rfl) (by simp [go_sem]) ?_
  refine cw_condF (by simp only [go_sem]; try exact rfl) trivial (by simp) ?_
  refine cw_goR 99 (by simp only [go_sem]; try exact rfl) ?_
  refine cw_runN tabOK 3 (by simp only [go_sem]; exact rfl) (by simp only [go_sem]; exact rfl) (by simp only [go_sem]; try exact rfl) (by simp [go_sem]) ?_
  refine cw_runN tabOK 1 (by simp only [go_sem]; exact rfl) (by simp only [go_sem]; exact rfl) (by simp only [go_sem]; try exact rfl) ?_ ?_
  · decide
  refine cw_go tabOK 99 (by simp only [go_sem]; try exact rfl) (by simp [go_sem]) ?_
  refine cw_ret ⟨_, _, (by simp only [go_sem]; try exact rfl), by simp [go_sem], _, .inr (.inl rfl), ?_⟩
  rfl
theorem len_zero : FnOK Try.prog 152 [.int .u64 0] [] (fun r _ => r = .int .i64 0) := by
  refine fn_of_cwW tabOK (Go.Proofs.Try.func152) rfl (fun C => ?_)
  simp only [Go.Proofs.Try.ntmps152, Go.Proofs.Try.results152, go_sem]
  refine cw_go tabOK 99 (by simp only [go_sem]; try exact rfl) (by simp [go_sem]) ?_
  refine cw_condF (by simp only [go_sem]; try exact rfl) trivial (rfl) ?_
  refine cw_go tabOK 99 (by simp only [go_sem]; try exact rfl) (by simp [go_sem]) ?_
  refine cw_call rfl rfl (by simp only [go_sem]; try exact rfl) (by simp [go_sem]) ⟨_, Go.Proofs.Try.func170, by kernel_rfl, rfl⟩ (by simp [go_sem]) (len64_zero) (by simp [go_sem]) (by simp only [go_sem]; exact rfl) ?_
  refine cw_go tabOK 99 (by simp only [go_sem]; try exact rfl) (by simp [go_sem]) ?_
  refine cw_ret ⟨_, _, (by simp only [go_sem]; try exact rfl), by simp [go_sem], _, .inr (.inl rfl), ?_⟩
  rfl
theorem sort_zero (l : List Node) (hl : UpN l) (hlen : l.length = 0) : FnOK Try.prog 106 [.sl (l.map nodeRow), .fn 107 []] [] (fun r _ => r = .tup []) := by
  have hp := pdq_up l hl (by omega) 0
  rw [hlen] at hp
  refine fn_of_cwW tabOK (Go.Proofs.Try.func106) rfl (fun C => ?_)
  simp only [Go.Proofs.Try.ntmps106, Go.Proofs.Try.results106, go_sem]
  refine cw_go tabOK 99 (by simp only [go_sem]; try exact rfl) (by simp [go_sem]) ?_
  have hu : IntKind.u64.wrap ((0 : Nat) : Int) = 0 := by decide
  rw [hlen, hu]
  refine cw_call rfl rfl (by simp only [go_sem]; try exact rfl) (by simp [go_sem]) ⟨_, Go.Proofs.Try.func152, by kernel_rfl, rfl⟩ (by simp [go_sem]) (len_zero) (by simp [go_sem]) (by simp only [go_sem]; exact rfl) ?_
  refine cw_go tabOK 99 (by simp only [go_sem]; try exact rfl) (by simp [go_sem]) ?_
  refine cw_call rfl rfl (by simp only [go_sem]; try exact rfl) (by simp [go_sem]) ⟨_, Go.Proofs.Try.func151, by kernel_rfl, rfl⟩ (by simp [go_sem]) (hp) (by simp [go_sem]) (by simp only [go_sem]; exact rfl) ?_
  refine cw_go tabOK 99 (by simp only [go_sem]; try exact rfl) (by simp [go_sem]) ?_
  refine cw_nil ⟨_, _, rfl, trivial, .tup [], .inr (.inl rfl), rfl⟩

theorem ctree_ok (l : List Kept) (hl : SmallK l) (hu : unlikeB l = true) : FnOK Try.prog 46 [.sl (l.map keptRow)] [] (fun r _ => r = .sl ((sortN (nodesK l)).map nodeRow)) := by
  have hnl : (nodesK l).length = l.length := by simp [nodesK]
  have hns : Small (nodesK l) := nodesK_small hl
  have hd : ∀ i, i < (nodesK l).length → ∀ j, j < i → fidN (nodesK l) j ≠ fidN (nodesK l) i := by
    have hU : UnlikeN l l.length := of_decide_eq_true hu
    intro i hi j hj
    have h1 := hU i (by omega) j hj
    have hf : ∀ i, i < l.length → fidN (nodesK l) i = fidK l i := fun i hi => by
      unfold fidN fidK nodesK
      rw [List.getD_eq_getElem?_getD, List.getD_eq_getElem?_getD, List.getElem?_map, List.getElem?_eq_getElem hi]; rfl
    rw [hf j (by omega), hf i (by omega)]; exact h1
  have hsl := sortN_len _ hd
  have hlen := hl.len
  refine fn_of_cwW tabOK (Go.Proofs.Try.func46) rfl (fun C => ?_)
  simp only [Go.Proofs.Try.ntmps46, Go.Proofs.Try.results46, go_sem]
  refine cw_go tabOK 99 (by simp only [go_sem]; try exact rfl) (by simp [go_sem]) ?_
  refine cw_loopS (fun i : Nat => i ≤ l.length) (fun i => l.length - i) (fun i => [(3, .osl 16 5 0 i), (5, .any), (8, .int .i64 i), (9, .any), (10, .any), (11, .any), (12, .any), (13, .any), (14, .any), (15, .any), (16, .any), (17, .any)])
    (fun i => [(16, .cells 46 5 (((nodesK l).take i).map nodeRow))]) 0 (by omega) ?_ fun i hi => ?_
  · simp only [go_sem]
    exact le_sub (by simp [go_sem]) (by simp [go_sem]) (by simp only [go_sem])
  simp only [go_sem]
  refine cw_go tabOK 99 (by simp only [go_sem]; try exact rfl) (by simp [go_sem]) ?_
  refine cw_cond (by simp only [go_sem]; try exact rfl) trivial (fun h => ?_) (fun h => ?_)
  · have hlt : i < l.length := by simp at h; omega
    have hg : (l.map keptRow).getD i [] = keptRow (l.getD i default) := Fam.getD hlt
    have hs := nodesK_take l i hlt
    generalize l.getD i default = n at hg hs
    have ht : List.take i (List.map nodeRow (List.take i (nodesK l))) = List.map nodeRow (List.take i (nodesK l)) := List.take_of_length_le (by simp; omega)
    have hw : IntKind.i64.wrap ((i : Int) + 1) = (i : Int) + 1 := wrap_small (by omega) (by omega)
    refine cw_go tabOK 99 (by simp only [go_sem, hg, keptRow, ht, hw]; try exact rfl) ?_ ?_
    · simp [hlt, keptRow, rowsOf]; omega
    refine cw_back ⟨i + 1, by omega, by omega, le_sub ?_ ?_ ?_⟩
    · simp [go_sem]
    · simp [go_sem, hs, nodeRow]
    · simp only [go_sem]
  · have e : i = l.length := by simp at h; omega
    subst e
    refine cw_go tabOK 99 (by simp only [go_sem]; try exact rfl) (by simp [go_sem]) ?_
    refine cw_freeze 16 rfl (nodeRow_pure _) ?_
    rw [← hnl, List.take_length]
    simp only [go_sem]
    by_cases h0 : (nodesK l).length = 0
    · refine cw_call rfl rfl (by simp only [go_sem]; try exact rfl) (by simp [go_sem]) ⟨_, Go.Proofs.Try.func86, by kernel_rfl, rfl⟩ (by simp [go_sem]) (own_ok _ hns) (by simp [go_sem]) (by simp only [go_sem]; exact rfl) ?_
      refine cw_go tabOK 99 (by simp only [go_sem]; try exact rfl) (by simp [go_sem]) ?_
      have hnil : nodesK l = [] := List.eq_nil_of_length_eq_zero h0
      refine cw_call rfl rfl (by simp only [go_sem]; try exact rfl) (by simp [go_sem]) ⟨_, Go.Proofs.Try.func106, by kernel_rfl, rfl⟩ (by simp [go_sem]) (sort_zero _ (by intro i h1 h2; omega) h0) (by simp [go_sem]) (by simp only [go_sem]; exact rfl) ?_
      refine cw_go tabOK 99 (by simp only [go_sem]; try exact rfl) (by simp [go_sem]) ?_
      refine cw_ret ⟨_, _, (by simp only [go_sem]; try exact rfl), by simp [go_sem], _, .inr (.inl rfl), ?_⟩
      rw [hnil]; rfl
    · refine cw_callG [] 100 rfl rfl (by simp only [go_sem]; try exact rfl) (by simp [go_sem]) ⟨_, Go.Proofs.Try.func86, by kernel_rfl, rfl⟩ (by simp only [go_sem, Bool.false_or, Bool.or_true, Bool.true_or, if_true]; try exact rfl) (own_okH _ hns) (by simp [go_sem]) (by simp [go_sem]) (by simp [go_sem]) (by simp only [go_sem]) (by simp [go_sem]) (by simp only [go_sem, Bool.false_or, Bool.or_true, Bool.true_or, Bool.or_false, ↓reduceIte]; exact rfl) ?_
      refine cw_go tabOK 99 (by simp only [go_sem]; try exact rfl) (by simp [go_sem]) ?_
      have hne : nodesK l ≠ [] := fun e => h0 (by rw [e]; rfl)
      refine cw_step rfl (trip_callP rfl (by simp only [go_sem]; try exact rfl) (by simp [go_sem]) ⟨_, Go.Proofs.Try.func106, by kernel_rfl, rfl⟩ [123] (by simp only [go_sem, Bool.false_or, Bool.or_true, Bool.true_or, Bool.or_false, ↓reduceIte]; try exact rfl) (by simp [go_sem]) (by simp) (by simp [go_sem, hne]) (by simp [go_sem]) (by simp [go_sem]) (fun G Y N => sort_held 123 (by decide) G Y N (nodesK l) (sortN (nodesK l)) (by omega) (by omega) (sortN_uniq _ hd)) (by simp only [go_sem, Bool.false_or, Bool.or_true, Bool.true_or, Bool.or_false, ↓reduceIte]; exact rfl)) ?_
      refine cw_go tabOK 99 (by simp only [go_sem]; try exact rfl) (by simp [go_sem]) ?_
      refine cw_freeze 123 rfl (nodeRow_pure _) ?_
      simp only [go_sem]
      refine cw_ret ⟨_, _, (by simp only [go_sem]; try exact rfl), by simp [go_sem], _, .inr (.inl rfl), ?_⟩
      rw [if_pos (by omega), List.take_of_length_le (by rw [List.length_map, hsl]; exact Nat.le_refl _)]
end La

namespace La
open Go Go.Eng Go.Proofs Go.Proofs.Ytldpfleilffanaa

/-- cells that read so, in blocks that are there -/
def RdC (w : World) (cs : List Value) (xs : List AV) : Prop := cs.length = xs.length ∧ ∀ (j : Nat) y, xs[j]? = some y → RdP (fun b => b < w.heap.size) w (cs.getD j undef) y

theorem rdc_nil {w : World} {cs : List Value} {off : Nat} (h : cs.length = off) : RdC w (cs.drop off) [] :=
  ⟨by simp; omega, fun j y hj => by simp at hj⟩

theorem rdc_cons {w : World} {cs : List Value} {xs ys : List AV} (off s : Nat) (h : RdC w ((cs.drop off).take s) xs) (hs : xs.length = s) (k : RdC w (cs.drop (off + s)) ys) : RdC w (cs.drop off) (xs ++ ys) := by
  obtain ⟨h1, h2⟩ := h
  obtain ⟨k1, k2⟩ := k
  have hl : (cs.drop off).length = s + (cs.drop (off + s)).length := by
    simp only [List.length_take, List.length_drop] at h1 k1 ⊢
    omega
  refine ⟨by rw [List.length_append, hl, hs, k1], fun j y hj => ?_⟩
  by_cases hjs : j < s
  · rw [List.getElem?_append_left (by omega)] at hj
    have := h2 j y hj
    rwa [List.getD_eq_getElem?_getD, List.getElem?_take, if_pos hjs, ← List.getD_eq_getElem?_getD] at this
  · rw [List.getElem?_append_right (by omega), hs] at hj
    have := k2 (j - s) y hj
    rw [List.getD_eq_getElem?_getD, List.getElem?_drop] at this
    rw [List.getD_eq_getElem?_getD, List.getElem?_drop]
    rwa [show off + s + (j - s) = off + j from by omega] at this

/-- A TYPE's VALUES, AS LEAN HAS THEM: the cells read as 'f x', 'q' holds of it, and it is no larger than what was read. -/
structure Rep (t : TypeId) {α : Type} (f : α → List AV) (q : α → Prop) (sz : α → Nat) : Prop where
  size : ∀ x, (f x).length = (Try.prog).cellsOf t
  opn : ∀ {H : Type} (enc : TypeId × Value → H) (w : World) (n : Nat) (cs : List Value) (y : DataW H × List MemPlace), DataW.trod enc Try.prog w 0 (fun _ => true) true n t cs = some y →
    ∃ x : α, q x ∧ sz x ≤ Rows.uptoBulk y.1 ∧ RdC w cs (f x)

theorem cells_tab {t : TypeId} {n : Nat} (h : tab.siz t = n) (h0 : n ≠ 0) : (Try.prog).cellsOf t = n := by
  obtain ⟨i, h1, h2, _⟩ := tabOK.siz t (by rw [h]; exact h0)
  unfold Program.cellsOf
  rw [h1]
  simp [h2, h]

theorem rep_int {t : TypeId} (ht : (Try.prog).underlying t = some (.int .i64)) (hs : (Try.prog).cellsOf t = 1) : Rep t (fun n : Int => [AV.int .i64 n]) (fun n => -9223372036854775808 ≤ n ∧ n ≤ 9223372036854775807) (fun _ => 1) where
  size := fun _ => by rw [hs]; rfl
  opn := fun enc w n cs y h => by
    obtain ⟨m, rfl, rfl, hw⟩ := DataW.trod_int ht h
    refine ⟨m, ?_, by simp [Rows.uptoBulk], rfl, fun j y hj => ?_⟩
    · simpa [Lit.wf, IntKind.min, IntKind.max, IntKind.bits, IntKind.signed] using hw
    · cases j with
      | zero => simp only [List.getElem?_cons_zero, Option.some.injEq] at hj; subst hj; exact .int _ _
      | succ j => simp at hj

theorem rep_bool {t : TypeId} (ht : (Try.prog).underlying t = some .bool) (hs : (Try.prog).cellsOf t = 1) : Rep t (fun b : Bool => [AV.bool b]) (fun _ => True) (fun _ => 1) where
  size := fun _ => by rw [hs]; rfl
  opn := fun enc w n cs y h => by
    obtain ⟨b, rfl, rfl⟩ := DataW.trod_bool ht h
    refine ⟨b, trivial, by simp [Rows.uptoBulk], rfl, fun j y hj => ?_⟩
    cases j with
    | zero => simp only [List.getElem?_cons_zero, Option.some.injEq] at hj; subst hj; exact .bool _
    | succ j => simp at hj

theorem rep_str {t : TypeId} (ht : (Try.prog).underlying t = some .string) (hs : (Try.prog).cellsOf t = 1) : Rep t (fun s : List UInt8 => [AV.str s]) (fun _ => True) (fun s => s.length + 1) where
  size := fun _ => by rw [hs]; rfl
  opn := fun enc w n cs y h => by
    obtain ⟨s, rfl, rfl, _⟩ := DataW.trod_string ht h
    refine ⟨s.data.toList, trivial, by simp [Rows.uptoBulk], rfl, fun j y hj => ?_⟩
    cases j with
    | zero => simp only [List.getElem?_cons_zero, Option.some.injEq] at hj; subst hj; exact .str _ _ rfl
    | succ j => simp at hj

theorem rep_byte {t : TypeId} (ht : (Try.prog).underlying t = some (.int .u8)) (hs : (Try.prog).cellsOf t = 1) : Rep t byteRow (fun _ => True) (fun _ => 1) where
  size := fun _ => by rw [hs]; rfl
  opn := fun enc w n cs y h => by
    obtain ⟨m, rfl, rfl, hw⟩ := DataW.trod_int ht h
    have hb : 0 ≤ m ∧ m ≤ 255 := by simpa [Lit.wf, IntKind.min, IntKind.max, IntKind.bits, IntKind.signed] using hw
    refine ⟨UInt8.ofNat m.toNat, trivial, by simp [Rows.uptoBulk], rfl, fun j y hj => ?_⟩
    cases j with
    | zero =>
      simp only [byteRow, List.getElem?_cons_zero, Option.some.injEq] at hj
      subst hj
      have : ((UInt8.ofNat m.toNat).toNat : Int) = m := by
        rw [UInt8.toNat_ofNat']
        omega
      rw [this]; exact .int _ _
    | succ j => simp [byteRow] at hj

/-- how much a list holds -/
def szL {α : Type} (sz : α → Nat) : List α → Nat
  | [] => 0
  | x :: r => sz x + szL sz r

theorem szL_mem {α : Type} {sz : α → Nat} {x : α} : ∀ {l : List α}, x ∈ l → sz x ≤ szL sz l
  | y :: r, h => by
    rcases List.mem_cons.1 h with rfl | h
    · simp only [szL]; omega
    · have := szL_mem (sz := sz) h; simp only [szL]; omega

theorem szL_len {α : Type} {sz : α → Nat} (h : ∀ x, 1 ≤ sz x) : ∀ (l : List α), l.length ≤ szL sz l
  | [] => Nat.le_refl _
  | x :: r => by have := szL_len h r; have := h x; simp only [szL, List.length_cons]; omega

theorem bulkAll_append {H : Type} : ∀ (a b : List (DataW H)), Rows.uptoBulkAll (a ++ b) = Rows.uptoBulkAll a + Rows.uptoBulkAll b
  | [], b => by simp [Rows.uptoBulkAll]
  | x :: a, b => by simp only [List.cons_append, Rows.uptoBulkAll, bulkAll_append a b]; omega

/-- what each element is, one by one -/
theorem pick_list {α H : Type} {q : α → Prop} {sz : α → Nat} {R : Nat → α → Prop} : ∀ (elems : List (DataW H × List MemPlace)) (i0 : Nat), (∀ (i : Nat) y, elems[i]? = some y → ∃ x, q x ∧ sz x ≤ Rows.uptoBulk y.1 ∧ R (i0 + i) x) →
    ∃ l : List α, l.length = elems.length ∧ (∀ x, x ∈ l → q x) ∧ szL sz l ≤ Rows.uptoBulkAll (elems.map (·.1)) ∧ ∀ (i : Nat) x, l[i]? = some x → R (i0 + i) x
  | [], _, _ => ⟨[], rfl, fun x h => by simp at h, by simp [szL], fun i x h => by simp at h⟩
  | y :: r, i0, h => by
    obtain ⟨x, h1, h2, h3⟩ := h 0 y rfl
    obtain ⟨l, k1, k2, k3, k4⟩ := pick_list (R := R) r (i0 + 1) (fun i z hz => by rw [show i0 + 1 + i = i0 + (i + 1) from by omega]; exact h (i + 1) z (by simpa using hz))
    refine ⟨x :: l, by simp [k1], fun z hz => ?_, ?_, fun i z hz => ?_⟩
    · rcases List.mem_cons.1 hz with rfl | hz
      · exact h1
      · exact k2 z hz
    · simp only [szL, List.map_cons, Rows.uptoBulkAll]; omega
    · cases i with
      | zero => simp only [List.getElem?_cons_zero, Option.some.injEq] at hz; subst hz; exact h3
      | succ i => rw [show i0 + (i + 1) = i0 + 1 + i from by omega]; exact k4 i z (by simpa using hz)

theorem cells_some {w : World} {a : Addr} {n : Nat} {cs : List Value} (h : w.cells? 0 a n = some cs) : cs.length = n ∧ ∀ i, i < n → w.cell? (a.add i) = cs[i]? := by
  unfold World.cells? at h
  rw [if_pos (Nat.zero_le _)] at h
  have hl := mapM_some_length h
  refine ⟨by simpa using hl, fun i hi => ?_⟩
  exact mapM_some_get h i i (by simp [hi])

theorem rep_slice {t e : TypeId} {α : Type} {f : α → List AV} {q : α → Prop} {sz : α → Nat} (ht : (Try.prog).underlying t = some (.slice e)) (hs : (Try.prog).cellsOf t = 1) (he : Rep e f q sz) (hsz : (Try.prog).cellsOf e ≠ 0) :
    Rep t (fun l : List α => [AV.sl (l.map f)]) (fun l => ∀ x, x ∈ l → q x) (fun l => szL sz l + 1) where
  size := fun _ => by rw [hs]; rfl
  opn := fun enc w n cs y h => by
    rcases DataW.trod_slice ht h with ⟨rfl, rfl⟩ | ⟨a, len, cap, elems, rest, m, rfl, rfl, rfl, h1, h2, h3, h4, h5, _⟩
    · refine ⟨[], fun x hx => by simp at hx, by simp [szL, Rows.uptoBulk], rfl, fun j y hj => ?_⟩
      cases j with
      | zero =>
        simp only [List.map_nil, List.getElem?_cons_zero, Option.some.injEq] at hj; subst hj
        exact .sl none 0 0 [] 0 0 0 (fun _ _ => undef) rfl (Nat.le_refl _) (fun row h => by simp at h) (fun h => by omega) (fun i j h => by omega) (fun i row h => by simp at h)
      | succ j => simp at hj
    · have key : ∀ (i : Nat) y, elems[i]? = some y → ∃ x, q x ∧ sz x ≤ Rows.uptoBulk y.1 ∧ (∃ cs, w.cells? 0 (a.add ((0 + i) * (Try.prog).cellsOf e)) ((Try.prog).cellsOf e) = some cs ∧ RdC w cs (f x)) := fun i y hy => by
        have hi : i < len := by rw [← h4]; exact (List.getElem?_eq_some_iff.1 hy).1
        have := h5 i hi
        rw [hy] at this
        obtain ⟨cs, k1, k2⟩ := Option.bind_eq_some_iff.1 this
        obtain ⟨x, q1, q2, q3⟩ := he.opn enc w m cs y k2
        exact ⟨x, q1, q2, cs, by rw [Nat.zero_add]; exact k1, q3⟩
      obtain ⟨l, l1, l2, l3, l4⟩ := pick_list (q := q) (sz := sz) (R := fun i x => ∃ cs, w.cells? 0 (a.add (i * (Try.prog).cellsOf e)) ((Try.prog).cellsOf e) = some cs ∧ RdC w cs (f x)) elems 0 key
      refine ⟨l, l2, by simp only [Rows.uptoBulk]; omega, rfl, fun j y hj => ?_⟩
      cases j with
      | succ j => simp at hj
      | zero =>
        simp only [List.getElem?_cons_zero, Option.some.injEq] at hj
        subst hj
        have hcell : ∀ i j, i < l.length → j < (Try.prog).cellsOf e → ∃ (b : a.spot = none ∨ True) (x : α) (cs : List Value), l[i]? = some x ∧ RdC w cs (f x) ∧ w.cell? (a.add (i * (Try.prog).cellsOf e) |>.add j) = cs[j]? ∧ j < cs.length := fun i j hi hj => by
          obtain ⟨cs, k1, k2⟩ := l4 i l[i] (List.getElem?_eq_getElem hi)
          obtain ⟨c1, c2⟩ := cells_some k1
          rw [Nat.zero_add] at c2
          exact ⟨.inr trivial, l[i], cs, List.getElem?_eq_getElem hi, k2, c2 j hj, by omega⟩
        by_cases h0 : l.length = 0
        · have : l = [] := List.eq_nil_of_length_eq_zero h0
          subst this
          simp only [List.map_nil]
          have e0 : len = 0 := by rw [← h4, ← l1]; rfl
          subst e0
          exact .sl (some a) 0 cap [] 0 0 0 (fun _ _ => undef) rfl (Nat.zero_le _) (fun row h => by simp at h) (fun h => by omega) (fun i j h => by omega) (fun i row h => by simp at h)
        · have hspot : a.spot = none ∧ a.block < w.heap.size := by
            obtain ⟨_, x, cs, _, _, c3, c4⟩ := hcell 0 0 (by omega) (by omega)
            rw [List.getElem?_eq_getElem c4] at c3
            have c3' : w.cell? a = some cs[0] := by simpa [Addr.add] using c3
            unfold World.cell? at c3'
            split at c3'
            · rename_i c e' f' hb
              split at c3'
              · cases c3'
              · rename_i hsp
                refine ⟨?_, ?_⟩
                · cases e : a.spot with
                  | none => rfl
                  | some k => rw [e] at hsp; simp at hsp
                · exact (Array.getElem?_eq_some_iff.1 hb).1
            · cases c3'
          obtain ⟨ab, ao, asp⟩ := a
          simp only at hspot
          obtain ⟨rfl, hlt⟩ := hspot
          have hadd : ∀ (i j : Nat), ((⟨ab, ao, none⟩ : Addr).add (i * (Try.prog).cellsOf e) |>.add j) = ⟨ab, ao + (i * (Try.prog).cellsOf e + j), none⟩ := fun i j => by
            rw [add_plain, add_plain, Nat.add_assoc]
          refine .sl (some ⟨ab, ao, none⟩) len cap (l.map f) ((Try.prog).cellsOf e) ab ao (fun i j => (w.cell? ⟨ab, ao + (i * (Try.prog).cellsOf e + j), none⟩).getD undef) (by simp [l1, h4]) h2 (fun row hr => ?_) (fun _ => ⟨rfl, hlt⟩) (fun i j hi hj => ?_) (fun i row hrow j x hx => ?_)
          · obtain ⟨x, _, rfl⟩ := List.mem_map.1 hr
            exact he.size x
          · obtain ⟨_, x, cs, _, _, c3, c4⟩ := hcell i j (by omega) hj
            rw [hadd, List.getElem?_eq_getElem c4] at c3
            rw [c3]; rfl
          · rw [List.getElem?_map] at hrow
            cases e1 : l[i]? with
            | none => rw [e1] at hrow; cases hrow
            | some x0 =>
              rw [e1] at hrow
              simp only [Option.map_some, Option.some.injEq] at hrow
              subst hrow
              have hi : i < l.length := (List.getElem?_eq_some_iff.1 e1).1
              have hj : j < (Try.prog).cellsOf e := by rw [← he.size x0]; exact (List.getElem?_eq_some_iff.1 hx).1
              obtain ⟨_, x1, cs, c1, c2, c3, c4⟩ := hcell i j hi hj
              rw [e1] at c1
              injection c1 with c1
              subst c1
              have := c2.2 j x hx
              rw [hadd, List.getElem?_eq_getElem c4] at c3
              simp only [c3, Option.getD_some]
              rwa [List.getD_eq_getElem?_getD, List.getElem?_eq_getElem c4] at this

/-! ### The program's types -/

theorem rep_i (t : TypeId) (ht : (Try.prog).underlying t = some (.int .i64)) (hs : tab.siz t = 1) : Rep t (fun n : Int => [AV.int .i64 n]) (fun n => -9223372036854775808 ≤ n ∧ n ≤ 9223372036854775807) (fun _ => 1) := rep_int ht (cells_tab hs (by decide))

theorem rep_bytes : Rep 23 (fun d : List UInt8 => [AV.sl (d.map byteRow)]) (fun l => ∀ x, x ∈ l → True) (fun l => szL (fun _ => 1) l + 1) :=
  rep_slice Try.underlying23 (cells_tab (t := 23) (n := 1) rfl (by decide)) (rep_byte Try.underlying5 (cells_tab (t := 5) (n := 1) rfl (by decide))) (by rw [cells_tab (t := 5) (n := 1) rfl (by decide)]; decide)

def i64 (n : Int) : Prop := -9223372036854775808 ≤ n ∧ n ≤ 9223372036854775807

structure Entry.Ok (e : Entry) : Prop where
  fid : i64 e.fid
structure Node.Ok (n : Node) : Prop where
  fid : i64 n.fid
  entries : ∀ e, e ∈ n.entries → e.Ok
  version : i64 n.version
structure Act.Ok (a : Act) : Prop where
  kind : i64 a.kind
  fid : i64 a.fid
  dir : i64 a.dir
  to : i64 a.to
structure Rec.Ok (r : Rec) : Prop where
  act : r.act.Ok
  version : i64 r.version
  id : i64 r.id
def Entry.sz (e : Entry) : Nat := e.name.length + 1
def Node.sz (n : Node) : Nat := n.data.length + szL Entry.sz n.entries + 1
def Act.sz (a : Act) : Nat := a.name.length + a.toName.length + a.data.length + 1
def Rec.sz (r : Rec) : Nat := r.act.sz + 1
theorem szL_ones {α : Type} : ∀ (l : List α), szL (fun _ => 1) l = l.length
  | [] => rfl
  | x :: r => by simp only [szL, szL_ones r, List.length_cons]; omega

theorem rep_entry : Rep 115 entryRow Entry.Ok Entry.sz where
  size := fun x => by rw [cells_tab (t := 115) (n := 2) rfl (by decide)]; rfl
  opn := fun enc w n cs y h => by
    obtain ⟨xs, m, rfl, rfl, hl, hxl, hf⟩ := DataW.trod_struct Try.underlying115 h
    obtain ⟨y0, y1, rfl⟩ : ∃ y0 y1, xs = [y0, y1] := by
      have hxl : xs.length = 2 := hxl
      match xs, hxl with
      | [a0, a1], _ => exact ⟨a0, a1, rfl⟩
    have e0 : DataW.trod enc Try.prog w 0 (fun _ => true) true m 9 ((cs.drop 0).take ((Try.prog).cellsOf 9)) = some y0 := hf 0 _ rfl
    obtain ⟨x0, q0, s0, r0⟩ := (rep_str Try.underlying9 (cells_tab (t := 9) (n := 1) rfl (by decide))).opn enc w m _ _ e0
    rw [cells_tab (t := 9) (n := 1) rfl (by decide)] at r0
    have e1 : DataW.trod enc Try.prog w 0 (fun _ => true) true m 3 ((cs.drop 1).take ((Try.prog).cellsOf 3)) = some y1 := hf 1 _ rfl
    obtain ⟨x1, q1, s1, r1⟩ := (rep_i 3 Try.underlying3 rfl).opn enc w m _ _ e1
    rw [cells_tab (t := 3) (n := 1) rfl (by decide)] at r1
    refine ⟨⟨x0, x1⟩, ⟨q1⟩, ?_, ?_⟩
    · simp only [Entry.sz, Rows.uptoBulk, Rows.uptoBulkAll, List.map_cons, List.map_nil]; omega
    · have hl : cs.length = 2 := by rw [hl, cells_tab (t := 115) (n := 2) rfl (by decide)]
      have := rdc_cons 0 1 r0 rfl (rdc_cons 1 1 r1 rfl (rdc_nil hl))
      rw [List.drop_zero] at this
      exact this

theorem rep_entries : Rep 44 (fun l : List Entry => [AV.sl (l.map entryRow)]) (fun l => ∀ x, x ∈ l → x.Ok) (fun l => szL Entry.sz l + 1) :=
  rep_slice Try.underlying44 (cells_tab (t := 44) (n := 1) rfl (by decide)) rep_entry (by rw [cells_tab (t := 115) (n := 2) rfl (by decide)]; decide)

theorem rep_node : Rep 46 nodeRow Node.Ok Node.sz where
  size := fun x => by rw [cells_tab (t := 46) (n := 5) rfl (by decide)]; rfl
  opn := fun enc w n cs y h => by
    obtain ⟨xs, m, rfl, rfl, hl, hxl, hf⟩ := DataW.trod_struct Try.underlying46 h
    obtain ⟨y0, y1, y2, y3, y4, rfl⟩ : ∃ y0 y1 y2 y3 y4, xs = [y0, y1, y2, y3, y4] := by
      have hxl : xs.length = 5 := hxl
      match xs, hxl with
      | [a0, a1, a2, a3, a4], _ => exact ⟨a0, a1, a2, a3, a4, rfl⟩
    have e0 : DataW.trod enc Try.prog w 0 (fun _ => true) true m 3 ((cs.drop 0).take ((Try.prog).cellsOf 3)) = some y0 := hf 0 _ rfl
    obtain ⟨x0, q0, s0, r0⟩ := (rep_i 3 Try.underlying3 rfl).opn enc w m _ _ e0
    rw [cells_tab (t := 3) (n := 1) rfl (by decide)] at r0
    have e1 : DataW.trod enc Try.prog w 0 (fun _ => true) true m 4 ((cs.drop 1).take ((Try.prog).cellsOf 4)) = some y1 := hf 1 _ rfl
    obtain ⟨x1, q1, s1, r1⟩ := (rep_bool Try.underlying4 (cells_tab (t := 4) (n := 1) rfl (by decide))).opn enc w m _ _ e1
    rw [cells_tab (t := 4) (n := 1) rfl (by decide)] at r1
    have e2 : DataW.trod enc Try.prog w 0 (fun _ => true) true m 23 ((cs.drop 2).take ((Try.prog).cellsOf 23)) = some y2 := hf 2 _ rfl
    obtain ⟨x2, q2, s2, r2⟩ := (rep_bytes).opn enc w m _ _ e2
    rw [cells_tab (t := 23) (n := 1) rfl (by decide)] at r2
    have e3 : DataW.trod enc Try.prog w 0 (fun _ => true) true m 44 ((cs.drop 3).take ((Try.prog).cellsOf 44)) = some y3 := hf 3 _ rfl
    obtain ⟨x3, q3, s3, r3⟩ := (rep_entries).opn enc w m _ _ e3
    rw [cells_tab (t := 44) (n := 1) rfl (by decide)] at r3
    have e4 : DataW.trod enc Try.prog w 0 (fun _ => true) true m 3 ((cs.drop 4).take ((Try.prog).cellsOf 3)) = some y4 := hf 4 _ rfl
    obtain ⟨x4, q4, s4, r4⟩ := (rep_i 3 Try.underlying3 rfl).opn enc w m _ _ e4
    rw [cells_tab (t := 3) (n := 1) rfl (by decide)] at r4
    refine ⟨⟨x0, x1, x2, x3, x4⟩, ⟨q0, q3, q4⟩, ?_, ?_⟩
    · simp only [szL_ones] at s2
      simp only [Node.sz, Rows.uptoBulk, Rows.uptoBulkAll, List.map_cons, List.map_nil]; omega
    · have hl : cs.length = 5 := by rw [hl, cells_tab (t := 46) (n := 5) rfl (by decide)]
      have := rdc_cons 0 1 r0 rfl (rdc_cons 1 1 r1 rfl (rdc_cons 2 1 r2 rfl (rdc_cons 3 1 r3 rfl (rdc_cons 4 1 r4 rfl (rdc_nil hl)))))
      rw [List.drop_zero] at this
      exact this

theorem rep_nodes : Rep 39 (fun l : List Node => [AV.sl (l.map nodeRow)]) (fun l => ∀ x, x ∈ l → x.Ok) (fun l => szL Node.sz l + 1) :=
  rep_slice Try.underlying39 (cells_tab (t := 39) (n := 1) rfl (by decide)) rep_node (by rw [cells_tab (t := 46) (n := 5) rfl (by decide)]; decide)

theorem rep_act : Rep 25 actRow Act.Ok Act.sz where
  size := fun x => by rw [cells_tab (t := 25) (n := 7) rfl (by decide)]; rfl
  opn := fun enc w n cs y h => by
    obtain ⟨xs, m, rfl, rfl, hl, hxl, hf⟩ := DataW.trod_struct Try.underlying25 h
    obtain ⟨y0, y1, y2, y3, y4, y5, y6, rfl⟩ : ∃ y0 y1 y2 y3 y4 y5 y6, xs = [y0, y1, y2, y3, y4, y5, y6] := by
      have hxl : xs.length = 7 := hxl
      match xs, hxl with
      | [a0, a1, a2, a3, a4, a5, a6], _ => exact ⟨a0, a1, a2, a3, a4, a5, a6, rfl⟩
    have e0 : DataW.trod enc Try.prog w 0 (fun _ => true) true m 3 ((cs.drop 0).take ((Try.prog).cellsOf 3)) = some y0 := hf 0 _ rfl
    obtain ⟨x0, q0, s0, r0⟩ := (rep_i 3 Try.underlying3 rfl).opn enc w m _ _ e0
    rw [cells_tab (t := 3) (n := 1) rfl (by decide)] at r0
    have e1 : DataW.trod enc Try.prog w 0 (fun _ => true) true m 3 ((cs.drop 1).take ((Try.prog).cellsOf 3)) = some y1 := hf 1 _ rfl
    obtain ⟨x1, q1, s1, r1⟩ := (rep_i 3 Try.underlying3 rfl).opn enc w m _ _ e1
    rw [cells_tab (t := 3) (n := 1) rfl (by decide)] at r1
    have e2 : DataW.trod enc Try.prog w 0 (fun _ => true) true m 3 ((cs.drop 2).take ((Try.prog).cellsOf 3)) = some y2 := hf 2 _ rfl
    obtain ⟨x2, q2, s2, r2⟩ := (rep_i 3 Try.underlying3 rfl).opn enc w m _ _ e2
    rw [cells_tab (t := 3) (n := 1) rfl (by decide)] at r2
    have e3 : DataW.trod enc Try.prog w 0 (fun _ => true) true m 9 ((cs.drop 3).take ((Try.prog).cellsOf 9)) = some y3 := hf 3 _ rfl
    obtain ⟨x3, q3, s3, r3⟩ := (rep_str Try.underlying9 (cells_tab (t := 9) (n := 1) rfl (by decide))).opn enc w m _ _ e3
    rw [cells_tab (t := 9) (n := 1) rfl (by decide)] at r3
    have e4 : DataW.trod enc Try.prog w 0 (fun _ => true) true m 3 ((cs.drop 4).take ((Try.prog).cellsOf 3)) = some y4 := hf 4 _ rfl
    obtain ⟨x4, q4, s4, r4⟩ := (rep_i 3 Try.underlying3 rfl).opn enc w m _ _ e4
    rw [cells_tab (t := 3) (n := 1) rfl (by decide)] at r4
    have e5 : DataW.trod enc Try.prog w 0 (fun _ => true) true m 9 ((cs.drop 5).take ((Try.prog).cellsOf 9)) = some y5 := hf 5 _ rfl
    obtain ⟨x5, q5, s5, r5⟩ := (rep_str Try.underlying9 (cells_tab (t := 9) (n := 1) rfl (by decide))).opn enc w m _ _ e5
    rw [cells_tab (t := 9) (n := 1) rfl (by decide)] at r5
    have e6 : DataW.trod enc Try.prog w 0 (fun _ => true) true m 23 ((cs.drop 6).take ((Try.prog).cellsOf 23)) = some y6 := hf 6 _ rfl
    obtain ⟨x6, q6, s6, r6⟩ := (rep_bytes).opn enc w m _ _ e6
    rw [cells_tab (t := 23) (n := 1) rfl (by decide)] at r6
    refine ⟨⟨x0, x1, x2, x3, x4, x5, x6⟩, ⟨q0, q1, q2, q4⟩, ?_, ?_⟩
    · simp only [szL_ones] at s6
      simp only [Act.sz, Rows.uptoBulk, Rows.uptoBulkAll, List.map_cons, List.map_nil]; omega
    · have hl : cs.length = 7 := by rw [hl, cells_tab (t := 25) (n := 7) rfl (by decide)]
      have := rdc_cons 0 1 r0 rfl (rdc_cons 1 1 r1 rfl (rdc_cons 2 1 r2 rfl (rdc_cons 3 1 r3 rfl (rdc_cons 4 1 r4 rfl (rdc_cons 5 1 r5 rfl (rdc_cons 6 1 r6 rfl (rdc_nil hl)))))))
      rw [List.drop_zero] at this
      exact this

theorem rep_acts : Rep 33 (fun l : List Act => [AV.sl (l.map actRow)]) (fun l => ∀ x, x ∈ l → x.Ok) (fun l => szL Act.sz l + 1) :=
  rep_slice Try.underlying33 (cells_tab (t := 33) (n := 1) rfl (by decide)) rep_act (by rw [cells_tab (t := 25) (n := 7) rfl (by decide)]; decide)

theorem rep_rec : Rep 27 recRow Rec.Ok Rec.sz where
  size := fun x => by rw [cells_tab (t := 27) (n := 9) rfl (by decide)]; rfl
  opn := fun enc w n cs y h => by
    obtain ⟨xs, m, rfl, rfl, hl, hxl, hf⟩ := DataW.trod_struct Try.underlying27 h
    obtain ⟨y0, y1, y2, rfl⟩ : ∃ y0 y1 y2, xs = [y0, y1, y2] := by
      have hxl : xs.length = 3 := hxl
      match xs, hxl with
      | [a0, a1, a2], _ => exact ⟨a0, a1, a2, rfl⟩
    have e0 : DataW.trod enc Try.prog w 0 (fun _ => true) true m 25 ((cs.drop 0).take ((Try.prog).cellsOf 25)) = some y0 := hf 0 _ rfl
    obtain ⟨x0, q0, s0, r0⟩ := (rep_act).opn enc w m _ _ e0
    rw [cells_tab (t := 25) (n := 7) rfl (by decide)] at r0
    have e1 : DataW.trod enc Try.prog w 0 (fun _ => true) true m 3 ((cs.drop 7).take ((Try.prog).cellsOf 3)) = some y1 := hf 1 _ rfl
    obtain ⟨x1, q1, s1, r1⟩ := (rep_i 3 Try.underlying3 rfl).opn enc w m _ _ e1
    rw [cells_tab (t := 3) (n := 1) rfl (by decide)] at r1
    have e2 : DataW.trod enc Try.prog w 0 (fun _ => true) true m 3 ((cs.drop 8).take ((Try.prog).cellsOf 3)) = some y2 := hf 2 _ rfl
    obtain ⟨x2, q2, s2, r2⟩ := (rep_i 3 Try.underlying3 rfl).opn enc w m _ _ e2
    rw [cells_tab (t := 3) (n := 1) rfl (by decide)] at r2
    refine ⟨⟨x0, x1, x2⟩, ⟨q0, q1, q2⟩, ?_, ?_⟩
    · simp only [Rec.sz, Rows.uptoBulk, Rows.uptoBulkAll, List.map_cons, List.map_nil]; omega
    · have hl : cs.length = 9 := by rw [hl, cells_tab (t := 27) (n := 9) rfl (by decide)]
      have := rdc_cons 0 7 r0 rfl (rdc_cons 7 1 r1 rfl (rdc_cons 8 1 r2 rfl (rdc_nil hl)))
      rw [List.drop_zero] at this
      exact this

theorem rep_recs : Rep 22 (fun l : List Rec => [AV.sl (l.map recRow)]) (fun l => ∀ x, x ∈ l → x.Ok) (fun l => szL Rec.sz l + 1) :=
  rep_slice Try.underlying22 (cells_tab (t := 22) (n := 1) rfl (by decide)) rep_rec (by rw [cells_tab (t := 27) (n := 9) rfl (by decide)]; decide)

/-! ### Arguments -/

/-- an argument, opened -/
theorem open_arg {t : TypeId} {α : Type} {f : α → List AV} {q : α → Prop} {sz : α → Nat} (h : Rep t f q sz) {H : Type} {enc : TypeId × Value → H} {w : World} {v : Value} {d : DataW H} {ps : List MemPlace}
    (hd : DataW.Trod enc Try.prog w 0 (fun _ => true) true t v d ps) : ∃ x, q x ∧ sz x ≤ Rows.uptoBulk d ∧ RdC w v.cells.toList (f x) := by
  obtain ⟨n, hn⟩ := hd
  exact h.opn enc w n _ _ hn

/-- of one cell -/
theorem rdc_one {w : World} {v : Value} {x : AV} (h : RdC w v.cells.toList [x]) (hv : ∀ cs, v ≠ .agg cs) : RdP (fun b => b < w.heap.size) w v x := by
  have := h.2 0 x rfl
  cases v with
  | agg cs => exact absurd rfl (hv cs)
  | _ => exact this

theorem rdc_agg {w : World} {cs : Array Value} {xs : List AV} (h : RdC w (Value.agg cs).cells.toList xs) : RdP (fun b => b < w.heap.size) w (.agg cs) (.agg xs) := by
  refine .agg cs xs (by have h1 : cs.toList.length = xs.length := h.1; simpa using h1) fun j y hj => ?_
  have := h.2 j y hj
  rwa [List.getD_eq_getElem?_getD, Array.getElem?_toList, ← Array.getD_eq_getD_getElem?] at this

/-! ### What is not large -/
theorem Act.sz_data (a : Act) : a.data.length ≤ a.sz := by unfold Act.sz; omega
theorem nodeSmall_of {n : Node} (h : n.sz ≤ 1048576) : n.Small := by
  have h1 := szL_len (sz := Entry.sz) (fun e => by unfold Entry.sz; omega) n.entries
  unfold Node.sz at h
  exact ⟨by omega, by omega⟩
theorem small_of {l : List Node} (h : szL Node.sz l ≤ 1048576) : Small l :=
  ⟨by have := szL_len (sz := Node.sz) (fun r => by unfold Node.sz; omega) l; omega, fun r hr => nodeSmall_of (by have := szL_mem (sz := Node.sz) hr; omega)⟩
theorem nodes_len {l : List Node} (h : szL Node.sz l ≤ 1048576) : l.length ≤ 99999999 := by
  have := szL_len (sz := Node.sz) (fun r => by unfold Node.sz; omega) l; omega
theorem entries_len {n : Node} (h : n.sz ≤ 1048576) : n.entries.length ≤ 99999999 := by
  have h1 := szL_len (sz := Entry.sz) (fun e => by unfold Entry.sz; omega) n.entries
  unfold Node.sz at h
  omega
end La

namespace La
open Go Go.Eng Go.Proofs Go.Proofs.Ytldpfleilffanaa

structure Kept.Ok (k : Kept) : Prop where
  node : k.node.Ok
  worth : i64 k.worth
  last : i64 k.last
def Kept.sz (k : Kept) : Nat := k.node.sz + 1

theorem rep_kept : Rep 72 keptRow Kept.Ok Kept.sz where
  size := fun x => by rw [cells_tab (t := 72) (n := 8) rfl (by decide)]; rfl
  opn := fun enc w n cs y h => by
    obtain ⟨xs, m, rfl, rfl, hl, hxl, hf⟩ := DataW.trod_struct Try.underlying72 h
    obtain ⟨y0, y1, y2, y3, rfl⟩ : ∃ y0 y1 y2 y3, xs = [y0, y1, y2, y3] := by
      have hxl : xs.length = 4 := hxl
      match xs, hxl with
      | [a0, a1, a2, a3], _ => exact ⟨a0, a1, a2, a3, rfl⟩
    have e0 : DataW.trod enc Try.prog w 0 (fun _ => true) true m 46 ((cs.drop 0).take ((Try.prog).cellsOf 46)) = some y0 := hf 0 _ rfl
    obtain ⟨x0, q0, s0, r0⟩ := (rep_node).opn enc w m _ _ e0
    rw [cells_tab (t := 46) (n := 5) rfl (by decide)] at r0
    have e1 : DataW.trod enc Try.prog w 0 (fun _ => true) true m 4 ((cs.drop 5).take ((Try.prog).cellsOf 4)) = some y1 := hf 1 _ rfl
    obtain ⟨x1, q1, s1, r1⟩ := (rep_bool Try.underlying4 (cells_tab (t := 4) (n := 1) rfl (by decide))).opn enc w m _ _ e1
    rw [cells_tab (t := 4) (n := 1) rfl (by decide)] at r1
    have e2 : DataW.trod enc Try.prog w 0 (fun _ => true) true m 3 ((cs.drop 6).take ((Try.prog).cellsOf 3)) = some y2 := hf 2 _ rfl
    obtain ⟨x2, q2, s2, r2⟩ := (rep_i 3 Try.underlying3 rfl).opn enc w m _ _ e2
    rw [cells_tab (t := 3) (n := 1) rfl (by decide)] at r2
    have e3 : DataW.trod enc Try.prog w 0 (fun _ => true) true m 3 ((cs.drop 7).take ((Try.prog).cellsOf 3)) = some y3 := hf 3 _ rfl
    obtain ⟨x3, q3, s3, r3⟩ := (rep_i 3 Try.underlying3 rfl).opn enc w m _ _ e3
    rw [cells_tab (t := 3) (n := 1) rfl (by decide)] at r3
    refine ⟨⟨x0, x1, x2, x3⟩, ⟨q0, q2, q3⟩, ?_, ?_⟩
    · simp only [Kept.sz, Rows.uptoBulk, Rows.uptoBulkAll, List.map_cons, List.map_nil]; omega
    · have hl : cs.length = 8 := by rw [hl, cells_tab (t := 72) (n := 8) rfl (by decide)]
      have := rdc_cons 0 5 r0 rfl (rdc_cons 5 1 r1 rfl (rdc_cons 6 1 r2 rfl (rdc_cons 7 1 r3 rfl (rdc_nil hl))))
      rw [List.drop_zero] at this
      exact this

theorem rep_kepts : Rep 70 (fun l : List Kept => [AV.sl (l.map keptRow)]) (fun l => ∀ x, x ∈ l → x.Ok) (fun l => szL Kept.sz l + 1) :=
  rep_slice Try.underlying70 (cells_tab (t := 70) (n := 1) rfl (by decide)) rep_kept (by rw [cells_tab (t := 72) (n := 8) rfl (by decide)]; decide)

theorem kept_small {k : Kept} (h : k.sz ≤ 1048576) : k.node.Small := nodeSmall_of (by unfold Kept.sz at h; omega)
end La

namespace La
theorem smallK_of {l : List Kept} (h : szL Kept.sz l ≤ 1048576) : SmallK l :=
  ⟨by have := szL_len (sz := Kept.sz) (fun r => by unfold Kept.sz; omega) l; omega, fun r hr => kept_small (by have := szL_mem (sz := Kept.sz) hr; omega)⟩
theorem kepts_len4 {l : List Kept} (h : szL Kept.sz l ≤ 1048576) : l.length ≤ 40000000 := by
  have := szL_len (sz := Kept.sz) (fun r => by unfold Kept.sz; omega) l; omega
end La
namespace Go.Proofs.Ytldpfleilffanaa.cacheTells
set_option maxRecDepth 100000
set_option linter.unusedSimpArgs false
open Go Go.ChangeShapes Go.WideShapes Go.ChangeAt Go.RowKit Go.Eng

theorem contract (H : Type) (enc : TypeId × Value → H) (W : World) (base : Nat) (args : Array Value) (ds gs : List (DataW H)) (before : List MemPlace)
    (hval : ∀ (j : Nat) t v, Try.f10.params[j]? = some t → args[j]? = some v → Value.okWide Try.prog W .any base t v)
    (hW : DataW.Whole enc Try.prog Try.f10.params.toList Rows.cacheTellsSpec.vars false W args.toList ds gs before) (hk : Rows.uptoSmall H (ds ++ gs) = true) :
    Calls Try.prog 10 args W fun e W' => ∃ v, e = .returned v ∧ Rows.cacheTellsSpec.post enc Try.prog Try.f10 false true false false W args v W' := by
  have hW' := hW
  obtain ⟨p, q, hA0, hV, rfl, hfz, hnd⟩ := hW
  have hA : DataW.TrodAll enc Try.prog W 0 (fun _ => true) true Try.f10.params.toList args.toList ds p := hA0
  rw [Try.params10] at hA hval
  obtain ⟨v0, vs0, d0, ds0, p0, q0, hargs, rfl, rfl, h0, r0⟩ := trodAll_cons hA
  obtain ⟨v1, vs1, d1, ds1, p1, q1, rfl, rfl, rfl, h1, r1⟩ := trodAll_cons r0
  obtain ⟨v2, vs2, d2, ds2, p2, q2, rfl, rfl, rfl, h2, r2⟩ := trodAll_cons r1
  obtain ⟨v3, vs3, d3, ds3, p3, q3, rfl, rfl, rfl, h3, r3⟩ := trodAll_cons r2
  obtain ⟨v4, vs4, d4, ds4, p4, q4, rfl, rfl, rfl, h4, r4⟩ := trodAll_cons r3
  obtain ⟨v5, vs5, d5, ds5, p5, q5, rfl, rfl, rfl, h5, r5⟩ := trodAll_cons r4
  obtain ⟨rfl, rfl, rfl⟩ := trodAll_nil r5
  obtain rfl : args = #[v0, v1, v2, v3, v4, v5] := by cases args; simp_all
  obtain ⟨rfl, rfl⟩ := trodVars_none hV
  have hk2 : Rows.uptoBulkAll [d0, d1, d2, d3, d4, d5] ≤ 1048576 := of_decide_eq_true hk
  simp only [Rows.uptoBulkAll] at hk2
  obtain ⟨x0, o0, s0, c0⟩ := La.open_arg (La.rep_kepts) h0
  obtain ⟨a0, len0, cap0, rfl⟩ := okWide_slice Try.underlying70 (hval 0 70 v0 rfl rfl)
  have R0 := La.rdc_one c0 (fun _ h => nomatch h)
  obtain ⟨x1, o1, s1, c1⟩ := La.open_arg (La.rep_i 3 Try.underlying3 rfl) h1
  obtain ⟨b1, rfl⟩ := okWide_int Try.underlying3 (hval 1 3 v1 rfl rfl)
  have R1 := La.rdc_one c1 (fun _ h => nomatch h)
  obtain ⟨x2, o2, s2, c2⟩ := La.open_arg (La.rep_kept) h2
  obtain ⟨cs2, rfl, _⟩ := okWide_struct Try.underlying72 (hval 2 72 v2 rfl rfl)
  have R2 := La.rdc_agg c2
  obtain ⟨x3, o3, s3, c3⟩ := La.open_arg (La.rep_i 3 Try.underlying3 rfl) h3
  obtain ⟨b3, rfl⟩ := okWide_int Try.underlying3 (hval 3 3 v3 rfl rfl)
  have R3 := La.rdc_one c3 (fun _ h => nomatch h)
  obtain ⟨x4, o4, s4, c4⟩ := La.open_arg (La.rep_i 3 Try.underlying3 rfl) h4
  obtain ⟨b4, rfl⟩ := okWide_int Try.underlying3 (hval 4 3 v4 rfl rfl)
  have R4 := La.rdc_one c4 (fun _ h => nomatch h)
  obtain ⟨x5, o5, s5, c5⟩ := La.open_arg (La.rep_nodes) h5
  obtain ⟨a5, len5, cap5, rfl⟩ := okWide_slice Try.underlying39 (hval 5 39 v5 rfl rfl)
  have R5 := La.rdc_one c5 (fun _ h => nomatch h)
  refine (calls_of_fn (La.ctells_ok x0 x1 x2 x3 x4 x5 (La.smallK_of (by omega)) (La.kepts_len4 (by omega)) (La.kept_small (by omega)) (La.small_of (by omega)) (La.ctree_ok x0 (La.smallK_of (by omega)))) (w := W) (vs := [.slice a0 len0 cap0, .int .i64 b1, .agg cs2, .int .i64 b3, .int .i64 b4, .slice a5 len5 cap5]) rfl (S := fun b => b < W.heap.size) (fun j x h => ?_) (fun _ h => h) ⟨fun _ h => h.elim, trivial⟩).mono fun e W' ⟨v, μ, S', he, hv, hf⟩ => ?_
  · rcases j with _ | _ | _ | _ | _ | _ | j
    · simp only [List.getElem?_cons_zero, List.getElem?_cons_succ, Option.some.injEq] at h; subst h; exact R0
    · simp only [List.getElem?_cons_zero, List.getElem?_cons_succ, Option.some.injEq] at h; subst h; exact R1
    · simp only [List.getElem?_cons_zero, List.getElem?_cons_succ, Option.some.injEq] at h; subst h; exact R2
    · simp only [List.getElem?_cons_zero, List.getElem?_cons_succ, Option.some.injEq] at h; subst h; exact R3
    · simp only [List.getElem?_cons_zero, List.getElem?_cons_succ, Option.some.injEq] at h; subst h; exact R4
    · simp only [List.getElem?_cons_zero, List.getElem?_cons_succ, Option.some.injEq] at h; subst h; exact R5
    · simp at h
  subst he
  obtain rfl := hv.inv_bool
  exact ⟨_, rfl, post_true La.laid La.rowed La.full (by rw [Try.params10]; decide) rfl Try.underlying4 rfl hW' hf rfl rfl rfl⟩

theorem lifted (os : Os) (started : os.Started) (H : Type) (enc : TypeId × Value → H) (F : Stop.Interp) :
    ReturnsInHanded {} Try.checked os 10 .any ((Rows.OpenSpec.upto Rows.cacheTellsSpec).pre6 enc Try.prog Try.f10 Rows.cacheTellsUptoRow.domain false) (((Rows.OpenSpec.upto Rows.cacheTellsSpec).at F).post enc Try.prog Try.f10 false true false false) := by
  refine returnsInHanded_of_cond (C := Try.checked) (s := Rows.OpenSpec.upto Rows.cacheTellsSpec) (k := Rows.uptoSmall) rfl La.own started (by kernel_rfl) Try.func10
    (OpenSpec.witness (enc := enc) (C := Try.checked) (s := Rows.OpenSpec.upto Rows.cacheTellsSpec) (k := Rows.uptoSmall) rfl false ⟨#[], #[.slice none 0 0, .int .i64 0, .agg #[.int .i64 0, .bool false, .slice none 0 0, .slice none 0 0, .int .i64 0, .bool false, .int .i64 0, .int .i64 0], .int .i64 0, .int .i64 0, .slice none 0 0], []⟩ 8 (by kernel_rfl) (by kernel_rfl) (by kernel_rfl)
      (x := ([.nil, .lit (.int .i64 0), .agg [.agg [.lit (.int .i64 0), .lit (.bool false), .nil, .nil, .lit (.int .i64 0)], .lit (.bool false), .lit (.int .i64 0), .lit (.int .i64 0)], .lit (.int .i64 0), .lit (.int .i64 0), .nil], [], [])) (by kernel_rfl) rfl (by kernel_rfl)) ?_
  intro W base args ds gs before hval hW _ hk _
  exact contract H enc W base args ds gs before hval hW hk

theorem over : Rows.cacheTellsUptoRow.holds Try.pinned (Rows.OpenSpec.upto Rows.cacheTellsSpec) :=
  OpenClaim.holds_of_cond 10 Try.f10 rfl rfl rfl rfl rfl rfl rfl ⟨rfl, rfl, rfl, rfl, rfl⟩ rfl rfl rfl rfl rfl (by kernel_rfl) Try.func10 (by kernel_rfl)
    (of_decide_eq_true (by kernel_rfl)) (by unfold Func.isWrapper; first | (rw [if_pos (by decide +kernel)]; kernel_rfl) | (rw [if_neg (by decide +kernel)]; exact ⟨rfl, rfl⟩))
    (fun os started H enc _ F => lifted os started H enc F)

theorem proved : Rows.CacheTellsUptoSaid :=
  over
end Go.Proofs.Ytldpfleilffanaa.cacheTells
