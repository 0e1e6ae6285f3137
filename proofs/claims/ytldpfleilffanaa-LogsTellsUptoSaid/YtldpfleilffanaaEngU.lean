/- The abstract machine, part U: regions that draw, piece by piece: plain operations, calls, single operations. No condition. -/
import Derived.Test.YtldpfleilffanaaEngT
namespace Go.Eng
section
variable {P : Program} {T : Tab} {C : Ctx} {σ σ' s : St} {Ret : St → Prop}

theorem callArgs_agree {c : Operand} {args : List Operand} (h : ∀ x, x ∈ locsO σ c ++ locsL σ args → AgreeAt σ s x) : callArgs s c args = callArgs σ c args := by
  unfold callArgs
  rw [evS_agree (fun x hx => h x (List.mem_append_left _ hx)), evSL_agree (fun x hx => h x (List.mem_append_right _ hx))]

/-- what a call does in a region -/
def spCall (ops : Array Oper) (σ : St) (o : Oper) (c : Operand) (args : List Operand) (r : AV) : Sp := ⟨o.dst, r, [], locsG ops o.guard ++ (locsO σ c ++ locsL σ args)⟩

theorem spCall_app (ops : Array Oper) (σ : St) (o : Oper) (c : Operand) (args : List Operand) (r : AV) : (spCall ops σ o c args r).app σ = σ.put o.dst r := by simp [Sp.app, spCall]

/-- what holds at every state that agrees -/
theorem rob_trip {ops : Array Oper} {o : Oper} {x : AV} {rd : List Loc} {b : Bool} (hg : guardOf ops σ o.guard = some b) (hg0 : b = true ∨ ∃ y, x = .cnd false y)
    (h : b = true → ∀ s, (∀ l, l ∈ rd → AgreeAt σ s l) → Trip P C o s (s.put o.dst x)) : Rob P C ops o ⟨o.dst, x, [], locsG ops o.guard ++ rd⟩ σ := by
  intro s ha _ a w K Q hr hK
  have hg' : guardOf ops s o.guard = some b := by rw [guard_agree (fun x hx => ha x (List.mem_append_left _ hx))]; exact hg
  obtain ⟨μ, S, hi⟩ := hr
  rw [wanted_of hi hg']
  cases b with
  | true => exact .inl (h rfl s (fun l hl => ha l (List.mem_append_right _ hl)) a w K Q ⟨μ, S, hi⟩ hK)
  | false =>
    rcases hg0 with h | ⟨y, rfl⟩
    · cases h
    · exact hK _ _ ⟨μ, S, hi.put o.dst (.cndF y)⟩

theorem rob_call {ops : Array Oper} {o : Oper} {c : Operand} {args : Array Operand} {ats : Array TypeId} (ho : o.op = .call { callee := .value c, args, argTypes := ats }) (hg : o.guard = none) {p : Prop} {f : FuncId} {xs : List AV}
    (h : callArgs σ c args.toList = some (p, f, xs)) (hp : p) (hc : Callable P f) (hx : refsL xs = []) {r : AV} (hr : refs r = []) (hf : FnOK P f xs [] fun r' _ => r' = r) : Rob P C ops o (spCall ops σ o c args.toList r) σ :=
  rob_trip (b := true) (by rw [hg]; rfl) (.inl rfl) fun _ _ ha => trip_call ho (by rw [callArgs_agree ha]; exact h) hp hc hx hr hf

/-! ### Piece by piece -/

/-- new blocks bear numbers that are free -/
def FreshAll : List Sp → St → Prop
  | [], _ => True
  | p :: ps, σ => (∀ b, b ∈ p.new → hget σ.hp b.1 = none) ∧ FreshAll ps (p.app σ)

theorem app_none {p : Sp} {σ : St} {i : Nat} (h : hget (p.app σ).hp i = none) : hget σ.hp i = none := by
  simp only [Sp.app, St.put_hp] at h
  rw [hget_append] at h
  split at h
  · rename_i hx
    obtain ⟨b, hb, rfl⟩ := hx
    have : ∀ (l : List (Nat × Blk)), b ∈ l → hget l b.1 ≠ none := by
      intro l
      induction l with
      | nil => intro h; cases h
      | cons c r ih =>
        intro hm
        simp only [hget]
        split
        · intro h; cases h
        · rename_i hne
          rcases List.mem_cons.1 hm with rfl | hm
          · exact absurd rfl hne
          · exact ih hm
    exact absurd h (this p.new hb)
  · exact h

theorem FreshAll.get : ∀ {ps : List Sp} {σ : St}, FreshAll ps σ → ∀ (i : Nat) p, ps[i]? = some p → ∀ b, b ∈ p.new → hget σ.hp b.1 = none
  | [], _, _, i, p, h, _, _ => by simp at h
  | q :: ps, σ, hf, 0, p, h, b, hb => by
    simp only [List.getElem?_cons_zero, Option.some.injEq] at h
    subst h
    exact hf.1 b hb
  | q :: ps, σ, hf, i + 1, p, h, b, hb => app_none (hf.2.get i p (by simpa using h) b hb)

theorem FreshAll.append : ∀ {ps qs : List Sp} {σ : St}, FreshAll ps σ → FreshAll qs (appAll ps σ) → FreshAll (ps ++ qs) σ
  | [], _, _, _, h => h
  | _ :: _, _, _, h, h2 => ⟨h.1, h.2.append h2⟩

theorem FreshAll.of_nil : ∀ {ps : List Sp} {σ : St}, (∀ p, p ∈ ps → p.new = []) → FreshAll ps σ
  | [], _, _ => trivial
  | p :: ps, _, h => ⟨fun b hb => (by rw [h p (by simp)] at hb; cases hb), FreshAll.of_nil fun q hq => h q (by simp [hq])⟩

/-- from operation 'k + acc.length' of a segment that began at 'k' -/
def SegFrom (P : Program) (C : Ctx) (ops : Array Oper) (Q : Exit → Act → World → Prop) (k n : Nat) (acc : Skel) (l : List Oper) (σ : St) : Prop :=
  ∃ l1 l2 ps, l = l1 ++ l2 ∧ l1.length = ps.length ∧ RobChain P C ops l1 ps σ ∧ FreshAll ps σ ∧ (segOK ops k (acc ++ skel ps) && dstOK n (acc ++ skel ps)) = true ∧ DrawOK P C ops Q (k + acc.length + ps.length) (appAll ps σ)

theorem chain_append {ops : Array Oper} : ∀ {l1 l2 : List Oper} {p1 p2 : List Sp} {σ : St}, l1.length = p1.length → RobChain P C ops l1 p1 σ → RobChain P C ops l2 p2 (appAll p1 σ) → RobChain P C ops (l1 ++ l2) (p1 ++ p2) σ
  | [], _, [], _, _, _, _, h => h
  | _ :: l1, _, _ :: p1, _, _, hl, h, h2 => ⟨h.1, chain_append (by simpa using hl) h.2 h2⟩
  | [], _, _ :: _, _, _, hl, _, _ => by simp at hl
  | _ :: _, _, [], _, _, hl, _, _ => by simp at hl

theorem appAll_append : ∀ (p1 p2 : List Sp) (σ : St), appAll (p1 ++ p2) σ = appAll p2 (appAll p1 σ)
  | [], _, _ => rfl
  | _ :: p1, p2, _ => appAll_append p1 p2 _

theorem seg_add {ops : Array Oper} {Q : Exit → Act → World → Prop} {k n : Nat} {acc : Skel} {l1 l : List Oper} {ps : List Sp} (hl : l1.length = ps.length) (hc : RobChain P C ops l1 ps σ) (hn : FreshAll ps σ)
    (h : SegFrom P C ops Q k n (acc ++ skel ps) l (appAll ps σ)) : SegFrom P C ops Q k n acc (l1 ++ l) σ := by
  obtain ⟨m1, m2, qs, rfl, h2, h3, h4, h5, h6⟩ := h
  have e : acc ++ skel ps ++ skel qs = acc ++ skel (ps ++ qs) := by simp [skel]
  refine ⟨l1 ++ m1, m2, ps ++ qs, by simp, by simp [hl, h2], chain_append hl hc h3, hn.append h4, by rw [← e]; exact h5, ?_⟩
  rw [appAll_append]
  have e2 : k + (acc ++ skel ps).length + qs.length = k + acc.length + (ps ++ qs).length := by simp [skel]; omega
  rw [← e2]; exact h6

theorem seg_run (hT : TabOK P T) {ops : Array Oper} {Q : Exit → Act → World → Prop} {k n : Nat} {acc : Skel} {l l' : List Oper} {p : Prop} {ps : List Sp} (h : runD T ops l σ = some (p, ps, l', σ')) (hp : p) {sk : Skel} (hs : skel ps = sk)
    (hk : SegFrom P C ops Q k n (acc ++ sk) l' σ') : SegFrom P C ops Q k n acc l σ := by
  subst hs
  obtain ⟨h1, h2, h3⟩ := runD_len h
  obtain ⟨l1, k1, k2⟩ := runD_sound (P := P) (C := C) hT ops l σ h hp (l2 := []) (ps2 := []) trivial (by simp)
  simp only [List.append_nil] at k2
  subst k1
  refine seg_add (by simpa using h1) k2 (.of_nil fun p hp => ?_) (by rw [h2]; exact hk)
  obtain ⟨i, hi⟩ := List.getElem?_of_mem hp
  exact h3 i p hi

theorem seg_robN {ops : Array Oper} {Q : Exit → Act → World → Prop} {k n : Nat} {acc : Skel} {o : Oper} {l : List Oper} {q : Sp} (hq : Rob P C ops o q σ) (hn : ∀ b, b ∈ q.new → hget σ.hp b.1 = none) {sk : List Loc × List Loc} (hs : (q.wr, q.rd) = sk) (ha : q.app σ = σ')
    (hk : SegFrom P C ops Q k n (acc ++ [sk]) l σ') : SegFrom P C ops Q k n acc (o :: l) σ := by
  subst hs ha
  exact seg_add (l1 := [o]) (ps := [q]) rfl ⟨hq, trivial⟩ ⟨hn, trivial⟩ hk

theorem seg_rob {ops : Array Oper} {Q : Exit → Act → World → Prop} {k n : Nat} {acc : Skel} {o : Oper} {l : List Oper} {q : Sp} (hq : Rob P C ops o q σ) (hn : q.new = []) {sk : List Loc × List Loc} (hs : (q.wr, q.rd) = sk) (ha : q.app σ = σ')
    (hk : SegFrom P C ops Q k n (acc ++ [sk]) l σ') : SegFrom P C ops Q k n acc (o :: l) σ := by
  subst hs ha
  exact seg_add (l1 := [o]) (ps := [q]) rfl ⟨hq, trivial⟩ (.of_nil fun p hp => by rw [List.mem_singleton.1 hp]; exact hn) hk

/-- A CALL IN A REGION THAT DRAWS. -/
theorem seg_call {ops : Array Oper} {Q : Exit → Act → World → Prop} {k n : Nat} {acc : Skel} {o : Oper} {l : List Oper} {c : Operand} {args : Array Operand} {ats : Array TypeId} (ho : o.op = .call { callee := .value c, args, argTypes := ats }) (hg : o.guard = none) {p : Prop} {f : FuncId} {xs : List AV}
    (h : callArgs σ c args.toList = some (p, f, xs)) (hp : p) (hc : Callable P f) (hx : refsL xs = []) {r : AV} (hf : FnOK P f xs [] fun r' _ => r' = r) (hr : refs r = []) {sk : List Loc × List Loc} (hs : ((spCall ops σ o c args.toList r).wr, (spCall ops σ o c args.toList r).rd) = sk)
    (ha : σ.put o.dst r = σ') (hk : SegFrom P C ops Q k n (acc ++ [sk]) l σ') : SegFrom P C ops Q k n acc (o :: l) σ :=
  seg_rob (rob_call ho hg h hp hc hx hr hf) rfl hs (by rw [spCall_app]; exact ha) hk

theorem seg_end {ops : Array Oper} {Q : Exit → Act → World → Prop} {k n : Nat} {acc : Skel} {l : List Oper} (hc : (segOK ops k acc && dstOK n acc) = true) {j : Nat} (hj : k + acc.length = j) (h : DrawOK P C ops Q j σ) : SegFrom P C ops Q k n acc l σ := by
  subst hj
  exact ⟨[], l, [], rfl, rfl, trivial, trivial, by simpa [skel] using hc, h⟩

theorem seg_start {ops : Array Oper} {Q : Exit → Act → World → Prop} {k : Nat} {l : List Oper} (hl : ops.toList.drop k = l) (h : SegFrom P C ops Q k σ.tm.length [] l σ) : DrawOK P C ops Q k σ := by
  subst hl
  obtain ⟨l1, l2, ps, h1, h2, h3, h4, h5, h6⟩ := h
  rw [Bool.and_eq_true] at h5
  simp only [List.nil_append] at h5
  refine draw_seg (l := l1) (ps := ps) h5.1 h2 (fun i hi => ?_) (fun i q t hq hd => ?_) (fun i q hq b hb => h4.get i q hq b hb) h3 (by simpa using h6)
  · rw [← Array.getElem?_toList, ← List.getElem?_drop, h1, List.getElem?_append_left (by omega)]
  · have := List.all_eq_true.1 h5.2 (q.wr, q.rd) (List.mem_map.2 ⟨q, List.mem_of_getElem? hq, rfl⟩)
    have := List.all_eq_true.1 this (.tm t) (wr_tm hd)
    simpa using this

/-- one operation that all others wait for, and that waits for all before it -/
theorem draw_step (hT : TabOK P T) {ops : Array Oper} {Q : Exit → Act → World → Prop} {k : Nat} {o : Oper} (ho : ops[k]? = some o) (hc : Region.ready .any ops (doneTo ops.size k) = [k]) (hg : o.guard = none) {p : Prop} (h : stepOp T σ o.dst o.op = some (p, σ')) (hp : p)
    {j : Nat} (hj : k + 1 = j) (hk : DrawOK P C ops Q j σ') : DrawOK P C ops Q k σ := by
  subst hj
  refine draw_one ho hc (fun a w K Q' hr hK => ?_) hk
  obtain ⟨μ, S, hi⟩ := hr
  rw [wanted_of hi (show guardOf ops σ o.guard = some true from by rw [hg]; rfl)]
  exact .inl (step_sound hT o h hp a w K Q' ⟨μ, S, hi⟩ hK)

/-- a call that all others wait for -/
theorem draw_trip {ops : Array Oper} {Q : Exit → Act → World → Prop} {k : Nat} {o : Oper} (ho : ops[k]? = some o) (hc : Region.ready .any ops (doneTo ops.size k) = [k]) (hg : o.guard = none) (h : Trip P C o σ σ')
    {j : Nat} (hj : k + 1 = j) (hk : DrawOK P C ops Q j σ') : DrawOK P C ops Q k σ := by
  subst hj
  refine draw_one ho hc (fun a w K Q' hr hK => ?_) hk
  obtain ⟨μ, S, hi⟩ := hr
  rw [wanted_of hi (show guardOf ops σ o.guard = some true from by rw [hg]; rfl)]
  exact .inl (h a w K Q' ⟨μ, S, hi⟩ hK)
/-- a call whose arguments, and whose result, hold nothing of ours -/
theorem cw_call {k : List It} {all : Array Oper} {o : Oper} {l : List Oper} {c : Operand} {args : Array Operand} {ats : Array TypeId} (ho : o.op = .call { callee := .value c, args, argTypes := ats }) (hg : o.guard = none) {p : Prop} {f : FuncId} {xs : List AV}
    (h : callArgs σ c args.toList = some (p, f, xs)) (hp : p) (hc : Callable P f) (hx : refsL xs = []) {r : AV} (hf : FnOK P f xs [] fun r' _ => r' = r) (hr : refs r = []) (ha : σ.put o.dst r = σ') (hk : Cw P C Ret (.ops all l :: k) σ') : Cw P C Ret (.ops all (o :: l) :: k) σ := by
  subst ha
  exact cw_step (by rw [hg]; rfl) (trip_call ho h hp hc hx hr hf) hk

theorem cw_callG {k : List It} {all : Array Oper} {o : Oper} {l : List Oper} {c : Operand} {args : Array Operand} {ats : Array TypeId} (ids : List Nat) (off : Nat) (ho : o.op = .call { callee := .value c, args, argTypes := ats }) (hg : o.guard = none) {p : Prop} {f : FuncId} {xs : List AV}
    (h : callArgs σ c args.toList = some (p, f, xs)) (hp : p) (hc : Callable P f) {H K : List (Nat × Blk)} {r : AV} (hH : sub ids σ.hp = H)
    (hf : FnOK P f xs H fun r' H' => r' = r ∧ ∀ id b, hget K id = some b → hget H' id = some b)
    (hck : (refsL xs).all ids.contains = true) (hc1 : (H.all fun p => (refsB p.2).all ids.contains) = true) (hc2 : ((del ids σ.hp).all fun p => (refsB p.2).all fun i => !ids.contains i) = true)
    (hc3 : closed K (refs r) = true) (hc4 : (K.all fun p => (hget σ.hp (p.1 + off)).isNone) = true) (hτ : (⟨σ.tm.map (killL ids), renH off K ++ del ids σ.hp⟩ : St).put o.dst (ren off r) = σ')
    (hk : Cw P C Ret (.ops all l :: k) σ') : Cw P C Ret (.ops all (o :: l) :: k) σ :=
  cw_step (by rw [hg]; rfl) (trip_callG ho h hp hc ids off hH hck hc1 hc2 hc3 hc4 hf hτ) hk
/-- SO MANY OPERATIONS OF A LIST. -/
theorem cw_runN (hT : TabOK P T) (n : Nat) {k : List It} {all : Array Oper} {l l1 l2 : List Oper} {p : Prop} (h1 : l.take n = l1) (h2 : l.drop n = l2) (h : runL T all l1 σ = some (p, [], σ')) (hp : p) (hk : Cw P C Ret (.ops all l2 :: k) σ') : Cw P C Ret (.ops all l :: k) σ := by
  subst h1 h2
  intro a w hr
  have := runL_then (P := P) (C := C) hT all (l.drop n) (l.take n) σ (Q := aft (RetOf C Ret) (sem P C (RetOf C Ret) k)) h hp (fun a w hr => hk a w hr)
  rw [List.take_append_drop] at this
  exact this a w hr

/-- so many plain operations of a segment -/
theorem seg_runN (hT : TabOK P T) (m : Nat) {ops : Array Oper} {Q : Exit → Act → World → Prop} {k n : Nat} {acc : Skel} {l l1 l2 : List Oper} {p : Prop} {ps : List Sp} (h1 : l.take m = l1) (h2 : l.drop m = l2) (h : runD T ops l1 σ = some (p, ps, [], σ')) (hp : p) {sk : Skel} (hs : skel ps = sk)
    (hk : SegFrom P C ops Q k n (acc ++ sk) l2 σ') : SegFrom P C ops Q k n acc l σ := by
  subst hs h1 h2
  obtain ⟨g1, g2, g3⟩ := runD_len h
  obtain ⟨q1, k1, k2⟩ := runD_sound (P := P) (C := C) hT ops (l.take m) σ h hp (l2 := []) (ps2 := []) trivial (by simp)
  simp only [List.append_nil] at k1 k2
  subst k1
  have := seg_add (l1 := l.take m) (l := l.drop m) (by simpa using g1) k2 (.of_nil fun p hp => by
    obtain ⟨i, hi⟩ := List.getElem?_of_mem hp
    exact g3 i p hi) (by rw [g2]; exact hk)
  rwa [List.take_append_drop] at this
end
end Go.Eng
