/- The abstract machine, part Z: calls that look at what is held. No condition. -/
import Derived.Test.YtldpfleilffanaaEngW
namespace Go.Eng
section
variable {P : Program} {T : Tab} {C : Ctx} {σ σ' s : St} {Ret : St → Prop}

mutual
theorem view_agree {h h' : List (Nat × Blk)} : ∀ (x : AV), (∀ id, id ∈ refs x → hget h' id = hget h id) → view h' x = view h x
  | .osl id s off len, he => by simp only [view]; rw [he id (by simp [refs])]
  | .ptr id s row off, he => by simp only [view]; rw [he id (by simp [refs])]
  | .mp id, he => by simp only [view]; rw [he id (by simp [refs])]
  | .fn f caps, he => by simp only [view]; rw [viewL_agree caps (fun id hid => he id (by simpa [refs] using hid))]
  | .agg cells, he => by simp only [view]; rw [viewL_agree cells (fun id hid => he id (by simpa [refs] using hid))]
  | .any, _ => rfl
  | .tup _, _ => rfl
  | .cnd .., _ => rfl
  | .int .., _ => rfl
  | .bool _, _ => rfl
  | .str _, _ => rfl
  | .nilp, _ => rfl
  | .nili, _ => rfl
  | .nils, _ => rfl
  | .nilm, _ => rfl
  | .sl _, _ => rfl
  | .rp .., _ => rfl
  | .rm _, _ => rfl
theorem viewL_agree {h h' : List (Nat × Blk)} : ∀ (l : List AV), (∀ id, id ∈ refsL l → hget h' id = hget h id) → viewL h' l = viewL h l
  | [], _ => rfl
  | x :: r, he => by
    simp only [viewL]
    rw [view_agree x (fun id hid => he id (by simp [refsL, hid])), viewL_agree r (fun id hid => he id (by simp [refsL, hid]))]
end

theorem evSL_refs {id : Nat} : ∀ {os : List Operand}, id ∈ refsL (evSL σ os).2 → Loc.blk id ∈ locsL σ os
  | [], h => by simp [evSL, refsL] at h
  | o :: r, h => by
    simp only [evSL, refsL, List.mem_append] at h
    simp only [locsL, List.mem_append]
    rcases h with h | h
    · refine .inl ?_
      have h' := strip_refs (ev σ o) id h
      cases o with
      | tmp t => exact List.mem_cons_of_mem _ (List.mem_map.2 ⟨id, h', rfl⟩)
      | const v =>
        simp only [ev, ofValue] at h'
        split at h' <;> simp [refs] at h'
      | func f => simp [ev, refs, refsL] at h'
      | global g => simp [ev, refs] at h'
    · exact .inr (evSL_refs h)

theorem refsL_append (l m : List AV) : refsL (l ++ m) = refsL l ++ refsL m := by
  induction l with
  | nil => rfl
  | cons x r ih => simp only [List.cons_append, refsL, ih, List.append_assoc]

theorem callArgs_refs {c : Operand} {args : List Operand} {p : Prop} {f : FuncId} {xs : List AV} (h : callArgs σ c args = some (p, f, xs)) {id : Nat} (hid : id ∈ refsL xs) : Loc.blk id ∈ locsO σ c ++ locsL σ args := by
  unfold callArgs at h
  split at h
  · rename_i q g caps he
    simp only [Option.some.injEq, Prod.mk.injEq] at h
    obtain ⟨_, _, rfl⟩ := h
    rw [refsL_append, List.mem_append] at hid
    rcases hid with hid | hid
    · exact List.mem_append_right _ (evSL_refs hid)
    · refine List.mem_append_left _ ?_
      have : id ∈ refsL (evSL σ [c]).2 := by
        simp only [evSL, he, refsL, refs, List.mem_append]
        exact .inl hid
      simpa [locsL] using evSL_refs this
  · cases h

theorem cw_view {k : List It} {all : Array Oper} {o : Oper} {l : List Oper} {c : Operand} {args : Array Operand} {ats : Array TypeId} (ho : o.op = .call { callee := .value c, args, argTypes := ats }) (hg : o.guard = none) {p q : Prop} {f : FuncId} {xs ys : List AV}
    (h : callArgs σ c args.toList = some (p, f, xs)) (hp : p) (hv : viewL σ.hp xs = some (q, ys)) (hq : q) (hc : Callable P f) {r : AV} (hf : FnOK P f ys [] fun r' _ => r' = r) (hr : r.scalar = true) (ha : σ.put o.dst r = σ') (hk : Cw P C Ret (.ops all l :: k) σ') : Cw P C Ret (.ops all (o :: l) :: k) σ := by
  subst ha
  exact cw_step (by rw [hg]; rfl) (trip_view ho h hp hv hq hc hr hf) hk

/-- a call that looks at what is held, behind a guard -/
theorem cw_viewC {k : List It} {all : Array Oper} {o : Oper} {l : List Oper} {c : Operand} {args : Array Operand} {ats : Array TypeId} (ho : o.op = .call { callee := .value c, args, argTypes := ats }) {b : Bool} (hg : guardOf all σ o.guard = some b) {p q : Prop} {f : FuncId} {xs ys : List AV}
    (h : callArgs σ c args.toList = some (p, f, xs)) (hp : b = true → p) (hv : viewL σ.hp xs = some (q, ys)) (hq : b = true → q) (hc : Callable P f) {r : AV} (hf : b = true → FnOK P f ys [] fun r' _ => r' = r) (hr : r.scalar = true) (ha : σ.put o.dst (.cnd b r) = σ') (hk : Cw P C Ret (.ops all l :: k) σ') : Cw P C Ret (.ops all (o :: l) :: k) σ := by
  subst ha
  intro a w hrel
  show wpList P all _ (o :: l) a w
  unfold wpList
  obtain ⟨μ, S, hi⟩ := hrel
  rw [wanted_of hi hg]
  cases b with
  | false => exact hk _ _ ⟨μ, S, hi.put o.dst (.cndF r)⟩
  | true => exact .inl ((trip_view ho h (hp rfl) hv (hq rfl) hc hr (hf rfl)).cnd a w _ _ ⟨μ, S, hi⟩ fun a' w' h' => hk a' w' h')

theorem viewed_agree {c : Operand} {args : List Operand} {p : Prop} {f : FuncId} {xs : List AV} (h : callArgs σ c args = some (p, f, xs)) (ha : ∀ x, x ∈ locsO σ c ++ locsL σ args → AgreeAt σ s x) : viewL s.hp xs = viewL σ.hp xs :=
  viewL_agree xs fun _ hid => ha _ (callArgs_refs h hid)

theorem rob_view {ops : Array Oper} {o : Oper} {c : Operand} {args : Array Operand} {ats : Array TypeId} (ho : o.op = .call { callee := .value c, args, argTypes := ats }) (hg : o.guard = none) {p q : Prop} {f : FuncId} {xs ys : List AV}
    (h : callArgs σ c args.toList = some (p, f, xs)) (hp : p) (hv : viewL σ.hp xs = some (q, ys)) (hq : q) (hc : Callable P f) {r : AV} (hr : r.scalar = true) (hf : FnOK P f ys [] fun r' _ => r' = r) : Rob P C ops o (spCall ops σ o c args.toList r) σ :=
  rob_trip (b := true) (by rw [hg]; rfl) (.inl rfl) fun _ _ ha => trip_view ho (by rw [callArgs_agree ha]; exact h) hp (by rw [viewed_agree h ha]; exact hv) hq hc hr hf

theorem rob_viewC {ops : Array Oper} {o : Oper} {c : Operand} {args : Array Operand} {ats : Array TypeId} (ho : o.op = .call { callee := .value c, args, argTypes := ats }) {b : Bool} (hg : guardOf ops σ o.guard = some b) {p q : Prop} {f : FuncId} {xs ys : List AV}
    (h : callArgs σ c args.toList = some (p, f, xs)) (hp : b = true → p) (hv : viewL σ.hp xs = some (q, ys)) (hq : b = true → q) (hc : Callable P f) {r : AV} (hr : r.scalar = true) (hf : b = true → FnOK P f ys [] fun r' _ => r' = r) : Rob P C ops o (spCall ops σ o c args.toList (.cnd b r)) σ := by
  refine rob_trip (b := b) hg ?_ fun hb s ha => ?_
  · cases b with
    | true => exact .inl rfl
    | false => exact .inr ⟨r, rfl⟩
  · subst hb
    exact (trip_view ho (by rw [callArgs_agree ha]; exact h) (hp rfl) (by rw [viewed_agree h ha]; exact hv) (hq rfl) hc hr (hf rfl)).cnd

theorem seg_view {ops : Array Oper} {Q : Exit → Act → World → Prop} {k n : Nat} {acc : Skel} {o : Oper} {l : List Oper} {c : Operand} {args : Array Operand} {ats : Array TypeId} (ho : o.op = .call { callee := .value c, args, argTypes := ats }) (hg : o.guard = none) {p q : Prop} {f : FuncId} {xs ys : List AV}
    (h : callArgs σ c args.toList = some (p, f, xs)) (hp : p) (hv : viewL σ.hp xs = some (q, ys)) (hq : q) (hc : Callable P f) {r : AV} (hf : FnOK P f ys [] fun r' _ => r' = r) (hr : r.scalar = true) {sk : List Loc × List Loc} (hs : ((spCall ops σ o c args.toList r).wr, (spCall ops σ o c args.toList r).rd) = sk)
    (ha : σ.put o.dst r = σ') (hk : SegFrom P C ops Q k n (acc ++ [sk]) l σ') : SegFrom P C ops Q k n acc (o :: l) σ :=
  seg_rob (rob_view ho hg h hp hv hq hc hr hf) rfl hs (by rw [spCall_app]; exact ha) hk

theorem seg_viewC {ops : Array Oper} {Q : Exit → Act → World → Prop} {k n : Nat} {acc : Skel} {o : Oper} {l : List Oper} {c : Operand} {args : Array Operand} {ats : Array TypeId} (ho : o.op = .call { callee := .value c, args, argTypes := ats }) {b : Bool} (hg : guardOf ops σ o.guard = some b) {p q : Prop} {f : FuncId} {xs ys : List AV}
    (h : callArgs σ c args.toList = some (p, f, xs)) (hp : b = true → p) (hv : viewL σ.hp xs = some (q, ys)) (hq : b = true → q) (hc : Callable P f) {r : AV} (hf : b = true → FnOK P f ys [] fun r' _ => r' = r) (hr : r.scalar = true) {sk : List Loc × List Loc} (hs : ((spCall ops σ o c args.toList (.cnd b r)).wr, (spCall ops σ o c args.toList (.cnd b r)).rd) = sk)
    (ha : σ.put o.dst (.cnd b r) = σ') (hk : SegFrom P C ops Q k n (acc ++ [sk]) l σ') : SegFrom P C ops Q k n acc (o :: l) σ :=
  seg_rob (rob_viewC ho hg h hp hv hq hc hr hf) rfl hs (by rw [spCall_app]; exact ha) hk

/-! ### New blocks, and what is not carried out, in a region that draws -/

theorem seg_skip (x : AV) {ops : Array Oper} {Q : Exit → Act → World → Prop} {k n : Nat} {acc : Skel} {o : Oper} {l : List Oper} (hg : guardOf ops σ o.guard = some false) {sk : List Loc × List Loc}
    (hs : ((⟨o.dst, .cnd false x, [], locsG ops o.guard ++ []⟩ : Sp).wr, locsG ops o.guard) = sk) (ha : σ.put o.dst (.cnd false x) = σ') (hk : SegFrom P C ops Q k n (acc ++ [sk]) l σ') : SegFrom P C ops Q k n acc (o :: l) σ :=
  seg_rob (rob_trip (rd := []) hg (.inr ⟨x, rfl⟩) (fun h => nomatch h)) rfl (by rw [← hs, List.append_nil]) (by rw [← ha]; simp [Sp.app]) hk

def newOp (T : Tab) (σ : St) (d : Nat) (op : Op) : Option (Prop × Blk × AV) :=
  match op with
  | .buildSlice t n parts =>
    match buildSliceOp T σ t n parts.toList with
    | some (p, e, rows) => some (p, .cells e (T.siz e) rows, .osl d (T.siz e) 0 n)
    | none => none
  | .alloc t => some (T.siz t ≠ 0 ∧ (T.zer t).length = T.siz t, .cells t (T.siz t) [T.zer t], .ptr d (T.siz t) 0 0)
  | .box t x =>
    match cellsAt T t (evS σ x).2 with
    | some xs => some ((evS σ x).1 ∧ xs.length = T.siz t ∧ xs.all AV.leaf = true, .cells t (T.siz t) [xs], .ptr d (T.siz t) 0 0)
    | none => none
  | .makeMap _ none => some (True, .map [], .mp d)
  | _ => none

theorem partsE_agree {e n : Nat} : ∀ {parts : List (Nat × Operand)}, (∀ q, q ∈ parts → evS s q.2 = evS σ q.2) → partsE T s e n parts = partsE T σ e n parts
  | [], _ => rfl
  | (j, o) :: r, h => by
    simp only [partsE]
    rw [h (j, o) (by simp), partsE_agree (fun q hq => h q (by simp [hq]))]

theorem newOp_agree {d : Nat} {op : Op} (h : ∀ x, x ∈ locsL σ op.operands.toList → AgreeAt σ s x) : newOp T s d op = newOp T σ d op := by
  have he : ∀ o, o ∈ op.operands.toList → evS s o = evS σ o := fun o ho => evS_agree fun x hx => h x (locsL_mem ho x hx)
  unfold newOp
  split
  · rename_i t n parts
    have : buildSliceOp T s t n parts.toList = buildSliceOp T σ t n parts.toList := by
      unfold buildSliceOp
      split
      · rw [partsE_agree (fun q hq => he q.2 (by
          simp only [Op.operands, List.toList_toArray]
          exact List.mem_map.2 ⟨q, hq, rfl⟩))]
      · rfl
    rw [this]
  · rfl
  · rw [he _ (by simp [Op.operands])]
  · rfl
  · rfl

theorem room_none {d : Nat} (h : hget s.hp d = none) : s.room d = (True, s) := by unfold St.room; rw [h]

theorem newOp_sound (hT : TabOK P T) {o : Oper} {d : Nat} (hd : o.dst = some d) {p : Prop} {b : Blk} {x : AV} (h : newOp T s d o.op = some (p, b, x)) (hp : p) (hf : hget s.hp d = none) :
    Trip P C o s (St.put ⟨s.tm, (d, b) :: s.hp⟩ (some d) x) := by
  have hr := room_none hf
  unfold newOp at h
  split at h
  · rename_i t n parts ho
    split at h
    · rename_i q e rows hb
      simp only [Option.some.injEq, Prod.mk.injEq] at h
      obtain ⟨rfl, rfl, rfl⟩ := h
      refine step_sound hT o (p := q ∧ True) ?_ ⟨hp, trivial⟩
      rw [hd, ho]
      simp only [stepOp, hr, hb]
    · cases h
  · rename_i t ho
    simp only [Option.some.injEq, Prod.mk.injEq] at h
    obtain ⟨rfl, rfl, rfl⟩ := h
    refine step_sound hT o (p := T.siz t ≠ 0 ∧ (T.zer t).length = T.siz t ∧ True) ?_ ⟨hp.1, hp.2, trivial⟩
    rw [hd, ho]
    simp only [stepOp, hr]
  · rename_i t y ho
    split at h
    · rename_i xs hx
      simp only [Option.some.injEq, Prod.mk.injEq] at h
      obtain ⟨rfl, rfl, rfl⟩ := h
      refine step_sound hT o (p := (evS s y).1 ∧ xs.length = T.siz t ∧ xs.all AV.leaf = true ∧ True) ?_ ⟨hp.1, hp.2.1, hp.2.2, trivial⟩
      rw [hd, ho]
      simp only [stepOp, hr, hx]
    · cases h
  · rename_i t ho
    simp only [Option.some.injEq, Prod.mk.injEq] at h
    obtain ⟨rfl, rfl, rfl⟩ := h
    refine step_sound hT o (p := True) ?_ trivial
    rw [hd, ho]
    simp only [stepOp, hr]
  · cases h

/-- A NEW BLOCK IN A REGION THAT DRAWS. -/
theorem seg_new (hT : TabOK P T) {ops : Array Oper} {Q : Exit → Act → World → Prop} {k n : Nat} {acc : Skel} {o : Oper} {l : List Oper} {d : Nat} (hd : o.dst = some d) (hg : guardOf ops σ o.guard = some true) {p : Prop} {b : Blk} {x : AV} (h : newOp T σ d o.op = some (p, b, x)) (hp : p) (hf : hget σ.hp d = none)
    {sk : List Loc × List Loc} (hs : ([Loc.tm d, Loc.blk d], locsG ops o.guard ++ locsL σ o.op.operands.toList) = sk) (ha : St.put ⟨σ.tm, (d, b) :: σ.hp⟩ (some d) x = σ') (hk : SegFrom P C ops Q k n (acc ++ [sk]) l σ') : SegFrom P C ops Q k n acc (o :: l) σ := by
  refine seg_robN (q := ⟨some d, x, [(d, b)], locsG ops o.guard ++ locsL σ o.op.operands.toList⟩) ?_ (fun c hc => by rw [List.mem_singleton.1 hc]; exact hf) (by rw [← hs]; rfl) (by rw [← ha]; rfl) hk
  intro s hagree hfree a w K Q' hr hK
  have hg' : guardOf ops s o.guard = some true := by rw [guard_agree (fun x hx => hagree x (List.mem_append_left _ hx))]; exact hg
  obtain ⟨μ, S, hi⟩ := hr
  rw [wanted_of hi hg']
  refine .inl ?_
  have hn : newOp T s d o.op = some (p, b, x) := by rw [newOp_agree (fun x hx => hagree x (List.mem_append_right _ hx))]; exact h
  exact newOp_sound hT hd hn hp (hfree (d, b) (by simp)) a w K Q' ⟨μ, S, hi⟩ hK
attribute [go_sem] newOp
end
end Go.Eng
