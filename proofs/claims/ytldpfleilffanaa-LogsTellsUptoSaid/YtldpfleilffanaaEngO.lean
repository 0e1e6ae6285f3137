/- The abstract machine, part O: what operations of a region that draws read and do, whatever came before. No condition. -/
import Derived.Test.YtldpfleilffanaaEngM
namespace Go.Eng
section
variable {P : Program} {T : Tab} {C : Ctx} {σ σ' s : St}

/-- the places that an operand leads to -/
def locsO (σ : St) : Operand → List Loc
  | .tmp t => .tm t :: (refs (σ.tm.getD t .any)).map .blk
  | _ => []

def locsL (σ : St) : List Operand → List Loc
  | [] => []
  | o :: r => locsO σ o ++ locsL σ r

def locsG (ops : Array Oper) (g : Option (Nat × Bool)) : List Loc :=
  match g with
  | none => []
  | some (j, _) =>
    match (ops[j]?).bind (·.dst) with
    | some d => [.tm d]
    | none => []

theorem ev_agree {o : Operand} (h : ∀ x, x ∈ locsO σ o → AgreeAt σ s x) : ev s o = ev σ o := by
  cases o with
  | tmp t => exact h (.tm t) (by simp [locsO])
  | _ => rfl

theorem evS_agree {o : Operand} (h : ∀ x, x ∈ locsO σ o → AgreeAt σ s x) : evS s o = evS σ o := by unfold evS; rw [ev_agree h]

theorem strip_refs (x : AV) : ∀ id, id ∈ refs (strip x).2 → id ∈ refs x := by
  intro id h
  cases x <;> first | exact h | simpa [strip, refs] using h

theorem blk_agree {o : Operand} (h : ∀ x, x ∈ locsO σ o → AgreeAt σ s x) {id : Nat} (hid : id ∈ refs (evS σ o).2) : hget s.hp id = hget σ.hp id := by
  have h1 := strip_refs _ id hid
  cases o with
  | tmp t =>
    refine h (.blk id) ?_
    simp only [ev] at h1
    exact List.mem_cons_of_mem _ (List.mem_map.2 ⟨id, h1, rfl⟩)
  | const v =>
    simp only [ev] at h1
    exfalso
    revert h1
    unfold ofValue
    split <;> simp [refs]
  | func f => simp [ev, refs, refsL] at h1
  | global g => simp [ev, refs] at h1

theorem locsL_mem {os : List Operand} {o : Operand} (ho : o ∈ os) : ∀ x, x ∈ locsO σ o → x ∈ locsL σ os := by
  intro x hx
  induction os with
  | nil => cases ho
  | cons y r ih =>
    simp only [locsL, List.mem_append]
    rcases List.mem_cons.1 ho with rfl | h
    · exact .inl hx
    · exact .inr (ih h)

theorem evSL_agree : ∀ {os : List Operand}, (∀ x, x ∈ locsL σ os → AgreeAt σ s x) → evSL s os = evSL σ os
  | [], _ => rfl
  | o :: r, h => by
    simp only [evSL]
    rw [evS_agree (fun x hx => h x (by simp [locsL, hx])), evSL_agree (fun x hx => h x (by simp [locsL, hx]))]

theorem loadOp_agree {t : TypeId} {x : AV} (h : ∀ id, id ∈ refs x → hget s.hp id = hget σ.hp id) : loadOp T s t x = loadOp T σ t x := by
  unfold loadOp
  split
  · rfl
  · rename_i id size row off
    rw [h id (by simp [refs])]
  · rfl

theorem lenAV_agree {t : TypeId} {x : AV} (h : ∀ id, id ∈ refs x → hget s.hp id = hget σ.hp id) : lenAV T s t x = lenAV T σ t x := by
  unfold lenAV
  split <;> try rfl
  rename_i id hu
  rw [h id (by simp [refs])]

/-- WHAT AN OPERATION YIELDS HANGS ON THE PLACES THAT ITS OPERANDS LEAD TO ALONE. -/
theorem mapOf_agree {x : AV} (h : ∀ id, id ∈ refs x → hget s.hp id = hget σ.hp id) : mapOf s x = mapOf σ x := by
  unfold mapOf
  split
  · rfl
  · rfl
  · rw [h _ (by simp [refs])]
  · rfl

theorem pureOp_agree {op : Op} (h : ∀ x, x ∈ locsL σ op.operands.toList → AgreeAt σ s x) : pureOp T s op = pureOp T σ op := by
  have he : ∀ o, o ∈ op.operands.toList → evS s o = evS σ o := fun o ho => evS_agree fun x hx => h x (locsL_mem ho x hx)
  have hv : ∀ o, o ∈ op.operands.toList → ev s o = ev σ o := fun o ho => ev_agree fun x hx => h x (locsL_mem ho x hx)
  have hb : ∀ o, o ∈ op.operands.toList → ∀ id, id ∈ refs (evS σ o).2 → hget s.hp id = hget σ.hp id := fun o ho id hid => blk_agree (fun x hx => h x (locsL_mem ho x hx)) hid
  unfold pureOp
  split
  · rw [hv _ (by simp [Op.operands])]
  · rw [hv _ (by simp [Op.operands])]
  · rename_i c x y; rw [hv c (by simp [Op.operands]), hv x (by simp [Op.operands]), hv y (by simp [Op.operands])]
  · rename_i t x
    rw [he x (by simp [Op.operands]), loadOp_agree (hb x (by simp [Op.operands]))]
  · rename_i x; rw [he x (by simp [Op.operands])]
  · rename_i op t x y ty; rw [he x (by simp [Op.operands]), he y (by simp [Op.operands])]
  · rename_i op t x; rw [he x (by simp [Op.operands])]
  · rename_i t x j; rw [he x (by simp [Op.operands])]
  · rename_i t x j; rw [he x (by simp [Op.operands])]
  · rename_i t x y; rw [he x (by simp [Op.operands]), he y (by simp [Op.operands])]
  · rename_i t x y; rw [he x (by simp [Op.operands]), he y (by simp [Op.operands])]
  · rename_i t x lo hi
    rw [he x (by simp [Op.operands])]
    have e1 : (lo.map fun o => (evS s o).2) = lo.map fun o => (evS σ o).2 := by
      cases lo with
      | none => rfl
      | some o => simp only [Option.map_some]; rw [he o (by simp [Op.operands])]
    have e2 : (hi.map fun o => (evS s o).2) = hi.map fun o => (evS σ o).2 := by
      cases hi with
      | none => rfl
      | some o => simp only [Option.map_some]; rw [he o (by simp [Op.operands])]
    have e3 : evSL s lo.toList = evSL σ lo.toList := by
      cases lo with
      | none => rfl
      | some o => simp only [Option.toList, evSL]; rw [he o (by simp [Op.operands])]
    have e4 : evSL s hi.toList = evSL σ hi.toList := by
      cases hi with
      | none => rfl
      | some o => simp only [Option.toList, evSL]; rw [he o (by simp [Op.operands])]
    rw [e1, e2, e3, e4]
  · rename_i x j; rw [he x (by simp [Op.operands])]
  · rename_i f first captured
    have : evSL s captured.toList = evSL σ captured.toList := evSL_agree fun x hx => h x (by
      have hm : ∀ (l : List Operand), (∀ o, o ∈ l → o ∈ (Op.makeFunc (.func f) first captured).operands.toList) → ∀ x, x ∈ locsL σ l → x ∈ locsL σ (Op.makeFunc (.func f) first captured).operands.toList := by
        intro l
        induction l with
        | nil => intro _ x hx; cases hx
        | cons o r ih =>
          intro ho x hx
          simp only [locsL, List.mem_append] at hx
          rcases hx with hx | hx
          · exact locsL_mem (ho o (List.mem_cons_self ..)) x hx
          · exact ih (fun o' ho' => ho o' (List.mem_cons_of_mem _ ho')) x hx
      exact hm _ (fun o ho => by simp [Op.operands] at ho ⊢; exact .inr ho) x hx)
    rw [this]
  · rename_i args ats
    split
    · rename_i x t hx ht
      have hm : x ∈ (Op.call { callee := .builtin .len, args, argTypes := ats }).operands.toList := by simp [Op.operands, Call.operands, hx]
      rw [he x hm, lenAV_agree (hb x hm)]
    · rfl
  · rename_i s t x; rw [he x (by simp [Op.operands])]
  · rename_i t x i ok
    unfold lookAV
    rw [he x (by simp [Op.operands]), he i (by simp [Op.operands]), mapOf_agree (hb x (by simp [Op.operands]))]
  · rfl

theorem guard_agree {ops : Array Oper} {g : Option (Nat × Bool)} (h : ∀ x, x ∈ locsG ops g → AgreeAt σ s x) : guardOf ops s g = guardOf ops σ g := by
  unfold guardOf
  split
  · rfl
  · rename_i j want
    split
    · rename_i d hd
      have := h (.tm d) (by simp [locsG, hd])
      simp only [AgreeAt] at this
      rw [this]
    · rfl

/-- what an operation that leaves the world as it is does in a region -/
def spPure (ops : Array Oper) (σ : St) (o : Oper) (x : AV) : Sp := ⟨o.dst, x, [], locsG ops o.guard ++ locsL σ o.op.operands.toList⟩

theorem rob_pure (hT : TabOK P T) {ops : Array Oper} {o : Oper} {c : Bool} {p : Prop} {x : AV} (hg : guardOf ops σ o.guard = some c) (h : pureOp T σ o.op = some (p, x)) (hp : c = true → p) (hc : c = true ∨ ∃ y, x = .cnd c y ∨ True) :
    Rob P C ops o (spPure ops σ o (mkc c x)) σ := by
  intro s ha _ a w K Q hr hK
  have hg' : guardOf ops s o.guard = some c := by rw [guard_agree (fun x hx => ha x (List.mem_append_left _ hx))]; exact hg
  have h' : pureOp T s o.op = some (p, x) := by rw [pureOp_agree (fun x hx => ha x (List.mem_append_right _ hx))]; exact h
  obtain ⟨μ, S, hi⟩ := hr
  rw [wanted_of hi hg']
  cases c with
  | false => exact hK _ _ ⟨μ, S, hi.put o.dst (rd_mkc (.cndF x))⟩
  | true =>
    refine .inl ?_
    obtain ⟨u, h1, h2⟩ := sound_pure hT hi o h' (hp rfl)
    unfold Oper.wp
    rw [h1]
    exact hK _ _ ⟨μ, S, hi.put o.dst (rd_mkc (.cndT u x h2))⟩

theorem rob_pure0 (hT : TabOK P T) {ops : Array Oper} {o : Oper} {p : Prop} {x : AV} (hg : o.guard = none) (h : pureOp T σ o.op = some (p, x)) (hp : p) : Rob P C ops o (spPure ops σ o x) σ := by
  intro s ha _ a w K Q hr hK
  have h' : pureOp T s o.op = some (p, x) := by rw [pureOp_agree (fun x hx => ha x (List.mem_append_right _ hx))]; exact h
  obtain ⟨μ, S, hi⟩ := hr
  have hw : Region.wanted o (yielded ops a.tmps) = true := wanted_of hi (by rw [hg]; rfl)
  rw [hw]
  refine .inl ?_
  obtain ⟨u, h1, h2⟩ := sound_pure hT hi o h' hp
  unfold Oper.wp
  rw [h1]
  exact hK _ _ ⟨μ, S, hi.put o.dst h2⟩

/-- IN A REGION THAT DRAWS: plain operations, one behind the other, as far as the next that is none. -/
def runD (T : Tab) (ops : Array Oper) : List Oper → St → Option (Prop × List Sp × List Oper × St)
  | [], σ => some (True, [], [], σ)
  | o :: l, σ =>
    match pureOp T σ o.op with
    | some (p, x) =>
      match o.guard with
      | none => (runD T ops l (σ.put o.dst x)).map fun r => (p ∧ r.1, spPure ops σ o x :: r.2.1, r.2.2)
      | some g =>
        match guardOf ops σ (some g) with
        | some c => (runD T ops l (σ.put o.dst (mkc c x))).map fun r => ((c = true → p) ∧ r.1, spPure ops σ o (mkc c x) :: r.2.1, r.2.2)
        | none => none
    | none => some (True, [], o :: l, σ)

theorem spPure_app (ops : Array Oper) (σ : St) (o : Oper) (x : AV) : (spPure ops σ o x).app σ = σ.put o.dst x := by
  simp [Sp.app, spPure]

/-- the operations up to 'l'' do what 'ps' says -/
theorem runD_sound (hT : TabOK P T) (ops : Array Oper) : ∀ (l : List Oper) (σ : St) {p : Prop} {ps : List Sp} {l' : List Oper} {σ' : St}, runD T ops l σ = some (p, ps, l', σ') → p →
    ∀ {l2 : List Oper} {ps2 : List Sp}, RobChain P C ops l2 ps2 σ' → l' = l2 ++ (l'.drop l2.length) → ∃ l1, l = l1 ++ l' ∧ RobChain P C ops (l1 ++ l2) (ps ++ ps2) σ
  | [], σ, p, ps, l', σ', h, _, l2, ps2, hc, _ => by
    simp only [runD, Option.some.injEq, Prod.mk.injEq] at h
    obtain ⟨_, rfl, rfl, rfl⟩ := h
    exact ⟨[], rfl, hc⟩
  | o :: l, σ, p, ps, l', σ', h, hp, l2, ps2, hc, he => by
    unfold runD at h
    split at h
    · rename_i q x hpo
      split at h
      · rename_i hg
        cases e : runD T ops l (σ.put o.dst x) with
        | none => rw [e] at h; cases h
        | some r =>
          obtain ⟨r1, r2, r3, r4⟩ := r
          simp only [e, Option.map_some, Option.some.injEq, Prod.mk.injEq] at h
          obtain ⟨rfl, rfl, rfl, rfl⟩ := h
          obtain ⟨l1, h1, h2⟩ := runD_sound hT ops l _ e hp.2 hc he
          exact ⟨o :: l1, by rw [h1]; rfl, rob_pure0 hT hg hpo hp.1, by rw [spPure_app]; exact h2⟩
      · rename_i g hg
        split at h
        · rename_i c hc'
          cases e : runD T ops l (σ.put o.dst (mkc c x)) with
          | none => rw [e] at h; cases h
          | some r =>
            obtain ⟨r1, r2, r3, r4⟩ := r
            simp only [e, Option.map_some, Option.some.injEq, Prod.mk.injEq] at h
            obtain ⟨rfl, rfl, rfl, rfl⟩ := h
            obtain ⟨l1, h1, h2⟩ := runD_sound hT ops l _ e hp.2 hc he
            exact ⟨o :: l1, by rw [h1]; rfl, rob_pure hT (by rw [hg]; exact hc') hpo hp.1 (.inr ⟨x, .inr trivial⟩), by rw [spPure_app]; exact h2⟩
        · cases h
    · simp only [Option.some.injEq, Prod.mk.injEq] at h
      obtain ⟨_, rfl, rfl, rfl⟩ := h
      exact ⟨[], rfl, hc⟩

end
end Go.Eng
