/- The abstract machine, part D: an operation that leaves the world as it is yields what 'pureOp' says. No condition. -/
import Derived.Test.YtkbphnddfgjjnaaEngC
import Derived.Laws.Slices
namespace Go.Eng
section sound
variable {P : Program} {T : Tab} {C : Ctx} {μ : Nat → Option Nat} {S : Nat → Prop} {σ : St} {a : Act} {w : World}

theorem sound_addStr {op : BinOp} {t : TypeId} {ox oy : Operand} {v u : Value} {x y r : AV} {p : Prop} (h : addStr op x y = some (p, r)) (hp : p) (hv : Rd μ S w v x) (hu : Rd μ S w u y) :
    ∃ q, (do eqGuard op t ox oy v u; binOp op t v u : Sem Value).run P w = .ok q w ∧ Rd μ S w q r := by
  unfold addStr at h
  split at h
  · simp only [Option.some.injEq, Prod.mk.injEq] at h
    obtain ⟨rfl, rfl⟩ := h
    obtain ⟨s, rfl, rfl⟩ := hv.inv_str
    obtain ⟨s', rfl, rfl⟩ := hu.inv_str
    have h1 : s.data.toList.length = s.size := by simp
    have h2 : s'.data.toList.length = s'.size := by simp
    rw [h1, h2] at hp
    refine ⟨.string (s ++ s'), ?_, .pure (.str _ _ (by simp))⟩
    simp only [eqGuard_at_string, pure_bind, binOp_string_add]
    exact run_string_add_sum w s s' (by omega)
  · cases h

theorem sound_un {op : UnOp} {v : Value} {x r : AV} (h : unAV op x = some r) (hv : Rd μ S w v x) : ∃ q, (Op.unary op v).run P w = .ok q w ∧ Rd μ S w q r := by
  unfold unAV at h
  split at h
  · injection h with h; subst h
    obtain rfl := hv.inv_bool
    exact ⟨_, rfl, .pure (.bool _)⟩
  · injection h with h; subst h
    obtain rfl := hv.inv_int
    exact ⟨_, rfl, .pure (.int _ _)⟩
  · cases h

theorem sound_pick (hi : Inv C μ S σ a w) {c x y : Operand} {r : AV} {p : Prop} (h : pickAV (ev σ c) (ev σ x) (ev σ y) = some (p, r)) (hp : p) :
    ∃ b, a.eval c = .bool b ∧ Rd μ S w (if b then a.eval x else a.eval y) r := by
  unfold pickAV at h
  have hc := (hi.ev c).strip
  have hx := (hi.ev x).strip
  have hy := (hi.ev y).strip
  revert h hc hx hy
  generalize strip (ev σ c) = qc
  generalize strip (ev σ x) = qx
  generalize strip (ev σ y) = qy
  intro h hc hx hy
  split at h
  · rename_i pc b
    split at h
    · simp only [Option.some.injEq, Prod.mk.injEq] at h
      obtain ⟨rfl, rfl⟩ := h
      obtain ⟨h1, h2, h3⟩ := hp
      refine ⟨b, (hc h1).inv_bool, ?_⟩
      cases b with
      | true => simpa using hx (h2 rfl)
      | false => simpa using hy (h3 rfl)
    · cases h
  · cases h

theorem run_getObj_map {g clk : Nat} {es : Array MapEntry} (h : w.heap[g]? = some (.map es clk)) : (getObj g).run P w = .ok (.map es clk) w := by
  simp [getObj, Sem.run, h]

theorem sound_len (hT : TabOK P T) (hi : Inv C μ S σ a w) {t ty : TypeId} {v : Value} {x r : AV} (h : lenAV T σ t x = some r) (hv : Rd μ S w v x) :
    ∃ u, (Builtin.len_ #[t] ty #[v]).run P w = .ok u w ∧ Rd μ S w u r := by
  unfold lenAV at h
  have ht := hT.und t
  split at h <;> (try cases h) <;> rename_i hu <;> rw [hu] at ht <;> simp only [KDOK] at ht
  · obtain ⟨s, rfl, rfl⟩ := hv.inv_str
    exact ⟨.int .i64 s.size, by simp [Builtin.len_, run_underlying ht, goInt], by simpa using Rd.pure (.int .i64 s.size)⟩
  · obtain ⟨A, cap, size, g, off, vals, rfl, _⟩ := hv.inv_sl.inv_sl
    exact ⟨_, by simp [Builtin.len_, run_underlying ht, goInt], .pure (.int _ _)⟩
  · obtain rfl := hv.inv_nils
    exact ⟨_, by simp [Builtin.len_, run_underlying ht, goInt], .pure (.int _ _)⟩
  · obtain ⟨A, cap, rfl, _⟩ := hv.inv_osl
    exact ⟨_, by simp [Builtin.len_, run_underlying ht, goInt], .pure (.int _ _)⟩
  · obtain rfl := hv.inv_nilm
    exact ⟨_, by simp [Builtin.len_, run_underlying ht, goInt], .pure (.int _ _)⟩
  · obtain ⟨g, es, clk, ps, vals, rfl, hS, hg, hm, hr⟩ := hv.inv_rm.inv_rm
    refine ⟨.int .i64 es.size, by simp [Builtin.len_, run_underlying ht, goInt, run_getObj_map hg], ?_⟩
    rw [hm.size_eq]; exact .pure (.int _ _)
  · split at h <;> (try cases h)
    rename_i kvs hb
    obtain ⟨g, hg, rfl⟩ := hv.inv_mp
    obtain ⟨g', es, clk, ps, vals, h1, h2, h3, h4⟩ := hi.hp _ _ hb
    rw [h1] at hg; injection hg with hg; subst hg
    refine ⟨.int .i64 es.size, by simp [Builtin.len_, run_underlying ht, goInt, run_getObj_map h2], ?_⟩
    rw [h3.size_eq]; exact .pure (.int _ _)

theorem evSL_len (os : List Operand) : (evSL σ os).2.length = os.length := by
  induction os with
  | nil => rfl
  | cons o r ih => simp [evSL, ih]

theorem Inv.evSL (hi : Inv C μ S σ a w) : ∀ (os : List Operand), (Eng.evSL σ os).1 → ∀ (j : Nat) x, (Eng.evSL σ os).2[j]? = some x → ∃ o, os[j]? = some o ∧ Rd μ S w (a.eval o) x
  | [], _, j, x, hx => by simp [Eng.evSL] at hx
  | o :: r, hp, j, x, hx => by
    simp only [Eng.evSL] at hp hx
    cases j with
    | zero => simp only [List.getElem?_cons_zero, Option.some.injEq] at hx; subst hx; exact ⟨o, rfl, hi.evS o hp.1⟩
    | succ j => simp only [List.getElem?_cons_succ] at hx ⊢; exact hi.evSL r hp.2 j x hx

theorem ord_of (hi : Inv C μ S σ a w) (o : Option Operand) (h : (evSL σ o.toList).1) : ORd μ S w (o.map fun o => (evS σ o).2) (o.map a.eval) := by
  cases o with
  | none => trivial
  | some o => exact hi.evS o h.1

/-- THE VALUE OF AN OPERATION THAT LEAVES THE WORLD AS IT IS. -/
theorem sound_pure (hT : TabOK P T) (hi : Inv C μ S σ a w) (o : Oper) {p : Prop} {x : AV} (h : pureOp T σ o.op = some (p, x)) (hp : p) :
    ∃ u, (execOp a.eval o).run P w = .ok (.value u) w ∧ Rd μ S w u x := by
  unfold pureOp at h
  unfold execOp
  split at h
  · simp only [Option.some.injEq, Prod.mk.injEq] at h
    obtain ⟨rfl, rfl⟩ := h
    rename_i he; rw [he]
    exact ⟨_, rfl, hi.ev _⟩
  · simp only [Option.some.injEq, Prod.mk.injEq] at h
    obtain ⟨rfl, rfl⟩ := h
    rename_i he; rw [he]
    exact ⟨_, rfl, hi.ev _⟩
  · rename_i he; rw [he]
    obtain ⟨b, h1, h2⟩ := sound_pick hi h hp
    refine ⟨_, ?_, h2⟩
    simp [h1, asBool]
  · rename_i t y he; rw [he]
    cases hl : loadOp T σ t (evS σ y).2 with
    | none => rw [hl] at h; cases h
    | some q =>
      simp only [hl, Option.map_some, Option.some.injEq, Prod.mk.injEq] at h
      obtain ⟨rfl, rfl⟩ := h
      obtain ⟨u, h1, h2⟩ := sound_load hT hi (p := q.1) (r := q.2) hl hp.2 (hi.evS y hp.1)
      exact ⟨u, by simp [h1], h2⟩
  · rename_i y he; rw [he]
    split at h <;> (try cases h)
    · rename_i id size row off hy
      have hv := hi.evS y hp
      rw [hy] at hv
      obtain ⟨g, hg, hv'⟩ := hv.inv_ptr
      exact ⟨_, by simp [hv'], .ptr id size row off g hg⟩
    · rename_i cells off hy
      have hv := hi.evS y hp
      rw [hy] at hv
      obtain ⟨g, o', vals, hv', _⟩ := hv.inv_rp.inv_rp
      exact ⟨a.eval y, by simp [hv'], hv⟩
  · rename_i op t y z ty he; rw [he]
    split at h
    · rename_i r hb
      simp only [Option.some.injEq, Prod.mk.injEq] at h
      obtain ⟨rfl, rfl⟩ := h
      obtain ⟨q, h1, h2⟩ := sound_bin (P := P) (μ := μ) (S := S) (w := w) (ox := y) (oy := z) hT hb (hi.evS y hp.1) (hi.evS z hp.2)
      exact ⟨q, by simp only [Sem.run_bind] at h1 ⊢; rw [h1]; rfl, h2⟩
    · cases hl : addStr op (evS σ y).2 (evS σ z).2 with
      | none => rw [hl] at h; cases h
      | some q =>
        simp only [hl, Option.map_some, Option.some.injEq, Prod.mk.injEq] at h
        obtain ⟨rfl, rfl⟩ := h
        obtain ⟨u, h1, h2⟩ := sound_addStr (P := P) (μ := μ) (S := S) (w := w) (t := t) (ox := y) (oy := z) (p := q.1) (r := q.2) hl hp.2.2 (hi.evS y hp.1) (hi.evS z hp.2.1)
        exact ⟨u, by simp only [Sem.run_bind] at h1 ⊢; rw [h1]; rfl, h2⟩
  · rename_i op t y he; rw [he]
    cases hl : unAV op (evS σ y).2 with
    | none => rw [hl] at h; cases h
    | some q =>
      simp only [hl, Option.map_some, Option.some.injEq, Prod.mk.injEq] at h
      obtain ⟨rfl, rfl⟩ := h
      obtain ⟨u, h1, h2⟩ := sound_un (P := P) (μ := μ) (S := S) (w := w) hl (hi.evS y hp)
      exact ⟨u, by simp [h1], h2⟩
  · rename_i t y j he; rw [he]
    cases hl : fieldAddrAV T t (evS σ y).2 j with
    | none => rw [hl] at h; cases h
    | some q =>
      simp only [hl, Option.map_some, Option.some.injEq, Prod.mk.injEq] at h
      obtain ⟨rfl, rfl⟩ := h
      obtain ⟨u, h1, h2⟩ := sound_fieldAddr (P := P) (μ := μ) (S := S) (w := w) hT hl (hi.evS y hp)
      exact ⟨u, by simp [h1], h2⟩
  · rename_i t y j he; rw [he]
    cases hl : fieldAV T t (evS σ y).2 j with
    | none => rw [hl] at h; cases h
    | some q =>
      simp only [hl, Option.map_some, Option.some.injEq, Prod.mk.injEq] at h
      obtain ⟨rfl, rfl⟩ := h
      obtain ⟨u, h1, h2⟩ := sound_field (P := P) (μ := μ) (S := S) (w := w) hT (p := q.1) (r := q.2) hl hp.2 (hi.evS y hp.1)
      exact ⟨u, by simp [h1], h2⟩
  · rename_i t y j he; rw [he]
    cases hl : indexAddrAV T t (evS σ y).2 (evS σ j).2 with
    | none => rw [hl] at h; cases h
    | some q =>
      simp only [hl, Option.map_some, Option.some.injEq, Prod.mk.injEq] at h
      obtain ⟨rfl, rfl⟩ := h
      obtain ⟨u, h1, h2⟩ := sound_indexAddr (P := P) (μ := μ) (S := S) (w := w) hT (p := q.1) (r := q.2) hl hp.2.2 (hi.evS y hp.1) (hi.evS j hp.2.1)
      exact ⟨u, by simp [h1], h2⟩
  · rename_i t y j he; rw [he]
    cases hl : indexAV T t (evS σ y).2 (evS σ j).2 with
    | none => rw [hl] at h; cases h
    | some q =>
      simp only [hl, Option.map_some, Option.some.injEq, Prod.mk.injEq] at h
      obtain ⟨rfl, rfl⟩ := h
      obtain ⟨u, h1, h2⟩ := sound_index (P := P) (μ := μ) (S := S) (w := w) hT (p := q.1) (r := q.2) hl hp.2.2 (hi.evS y hp.1) (hi.evS j hp.2.1)
      exact ⟨u, by simp [h1], h2⟩
  · rename_i t y lo hi' he; rw [he]
    cases hl : sliceAV T t (evS σ y).2 (lo.map fun o => (evS σ o).2) (hi'.map fun o => (evS σ o).2) with
    | none => rw [hl] at h; cases h
    | some q =>
      simp only [hl, Option.map_some, Option.some.injEq, Prod.mk.injEq] at h
      obtain ⟨rfl, rfl⟩ := h
      obtain ⟨u, h1, h2⟩ := sound_slice (P := P) (μ := μ) (S := S) (w := w) hT (p := q.1) (r := q.2) hl hp.2.2.2 (hi.evS y hp.1) (ord_of hi lo hp.2.1) (ord_of hi hi' hp.2.2.1)
      exact ⟨u, by simp [h1], h2⟩
  · rename_i y j he; rw [he]
    split at h <;> (try cases h)
    rename_i vs hy
    have hv := hi.evS y hp.1
    rw [hy] at hv
    obtain ⟨us, hv', hl, hr⟩ := hv.inv_tup
    have hj : j < us.size := by omega
    refine ⟨us[j], by simp [hv', Instr.extract, hj], ?_⟩
    have := hr j (vs.getD j .any) (by rw [List.getD_eq_getElem?_getD, List.getElem?_eq_getElem hp.2]; rfl)
    rwa [Array.getD_eq_getD_getElem?, Array.getElem?_eq_getElem hj] at this
  · rename_i f first captured he; rw [he]
    split at h <;> (try cases h)
    rename_i hf
    have hf : first = #[] := by
      cases first with | mk l => cases l <;> simp_all
    subst hf
    refine ⟨.func (.func f) #[] (captured.map a.eval), by simp [Instr.makeFunc], .fn f _ _ (by rw [evSL_len]; simp) (fun j x hx => ?_)⟩
    obtain ⟨o, ho, hr⟩ := hi.evSL _ hp j x hx
    have : (captured.map a.eval).getD j undef = a.eval o := by
      rw [Array.getD_eq_getD_getElem?, Array.getElem?_map]
      have : captured[j]? = some o := by simpa using ho
      rw [this]; rfl
    rw [this]; exact hr
  · rename_i args ats he; rw [he]
    split at h <;> (try cases h)
    rename_i y t hy ht
    cases hl : lenAV T σ t (evS σ y).2 with
    | none => rw [hl] at h; cases h
    | some q =>
      simp only [hl, Option.map_some, Option.some.injEq, Prod.mk.injEq] at h
      obtain ⟨rfl, rfl⟩ := h
      have e1 : args = #[y] := by cases args; simp_all
      have e2 : ats = #[t] := by cases ats; simp_all
      subst e1 e2
      obtain ⟨u, h1, h2⟩ := sound_len (ty := o.type) (P := P) (μ := μ) (S := S) (w := w) hT hi hl (hi.evS y hp)
      exact ⟨u, by simp [resolve, invoke, builtin, h1], h2⟩
  · cases h

end sound
end Go.Eng
