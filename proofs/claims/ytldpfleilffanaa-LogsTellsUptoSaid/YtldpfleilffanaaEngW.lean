/- The abstract machine, part W: calls behind a guard. No condition. -/
import Derived.Test.YtldpfleilffanaaEngV
namespace Go.Eng
section
variable {P : Program} {T : Tab} {C : Ctx} {σ σ' s : St} {Ret : St → Prop}

theorem le_cnd (d : Option Tmp) (r : AV) : Le C (s.put d r) (s.put d (.cnd true r)) := by
  intro a w ⟨μ, S, hi⟩
  cases d with
  | none => exact ⟨μ, S, hi⟩
  | some t =>
    refine ⟨μ, S, { hi with size := by have := hi.size; simp only [St.put, List.length_set] at this ⊢; exact this, tm := fun i x hx => ?_ }⟩
    by_cases e : t = i
    · subst e
      simp only [St.put, List.getElem?_set, if_true] at hx
      split at hx
      · rename_i hl
        injection hx with hx
        subst hx
        exact .cndT _ _ (hi.tm t r (by simp only [St.put, List.getElem?_set, if_true]; rw [if_pos hl]))
      · cases hx
    · refine hi.tm i x ?_
      simp only [St.put, List.getElem?_set, if_neg e] at hx ⊢
      exact hx

theorem Trip.cnd {o : Oper} {r : AV} (h : Trip P C o s (s.put o.dst r)) : Trip P C o s (s.put o.dst (.cnd true r)) :=
  fun a w K Q hr hK => h a w K Q hr fun a' w' h' => hK a' w' (le_cnd o.dst r a' w' h')

theorem rob_callC {ops : Array Oper} {o : Oper} {c : Operand} {args : Array Operand} {ats : Array TypeId} (ho : o.op = .call { callee := .value c, args, argTypes := ats }) {b : Bool} (hg : guardOf ops σ o.guard = some b) {p : Prop} {f : FuncId} {xs : List AV}
    (h : callArgs σ c args.toList = some (p, f, xs)) (hp : b = true → p) (hc : Callable P f) (hx : refsL xs = []) {r : AV} (hr : refs r = []) (hf : b = true → FnOK P f xs [] fun r' _ => r' = r) : Rob P C ops o (spCall ops σ o c args.toList (.cnd b r)) σ := by
  refine rob_trip (b := b) hg ?_ fun hb s ha => ?_
  · cases b with
    | true => exact .inl rfl
    | false => exact .inr ⟨r, rfl⟩
  · subst hb
    exact (trip_call ho (by rw [callArgs_agree ha]; exact h) (hp rfl) hc hx hr (hf rfl)).cnd

/-- A CALL BEHIND A GUARD, IN A REGION THAT DRAWS. -/
theorem seg_callC {ops : Array Oper} {Q : Exit → Act → World → Prop} {k n : Nat} {acc : Skel} {o : Oper} {l : List Oper} {c : Operand} {args : Array Operand} {ats : Array TypeId} (ho : o.op = .call { callee := .value c, args, argTypes := ats }) {b : Bool} (hg : guardOf ops σ o.guard = some b) {p : Prop} {f : FuncId} {xs : List AV}
    (h : callArgs σ c args.toList = some (p, f, xs)) (hp : b = true → p) (hc : Callable P f) (hx : refsL xs = []) {r : AV} (hf : b = true → FnOK P f xs [] fun r' _ => r' = r) (hr : refs r = []) {sk : List Loc × List Loc} (hs : ((spCall ops σ o c args.toList (.cnd b r)).wr, (spCall ops σ o c args.toList (.cnd b r)).rd) = sk)
    (ha : σ.put o.dst (.cnd b r) = σ') (hk : SegFrom P C ops Q k n (acc ++ [sk]) l σ') : SegFrom P C ops Q k n acc (o :: l) σ :=
  seg_rob (rob_callC ho hg h hp hc hx hr hf) rfl hs (by rw [spCall_app]; exact ha) hk

/-- a call behind a guard -/
theorem cw_callC {k : List It} {all : Array Oper} {o : Oper} {l : List Oper} {c : Operand} {args : Array Operand} {ats : Array TypeId} (ho : o.op = .call { callee := .value c, args, argTypes := ats }) {b : Bool} (hg : guardOf all σ o.guard = some b) {p : Prop} {f : FuncId} {xs : List AV}
    (h : callArgs σ c args.toList = some (p, f, xs)) (hp : b = true → p) (hc : Callable P f) (hx : refsL xs = []) {r : AV} (hf : b = true → FnOK P f xs [] fun r' _ => r' = r) (hr : refs r = []) (ha : σ.put o.dst (.cnd b r) = σ') (hk : Cw P C Ret (.ops all l :: k) σ') : Cw P C Ret (.ops all (o :: l) :: k) σ := by
  subst ha
  intro a w hrel
  show wpList P all _ (o :: l) a w
  unfold wpList
  obtain ⟨μ, S, hi⟩ := hrel
  rw [wanted_of hi hg]
  cases b with
  | false => exact hk _ _ ⟨μ, S, hi.put o.dst (.cndF r)⟩
  | true => exact .inl ((trip_call ho h (hp rfl) hc hx hr (hf rfl)).cnd a w _ _ ⟨μ, S, hi⟩ fun a' w' h' => hk a' w' h')
end
end Go.Eng
